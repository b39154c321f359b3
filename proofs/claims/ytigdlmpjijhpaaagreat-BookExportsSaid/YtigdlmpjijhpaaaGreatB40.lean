import Derived.Test.YtigdlmpjijhpaaaGreatBA
import Derived.Test.YtigdlmpjijhpaaaGreatB39
import Derived.Lib.AppendZeros
import Derived.Test.YtigdlmpjijhpaaaGreatB34
import Derived.Test.YtigdlmpjijhpaaaGreatB30
import Derived.Test.YtigdlmpjijhpaaaGreatB31
import Derived.Test.YtigdlmpjijhpaaaGreatB27
import Derived.Test.YtigdlmpjijhpaaaGreatB32
import Derived.Test.YtigdlmpjijhpaaaGreatB23
import Derived.Test.YtigdlmpjijhpaaaGreatB36
import Derived.Lib.Strings
import Derived.Lib.Slices
import Derived.Lib.Small
import Derived.Lib.Walk
import Derived.Lib.BitFns
set_option linter.all false
namespace Go.Proofs.YtigdlmpjijhpaaaGreat.Ax
open Go Go.Proofs Go.RowKit Go.Lib
set_option maxRecDepth 100000
theorem yHa:∃i,Tryz.prog.info? 3=some i/\i.zero=some (.int .i64 0)/\i.size=1/\i.bytes=8:=by
 have h:(Tryz.prog.info? 3).map (λi=>(i.zero,i.size,i.bytes))=some (some (.int .i64 0),1,8):=by kernel_rfl
 cases hi:Tryz.prog.info? 3 with
 | none=>rw[hi] at h;cases h
 | some i=>
   rw[hi] at h
   injection h with h
   injection h with h1 h2
   injection h2 with h2 h3
   exact⟨i,rfl,h1,h2,h3⟩
theorem VDa{N:Nat}{B:Bs}{w:World}{g:Gh}{h:List Ob}{a:Act}{T b:Env}(r:Rel N B w g h a T)(c:∀i,b i=T i∨b i= .bad):Rel N B w g h a b:=
 ⟨r.ok,r.hB,λi=>by
  rcases c i with e|e
  ·rw[e];exact r.t i
  ·rw[e];trivial,r.d,r.n⟩
theorem yIa{P:Program}{N:Nat}{B:Bs}{φ:Nat->Ob}{ops:Array Oper}{o:Oper}{l:List Oper}{T:Env}{h h':List Ob}{x:AV}{w:World}{g:Gh}{a:Act}{Q:Exit->Act->World->Prop}(k:Upto φ h.length)(q:xc N o=true)(i:o.guard=none)(p:yr T o.op=none)
  (d:qc P T h o.op=some (x,h')) (r:Rel N B w g (fill φ h) a T) (next:∀g' w' c,ResK h h'->Rel N B w' g' (fill φ h') c (qW T o.dst x)->Good B.b w g (fill φ h) w' g' (fill φ h')->wpListIn Fence.wide 0 P ops Q l c w'):wpListIn Fence.wide 0 P ops Q (o::l) a w:=by
 unfold wpListIn
 rw[if_pos (by simp[Region.wanted,i])]
 refine XS (K:=λf e=>f=qW T o.dst x/\e=h') 0 k q ?_ r ?_
 ·unfold WG
  rw[p]
  unfold wV
  rw[d]
  exact⟨rfl,rfl⟩
 ·rintro f e w' c ⟨rfl,rfl⟩ ⟨g',n,j,m⟩
  exact next g' w' c n j m
theorem kya(w:World)(b:Nat):(Instr.sliceAt 42 (.pointer (some ⟨b,0,none⟩)) none none none).run Tryz.prog w= .ok (.slice (some ⟨b,0,none⟩) 7 7) w:=by
 obtain⟨i,hi,e,c,d⟩:=yHa
 have a:Tryz.prog.underlying 42=some (.array 7 3):=Tryz.underlying42
 simp[Instr.sliceAt,Instr.sureAddr,run_underlying a,Instr.sliceBounds,sizeOf,typeInfo,hi,Addr.add_lit]
set_option maxHeartbeats 1000000 in
theorem VEa{N:Nat}{B:Bs}{T:Env}{h:List Ob}{Q:jF}{id i p q d D m d3:Nat}{ops:Array Oper}{O o1 o2 L:Oper}{rest:List Oper}(f:Nat->Int)(v:Int)(M:ops.toList=O::o1::o2::L::rest)
  (hd:ops.toList.all (xc N)=true) (e0:O.op= .slice 42 (.tmp p) none none none) (s0:O.dst=some d) (g0:O.guard=none)
  (e1:o1.op= .move (.tmp q)) (s1:o1.dst=some D) (g1:o1.guard=none)
  (e2:o2.op= .buildSlice 27 1 #[(0,.tmp D)]) (s2:o2.dst=some m) (g2:o2.guard=none)
  (e3:L.op= .call { callee:= .builtin .append,args:= #[.tmp d,.tmp m],argTypes:= #[27,27] }) (s3:L.dst=some d3) (g3:L.guard=none)
  (n01:D≠d) (n02:m≠d) (nq:q≠d)
  (hp:T p= .ptr i 0) (hb:h[i]? =some (.box 42 (yo f))) (hq:T q=i64 v)
  (k:wpR Tryz.prog ops (Q .normal) rest (upd (upd (upd (upd T d .bad) D (i64 v)) m (.tl h.length 0)) d3 (.tl (h.length+1) 0)) (h++[.row 3 1 [[i64 v]] 0]++[.row 3 1 ([f 0,f 1,f 2,f 3,f 4,f 5,f 6,v].map qB) 0])):
  AWp Tryz.prog N B (.region id ops false) Q T h:=λφ hu w g a r=>by
 refine(wpIn_wide (n:=0)).1 (wpIn_region ?_)
 rw[List.range_eq_range', <-qH,wpOpsIn_eq_wpListIn ops.toList 0 (by simp),M]
 rw[M] at hd
 simp only[List.all_cons,zl] at hd
 obtain⟨hd0,hd1,hd2,hd3,hdr⟩:=hd
 have o:=r.t p
 rw[hp] at o
 obtain⟨X,o⟩:=o
 have o:a.eval (.tmp p)= .pointer (some ⟨g.β i,0,none⟩):=o
 have c0:O.wpIn Fence.wide 0 Tryz.prog a w (wpListIn Fence.wide 0 Tryz.prog ops (λe U w'=>∃s h',Q e s h'/\Aft N B φ w g h s h' U w') (o1::o2::L::rest)) (λe U w'=>∃s h',Q e s h'/\Aft N B φ w g h s h' U w'):=by
  refine xQ 0 ?_
  unfold Oper.wp
  have ζ:(execOp a.eval O).run Tryz.prog w= .ok (.value (.slice (some ⟨g.β i,0,none⟩) 7 7)) w:=by
   obtain⟨dst,op,type,pos,after,guard⟩:=O
   simp only at e0
   subst e0
   have:=kya w (g.β i)
   simp only[execOp,o]
   simp[this]
  rw[ζ]
  show wpListIn Fence.wide 0 Tryz.prog ops _ (o1::o2::L::rest) (a.put O.dst (.slice (some ⟨g.β i,0,none⟩) 7 7)) w
  have r1:=xU (x:= .v (.slice (some ⟨g.β i,0,none⟩) 7 7)) (v:= .slice (some ⟨g.β i,0,none⟩) 7 7) r (Good.refl r.ok r.hB) rfl hd0
  rw[s0] at r1⊢
  obtain⟨S,μ⟩:∃S,S=Value.slice (some ⟨g.β i,0,none⟩) 7 7:=⟨_,rfl⟩
  rw[<-μ] at r1⊢
  obtain⟨W,H⟩:∃W,W=qW T (some d) (.v S):=⟨_,rfl⟩
  rw[<-H] at r1
  have t1q:W q=i64 v:=by rw[H];show upd T d _ q=_;unfold upd;rw[if_neg nq];exact hq
  have t1d:W d= .v S:=by rw[H];show upd T d _ d=_;unfold upd;rw[if_pos rfl]
  refine yIa (x:=i64 v) (h':=h) hu hd1 g1 (by rw[e1];rfl) (by rw[e1];simp only[qc,ev,t1q]) r1 ?_
  intro g2' w2 a2 q1 r2 k2
  rw[s1] at r2
  obtain⟨V,K⟩:∃V,V=qW W (some D) (i64 v):=⟨_,rfl⟩
  rw[<-K] at r2
  have t2d:V d= .v S:=by rw[K];show upd W D _ d=_;unfold upd;rw[if_neg (Ne.symm n01)];exact t1d
  have t2v:V D=i64 v:=by rw[K];show upd W D _ D=_;unfold upd;rw[if_pos rfl]
  refine yIa (x:= .tl h.length 0) (h':=h++[.row 3 1 [[i64 v]] 0]) hu hd2 g2 (by rw[e2];rfl) (by rw[e2];simp only[qc,jA,go_sem,evs,ev,t2v]) r2 ?_
  intro E c a3 q2 F k3
  rw[s2] at F
  obtain⟨T3,I⟩:∃T3,T3=qW V (some m) (.tl h.length 0):=⟨_,rfl⟩
  rw[<-I] at F
  have t3d:T3 d= .v S:=by rw[I];show upd V m _ d=_;unfold upd;rw[if_neg (Ne.symm n02)];exact t2d
  have t3v:T3 m= .tl h.length 0:=by rw[I];show upd V m _ m=_;unfold upd;rw[if_pos rfl]
  obtain⟨A,J⟩:∃A,A=h++[.row 3 1 [[i64 v]] 0]:=⟨_,rfl⟩
  rw[<-J] at F k3 q2 k
  have hl3:A.length=h.length+1:=by rw[J];simp
  have ε:Upto φ A.length:=hu.mono (by omega)
  have hb3:A[i]? =some (.box 42 (yo f)):=by rw[J];exact zf hb
  have hr3:A[h.length]? =some (.row 3 1 [[i64 v]] 0):=by rw[J,zM rfl];rfl
  have kk:=k2.trans k3
  have hβ:E.β i=g.β i:=kk.le.β i X
  have w0:a3.eval (.tmp d)=S:=by
   have:=F.t d
   rw[t3d] at this
   exact this
  have σ:=F.t m
  rw[t3v] at σ
  obtain⟨_,_,ξ⟩:=σ
  have R:=qy (φ:=φ) hr3 rfl
  have e4:a3.eval (.tmp m)=E.cur h.length:=(ξ 0 (by simp[ctx,R,Ob.tok])).2 rfl
  obtain⟨_,_,cells,c2,c3⟩:=F.ok.ok _ _ R
  obtain⟨u,rr,z1,z2,z3⟩:=c3
  have z2:u= .int .i64 v:=z2
  have z3:rr=[]:=z3
  subst z1 z2 z3
  have Y:=(W8 F.ok (qy (φ:=φ) hb3 rfl)).vals
  obtain⟨vs,v1,v2⟩:=Y
  rw[hβ] at v2
  have C:vs.length=7:=by rw[<-vB v1];rfl
  obtain⟨ii,hi,hz,hs,hby⟩:=yHa
  rcases c2.2 with⟨_,e5⟩|⟨gg,cap,cur,e5,e6,e7,e8,e9,e10,e11⟩
  ·cases e5
  ·have e5:E.cur h.length= .slice (some ⟨gg,0,none⟩) 1 cap:=e5
   have z:=run_append_grow (P:=Tryz.prog) c 27 L.type 3 ii (.int .i64 0) Tryz.underlying27 hi hz ⟨g.β i,0,none⟩ 7 7 vs (by rw[hs,C]) v2 ⟨gg,0,none⟩ 1 cap [.int .i64 v] (by rw[hs];rfl) (λj x hx=>by
     have hj:j=0:=by
      cases j with
      | zero=>rfl
      | succ j=>simp at hx
     subst hj
     have hx:x= .int .i64 v:=by simpa using hx.symm
     subst hx
     have:cur[0]? =some (.int .i64 v):=by
      have:=congrArg (λl:List Value=>l[0]?) e11
      simpa [jr] using this
     simp[World.cell?,e7,Addr.add_lit,this]) (by omega) (by omega) (growslice_fits (by omega) (by rw[hby];omega))
   have ι:=grownCap_ge c 8 7 3
   have ν:=grownCap_le_maxLen c 8 7 3 (by unfold maxLen;omega)
   obtain⟨G,hG⟩:∃G,G=grownCap c (7+1) 7 3:=⟨_,rfl⟩
   have hG8:grownCap c 8 7 3=G:=hG.symm
   rw[hG8] at ι ν
   rw[<-hG] at z
   obtain⟨cs,Z⟩:∃cs:Array Value,cs=vs.toArray++ #[Value.int .i64 v]++Builtin.zeroCells (Value.int .i64 0).cells (G - (7+1)):=⟨_,rfl⟩
   have θ:(vs.toArray++[Value.int .i64 v].toArray++Builtin.zeroCells (Value.int .i64 0).cells (G - (7+1)))=cs:=Z.symm
   rw[θ] at z
   have hsz:cs.size=G*1:=by
    rw[Z]
    simp only[Array.size_append,qTa,List.size_toArray,C]
    simp[Value.cells];omega
   have htk:cs.toList.take (8*1)=vs++[.int .i64 v]:=by
    rw[Z]
    simp only[Array.toList_append,List.toList_toArray]
    rw[qO (by simp[C])]
    rw[List.take_of_length_le (by simp[C])]
   have η:ARs (ctx c E (fill φ A)) ([f 0,f 1,f 2,f 3,f 4,f 5,f 6,v].map qB).flatten (vs++[.int .i64 v]):=by
    have:=xj v1 (show ARs (ctx c E (fill φ A)) [i64 v] [.int .i64 v] from⟨_,_,rfl,rfl,rfl⟩)
    exact this
   have ο:Below c.heap.size c (c.drew.alloc (.cells cs 3)):=(show Below c.heap.size c c.drew from⟨rfl,rfl,rfl,zn _,λ_ _=>rfl⟩).alloc (zn _) _
   obtain⟨m1,m2⟩:=Jq F.ok F.hB (ty:=3) (e:=1) (by decide) (xs:=[f 0,f 1,f 2,f 3,f 4,f 5,f 6,v].map qB) (λx hx=>by
     obtain⟨y,_,rfl⟩:=zw.1 hx
     rfl) (v':= .slice (some ⟨c.heap.size,0,none⟩) 8 G) 0 ο
    ⟨by rw[ze,C];rfl,.inr ⟨c.heap.size,G,cs,rfl,F.hB,heap_alloc_new c.drew _,ι,ν,hsz,htk⟩⟩ η (λb hb=>by injection hb with hb;subst hb;exact zn _)
   have hfl:fill φ (A++[.row 3 1 ([f 0,f 1,f 2,f 3,f 4,f 5,f 6,v].map qB) 0])=fill φ A++[.row 3 1 ([f 0,f 1,f 2,f 3,f 4,f 5,f 6,v].map qB) 0]:=jC ε
   rw[q9] at m1 m2
   rw[<-hfl] at m1 m2
   have c3:L.wpIn Fence.wide 0 Tryz.prog a3 c (wpListIn Fence.wide 0 Tryz.prog ops (λe U w'=>∃s h',Q e s h'/\Aft N B φ w g h s h' U w') rest) (λe U w'=>∃s h',Q e s h'/\Aft N B φ w g h s h' U w'):=by
    refine xQ 0 (wp_append_run c (.tmp d) (.tmp m) 27 27 e3 S (.slice (some ⟨gg,0,none⟩) 1 cap) w0 (by rw[e4,e5]) (.slice (some ⟨c.heap.size,0,none⟩) 8 G) (c.drew.alloc (.cells cs 3)) (by rw[μ];exact z) ?_)
    have r4:=xU (x:= .tl A.length 0) (v:= .slice (some ⟨c.heap.size,0,none⟩) 8 G) F m1 m2 hd3
    rw[s3] at r4⊢
    have r5:Rel N B _ _ _ _ (upd (upd (upd (upd T d .bad) D (i64 v)) m (.tl h.length 0)) d3 (.tl (h.length+1) 0)):=VDa r4 (λj=>by
     rw[I,K,H,hl3]
     simp only[qW,upd]
     by_cases j3:j=d3
     ·rw[if_pos j3,if_pos j3];exact .inl rfl
     ·rw[if_neg j3,if_neg j3]
      by_cases j2:j=m
      ·rw[if_pos j2,if_pos j2];exact .inl rfl
      ·rw[if_neg j2,if_neg j2]
       by_cases j1:j=D
       ·rw[if_pos j1,if_pos j1];exact .inl rfl
       ·rw[if_neg j1,if_neg j1]
        by_cases j0:j=d
        ·rw[if_pos j0];exact .inr rfl
        ·rw[if_neg j0,if_neg j0];exact .inl rfl)
    refine yc rest hdr (ε.mono (by rw[ze];omega)) (Wf _ k) r5 ?_
    intro s h' w' U q hq4
    refine⟨s,h',q,hq4.trans ?_ ((k2.trans k3).trans m1)⟩
    exact(q1.trans q2).trans qS
   unfold wpListIn
   rw[if_pos (by simp[Region.wanted,g3])]
   exact c3
 unfold wpListIn
 rw[if_pos (by simp[Region.wanted,g0])]
 exact c0
end Go.Proofs.YtigdlmpjijhpaaaGreat.Ax
namespace Go.Proofs.YtigdlmpjijhpaaaGreat.Ax
open Go Go.Proofs
set_option maxRecDepth 100000
section
variable {P:Program} {N:Nat} {B:Bs} {Q:jF} {T:Env} {h:List Ob}
theorem qK{c:Code}(k:AWp P N B c Q T h): @yD P N B ⟨(c,Q)⟩ T h:=k
theorem qf{c c':Code}(a:okC N c=true)(k:wpC P N B c (yC (λT h=> @yD P N B ⟨(c',Q)⟩ T h) Q) T h):AWp P N B (.seq c c') Q T h:=ZX (qn _ a k)
theorem jD{c c':Code}(k:AWp P N B c (yC (λT h=> @yD P N B ⟨(c',Q)⟩ T h) Q) T h):AWp P N B (.seq c c') Q T h:=ZX k
theorem yy{c c':Code}(S:Env->List Ob->Prop)(a:okC N c=true)(k1:wpC P N B c (yC S Q) T h)(k2:∀T h,S T h->AWp P N B c' Q T h):AWp P N B (.seq c c') Q T h:=
 ZX ((qn _ a k1).mono λe T h q=>by cases e<;>first|exact k2 _ _ q|exact q)
end
def JU(s:Setup)(w:Nat):Int:=s.rates.getD w 0
def vm(s:Setup)(w:Nat)(t:Nat->Int)(j:Nat):Int:=if j=0 then 0 else qaa (wr (QZ (t j)*ZL s (JU s w) j)) 7200
def Jj(t:Nat->Int):Nat->Int
 | 0=>0
 | j+1=>if j=0 then 0 else wr (Jj t j+QZ (t j))
def Wt(s:Setup)(i:Nat):Int:=(s.tiers.getD i (0,0)).2
def vd(s:Setup)(g tier:Int):Int:=if 0<=tier/\tier<s.tiers.length then qaa (wr (QZ g*Wt s tier.toNat)) 3600 else 0
structure PayR where
 pays:Nat->Int
 extra:Int
 supp:Int
 total:Int
def jUa(s:Setup)(w:Nat)(t:Nat->Int)(g tier:Int):PayR:=
 let p:=vm s w t
 let e:=vd s g tier
 let sum:=(Ke 0 [p 0,p 1,p 2,p 3,p 4,p 5,p 6,e]).1
 let least:=(upI (wr (Jj t 7*s.least)) 3600).1
 let supp:=max 0 (wr (least - sum))
 ⟨p,e,supp,wr (sum+supp)⟩
def VFa(p:PayR):AV:= .tup [.ag (yo p.pays),i64 p.extra,i64 p.supp,i64 p.total,i64 0]
structure PB (h h':List Ob) (s:Setup) (a:SA) (t u:Nat->Int):Prop where
 pre:Pre h h'
 set_:h'[h.length]? =some (.box 30 (qd s a))
 tot:h'[h.length+1]? =some (.box 42 (yo t))
 pay:h'[h.length+2]? =some (.box 42 (yo u))
theorem PB.app{h h':List Ob}{s:Setup}{a:SA}{t u:Nat->Int}(k:PB h h' s a t u){M:List Ob}(b:NoRes M):PB h (h'++M) s a t u:=⟨k.pre.app b,zf k.set_,zf k.tot,zf k.pay⟩
theorem PB.put{h h':List Ob}{s:Setup}{a:SA}{t u b:Nat->Int}(k:PB h h' s a t u):PB h (h'.set (h.length+2) (.box 42 (yo b))) s a t b:=
 ⟨k.pre.set (by omega) rfl,by rw[zc (by omega)];exact k.set_,by rw[zc (by omega)];exact k.tot,zq k.pay⟩
theorem xsb(h:List Ob)(s:Setup)(a:SA)(k:SIn h s a)(f:SFit s)(β:qv s=true)(w:Nat)(hw:w<s.rates.length)(t:Nat->Int)(g tier:Int):
  ACalls Tryz.prog 60 [je s a,i64 w,.ag (yo t),i64 g,i64 tier] h λr h'=>r=VFa (jUa s w t g tier)/\h'=h:=by
 have ξ:=k.r.rows
 refine xF (N:=105) (rs:=[.cell 10 42,.tmp 11,.tmp 12,.tmp 13,.tmp 14]) (fn:=Tryz.f60) rfl rfl rfl rfl (qC rfl) rfl (⟨_,_,⟨rfl,rfl⟩,.refl⟩) λB=>?_
 refine qf (by decide) ?_
 simp only[go_sem,k.ones]
 refine qK (qf (by decide) ?_)
 simp only[go_sem,k.ones]
 refine zg (c16 _ s a (k.app _) f) ?_
 rintro _ J ⟨rfl,rfl⟩
 simp only[go_sem,β,qD,Bool.not_true]
 refine qK (qf (by decide) ?_)
 have Q:decide ((w:Int)<0)=false:=by rw[decide_eq_false_iff_not];omega
 have R:decide ((w:Int)≥(s.rates.length:Int))=false:=by rw[decide_eq_false_iff_not];omega
 have ε:∀M,z6 (h++M) a.r=some (s.rates.map qB):=λM=>(k.app M).r.rows
 simp only[go_sem,Q,qD,ε,R,zb]
 refine qK (qf (by decide) ?_)
 simp only[go_sem]
 refine qK (qf (by decide) ?_)
 simp only[go_sem]
 refine zP (by decide) (λm T h'=>∃n:Nat,n<=7/\PB h h' s a t (λj=>if j<n then vm s w t j else 0)/\T 1=i64 w/\T 3=i64 g/\T 4=i64 tier/\T 5= .ptr h.length 0/\T 7= .ptr (h.length+1) 0/\T 10= .ptr (h.length+2) 0/\T 11=i64 0/\T 15=i64 (Jj t n)/\T 34=i64 n/\m=7 - n) 7
  ⟨0,by omega,⟨⟨_,rfl,zr rfl (zr rfl (zG rfl))⟩,by rw[zM rfl];rfl,by rw[zK (k:=1) rfl];rfl,by rw[zK (k:=2) rfl];rfl⟩,by simp only[go_sem],by simp only[go_sem],by simp only[go_sem],by simp only[go_sem],by simp only[go_sem],by simp only[go_sem],by simp only[go_sem],by(simp only[go_sem]<;>rfl),by(simp only[go_sem]<;>rfl),rfl⟩ ?_
 rintro m T h' ⟨n,hn,u,t1,t3,t4,t5,V,t10,o,y,v,rfl⟩
 simp only[go_sem,v]
 refine ways (λe=>?_) (λe=>?_)
 ·have x:(n:Int)<7:=of_decide_eq_true e
  have l:n<7:=by omega
  simp only[go_sem,v]
  refine ways (λe0=>?_) (λe0=>?_)
  ·have D:n=0:=by simpa using e0
   subst D
   simp only[go_sem,v]
   have hu:(λj:Nat=>if j<0+1 then vm s w t j else 0)=λj=>if j<0 then vm s w t j else 0:=by
    funext j
    by_cases hj:j=0
    ·subst hj;rfl
    ·rw[if_neg (by omega),if_neg (by omega)]
   exact⟨6,by omega,1,by omega,by rw[hu];exact u,t1,t3,t4,t5,V,t10,o,y,rfl,rfl⟩
  ·have D:¬ n=0:=by simpa using e0
   have γ:=u.tot
   have hg:=Xva t l
   simp only[go_sem,V,v,γ,hg,x,l,Nat.mul_one,Nat.zero_add,Int.toNat_natCast,zh]
   refine zg (kxa _ _) ?_
   rintro _ A ⟨rfl,e2⟩
   rw[e2]
   simp only[go_sem,y]
   refine zV rfl [] 0 [(0,0,[]),(1,0,[]),(3,0,[]),(5,0,[]),(8,0,[]),(2,0,[]),(4,0,[]),(6,0,[]),(7,0,[]),(9,0,[]),(10,0,[]),(11,0,[]),(12,0,[]),(13,0,[])] rfl (by decide) (by decide) ?_
   have b:=u.set_
   have z:=u.pay
   have d:=((u.pre.sin k).r).rows
   have F:=((u.pre.sin k).r).at (i:=w) (by rw[zb];exact hw)
   have c:(s.rates.map qB)[w]? =some [i64 (JU s w)]:=by
    rw[zx,zi hw]
    simp[JU,List.getD,hw,qB]
   have I:(w:Int)<s.rates.length:=by omega
   have E:=kva (λj=>if j<n then vm s w t j else 0) l (vm s w t n)
   have Z:(λj:Nat=>if j=n then vm s w t n else if j<n then vm s w t j else 0)=λj:Nat=>if j<n+1 then vm s w t j else 0:=by
    funext j
    by_cases J:j=n
    ·subst J;rw[if_pos rfl,if_pos (by omega)]
    ·rw[if_neg J]
     by_cases A:j<n
     ·rw[if_pos A,if_pos (by omega)]
     ·rw[if_neg A,if_neg (by omega)]
   rw[Z] at E
   simp only[go_sem,t1,t5,t10,v,b,z,d,F,c,I,x,l,zb,Nat.mul_one,Nat.zero_add,Int.toNat_natCast,zh]
   refine zg (YXa _ s a (u.pre.sin k) (JU s w) n (by omega)) ?_
   rintro _ h3 ⟨rfl,K⟩
   rw[K]
   simp only[go_sem,t1,t5,t10,v,b,z,d,F,c,I,x,l,zb,Nat.mul_one,Nat.zero_add,Int.toNat_natCast,zh]
   refine zg (W3a _ _ _) ?_
   rintro _ h4 ⟨rfl,O⟩
   rw[O]
   have η:qaa (IntKind.wrap .i64 (QZ (t n)*ZL s (JU s w) n)) 7200=vm s w t n:=by unfold vm;rw[if_neg D]
   rw[η]
   simp only[go_sem,t1,t5,t10,v,b,z,d,F,c,I,E,x,l,zb,Nat.mul_one,Nat.zero_add,Int.toNat_natCast,zh]
   exact⟨7 - (n+1),by omega,n+1,by omega,u.put,t3,t4,V,o,by rw[Jj,if_neg D],qm (by omega) rfl,rfl⟩
 ·have R:¬ (n:Int)<7:=of_decide_eq_false e
  have Y:n=7:=by omega
  subst Y
  simp only[go_sem]
  have ν:(λj:Nat=>if j<7 then vm s w t j else 0)=λj:Nat=>if j<7 then vm s w t j else 0:=rfl
  refine qK (yy (λP A=>PB h A s a t (λj=>if j<7 then vm s w t j else 0)/\P 5= .ptr h.length 0/\P 10= .ptr (h.length+2) 0/\P 11=i64 (vd s g tier)/\P 15=i64 (Jj t 7)) (by decide) ?_ ?_)
  ·have b:=u.set_
   have d:=((u.pre.sin k).t).rows
   simp only[go_sem,t4,t5,b,d,zb]
   cases S:decide (tier≥0)
   ·have J:¬ tier≥0:=of_decide_eq_false S
    have hex:vd s g tier=0:=by unfold vd;rw[if_neg (λq=>J q.1)]
    simp only[go_sem,S,qD]
    rw[hex]
    exact⟨u,t5,t10,o,y⟩
   ·have J:0<=tier:=of_decide_eq_true S
    cases W:decide (tier<s.tiers.length)
    ·have A:¬ tier<s.tiers.length:=of_decide_eq_false W
     have hex:vd s g tier=0:=by unfold vd;rw[if_neg (λq=>A q.2)]
     simp only[go_sem,S,W,qD,t4,t5,b,d,zb]
     rw[hex]
     exact⟨u,t10,o,y⟩
    ·have A:tier<s.tiers.length:=of_decide_eq_true W
     simp only[go_sem,S,W,qD,t4,t5,b,d,zb]
     obtain⟨C,θ⟩:∃C:Nat,(C:Int)=tier:=⟨tier.toNat,by omega⟩
     subst θ
     have x:C<s.tiers.length:=by omega
     have G:=((u.pre.sin k).t).at (i:=C) (by rw[zb];exact x)
     have c:(s.tiers.map jP)[C]? =some [i64 (s.tiers.getD C (0,0)).1,i64 (s.tiers.getD C (0,0)).2]:=by
      rw[zx,zi x]
      simp[List.getD,x,jP]
     have hex:vd s g C=qaa (wr (QZ g*Wt s C)) 3600:=by unfold vd;rw[if_pos ⟨by omega,A⟩];rfl
     refine zV rfl [] 0 [(0,0,[]),(2,0,[]),(4,0,[]),(3,0,[]),(5,0,[]),(6,0,[]),(7,0,[]),(1,0,[3,5,7]),(8,0,[]),(9,0,[]),(10,0,[])] rfl (by decide) (by decide) ?_
     simp only[go_sem,t3,t4,t5,b,d,G,c,A,zb,Int.toNat_natCast,zh]
     refine zg (kxa _ _) ?_
     rintro _ h3 ⟨rfl,K⟩
     rw[K]
     simp only[go_sem,t3,t4,t5,b,d,G,c,A,zb,Int.toNat_natCast,zh]
     refine zg (W3a _ _ _) ?_
     rintro _ h4 ⟨rfl,O⟩
     rw[O]
     rw[show qaa (IntKind.wrap .i64 (QZ g*(s.tiers.getD C (0,0)).2)) 3600=vd s g C from hex.symm]
     simp only[go_sem,t3,t4,t5,b,d,G,c,A,zb,Int.toNat_natCast,zh]
     exact⟨u,t10,y⟩
  ·clear t1 t3 t4 t5 V t10 o y v u
   rintro P A ⟨u,t5,t10,o,y⟩
   refine jD (VEa (λj=>if j<7 then vm s w t j else 0) (vd s g tier) rfl (by decide) rfl rfl rfl rfl rfl rfl rfl rfl rfl rfl rfl rfl (by decide) (by decide) (by decide) t10 u.pay o ?_)
   simp only[go_sem]
   obtain⟨p,hp⟩:∃p,p=vm s w t:=⟨_,rfl⟩
   obtain⟨e,X⟩:∃e,e=vd s g tier:=⟨_,rfl⟩
   rw[<-hp, <-X]
   refine zg (xrb _ (.tl (A.length+1) 0) [p 0,p 1,p 2,p 3,p 4,p 5,p 6,e] ⟨by rw[qU,zK (k:=1) rfl];rfl,λ_=>by rw[jI,zK (k:=1) rfl];rfl⟩ (by show 8<1048576;decide)) ?_
   rintro _ h3 ⟨rfl,K⟩
   rw[K]
   simp only[go_sem,Xv]
   refine qK (qf (by decide) ?_)
   have H:=(u.app (M:=[.row 3 1 [[i64 e]] 0,.row 3 1 [qB (p 0),qB (p 1),qB (p 2),qB (p 3),qB (p 4),qB (p 5),qB (p 6),qB e] 0]) (zr rfl (zG rfl)))
   have b:=H.set_
   have z:(A++[.row 3 1 [[i64 e]] 0,.row 3 1 [qB (p 0),qB (p 1),qB (p 2),qB (p 3),qB (p 4),qB (p 5),qB (p 6),qB e] 0])[h.length+2]? =some (.box 42 (yo p)):=by
    have:=H.pay
    rw[show(yo λj=>if j<7 then vm s w t j else 0)=yo p by rw[hp];rfl] at this
    exact this
   simp only[go_sem,t5,y,b]
   refine zg (cUp _ _ _) ?_
   rintro _ h4 ⟨rfl,O⟩
   rw[O]
   simp only[go_sem,Xv]
   refine qK (qn _ (by decide) ?_)
   have hq:jUa s w t g tier=⟨p,e,max 0 (wr ((upI (wr (Jj t 7*s.least)) 3600).1 - (Ke 0 [p 0,p 1,p 2,p 3,p 4,p 5,p 6,e]).1)),wr ((Ke 0 [p 0,p 1,p 2,p 3,p 4,p 5,p 6,e]).1+max 0 (wr ((upI (wr (Jj t 7*s.least)) 3600).1 - (Ke 0 [p 0,p 1,p 2,p 3,p 4,p 5,p 6,e]).1)))⟩:=by rw[hp,X];rfl
   rw[hq]
   obtain⟨S0,φ⟩:∃S0,S0=(Ke 0 [p 0,p 1,p 2,p 3,p 4,p 5,p 6,e]).1:=⟨_,rfl⟩
   obtain⟨U,hU⟩:∃U,U=(upI (wr (Jj t 7*s.least)) 3600).1:=⟨_,rfl⟩
   simp only[go_sem,t10,z]
   rw[qM z]
   obtain⟨L,hL,hN⟩:=H.pre
   refine⟨VFa _,?_,.inr ⟨h,L,hL,rfl,rfl,.refl,rfl,rfl⟩⟩
   rw[<-X] at o
   simp only[go_sem,t10,o,z,VFa,QM]
theorem qZa{c:Ctx}:∀ {xs:List AV} {x:AV} {us:List Value},ARs c (xs++[x]) us->∃b u,us=b++[u]/\ARs c xs b/\AR c x u
 | [],x,us,⟨u,r,f,e,d⟩=>by
   have d:r=[]:=d
   subst d
   exact⟨[],u,f,rfl,e⟩
 | a::xs,x,us,⟨u,r,f,e,d⟩=>by
   obtain⟨b,v,i,g,h⟩:=qZa d
   subst i
   exact⟨u::b,v,f,⟨u,b,rfl,e,g⟩,h⟩
theorem qca{P:Program}{f:FuncId}{ar:List AV}{h:List Ob}{cs:List AV}{e:Nat}{rows:List (List AV)}(s:0<e)(i:qz h.length cs=true)(o:qQ h.length rows=true)(c:ACalls P f ar h λr h'=>∃L x,h'=h++L/\NoRes L/\r= .ag (cs++[x])/\New h e x rows L):ACalls P f ar h λr h'=>r= .ag (cs++[.sl e rows])/\h'=h:=by
 refine⟨c.1,⟨_,_,⟨rfl,rfl⟩,.refl⟩,λφ j B w g vs l hB b=>?_⟩
 refine(c.2.2 φ j B w g vs l hB b).mono λC w' ⟨v,r,h',g',y,⟨L,x,n,_,m,n1⟩,_,d,k⟩=>?_
 subst n m
 rw[jC j] at d k
 have a:(fill φ h).length=h.length:=q9
 obtain⟨us,rfl,q⟩:=k
 obtain⟨t,u,A,p,z⟩:=qZa q
 refine⟨_,_,h,g',y,⟨rfl,rfl⟩,.refl,d.drop rfl (by have:=l.ids;exact this),us,rfl,?_⟩
 rw[A]
 exact xj (ARs.less (xD w' g' (fill φ h) L) _ _ (by rw[q9];exact i) p) ⟨u,[],rfl,QT d.ok s z (n1 _ a) (λid hid=>by rw[a];exact n1.root id hid) (by rw[a];exact o),rfl⟩
theorem jVa{n:Nat}:∀l:List Seg,qQ n (l.map kG)=true
 | []=>rfl
 | s::l=>by
   rw[List.map_cons,qQ,jVa l];rfl
theorem jWa{n:Nat}:∀l:List Flg,qQ n (l.map xy)=true
 | []=>rfl
 | s::l=>by
   rw[List.map_cons,qQ,jWa l];rfl
theorem yKa(h:List Ob)(s:Setup)(a:SA)(k:SIn h s a)(f:SFit s)(x:AV)(l:List Ev)(w:Int)(b:SlOf h x 11 (l.map evC))(c:l.length<1048576):
  ACalls Tryz.prog 21 [je s a,x,i64 w] h λr h'=>r= .tup [.sl 5 ((qF s l w).1.map kG),.sl 2 ((qF s l w).2.map xy)]/\h'=h:=
 x9a (by decide) (by decide) (jVa _) (jWa _) (c21 h s a k f x l w b c)
def ve(s:Setup)(w k:Int):Int:=if !qv s then 70 else if w<0∨(s.rates.length:Int)<=w then 80 else if k<0∨52<k then 212 else 0
theorem Y0a(h:List Ob)(s:Setup)(a:SA)(k:SIn h s a)(f:SFit s)(w wk:Int):
  ACalls Tryz.prog 51 [je s a,i64 w,i64 wk] h λr h'=>r=i64 (ve s w wk)/\h'=h:=by
 have c:∀M,z6 (h++M) a.r=some (s.rates.map qB):=λM=>(k.app M).r.rows
 refine zj Tryz.f51 [.tmp 6] 28 rfl rfl rfl rfl rfl rfl (by decide) (⟨_,_,⟨rfl,rfl⟩,.refl⟩) λB=>?_
 simp only[go_sem,k.ones]
 refine zg (c16 _ s a (k.app _) f) ?_
 rintro _ d ⟨rfl,rfl⟩
 cases b:qv s
 ·simp only[go_sem,b,qD,Bool.not_false]
  refine zm ?_<;>(simp only[go_sem,ve,b]<;>try rfl)
 ·simp only[go_sem,b,qD,Bool.not_true]
  cases e:decide (w<0)
  ·have d:¬ w<0:=of_decide_eq_false e
   cases g:decide (w≥(s.rates.length:Int))
   ·have i:¬ (s.rates.length:Int)<=w:=of_decide_eq_false g
    cases j:decide (wk<0)
    ·have m:¬ wk<0:=of_decide_eq_false j
     cases l:decide (wk>52)
     ·have n:¬ 52<wk:=of_decide_eq_false l
      simp only[go_sem,e,g,j,l,qD,c,zb]
      refine zm ?_<;>(simp only[go_sem,ve,b,d,i,m,n]<;>try rfl)
     ·have n:52<wk:=of_decide_eq_true l
      simp only[go_sem,e,g,j,l,qD,c,zb]
      refine zm ?_<;>(simp only[go_sem,ve,b,d,i,m,n]<;>try rfl)
    ·have m:wk<0:=of_decide_eq_true j
     simp only[go_sem,e,g,j,qD,c,zb]
     refine zm ?_<;>(simp only[go_sem,ve,b,d,i,m]<;>try rfl)
   ·have i:(s.rates.length:Int)<=w:=of_decide_eq_true g
    simp only[go_sem,e,g,qD,c,zb]
    refine zm ?_<;>(simp only[go_sem,ve,b,d,i]<;>try rfl)
  ·have d:w<0:=of_decide_eq_true e
   simp only[go_sem,e,qD]
   refine zm ?_<;>(simp only[go_sem,ve,b,d]<;>try rfl)
def JW(s:Setup)(w:Int)(e:Ev):Bool:=e.worker != w || !wi s e
theorem q1b(h:List Ob)(s:Setup)(a:SA)(k:SIn h s a)(i j:Nat)(w:Int)(hi:h[i]? =some (.box 30 (qd s a)))(d:h[j]? =some (.box 3 [i64 w]))(e:Ev):
  ACalls Tryz.prog 54 [evV e,.ptr j 0,.ptr i 0] h λr h'=>r=bl (JW s w e)/\h'=h:=by
 have b:∀M,(h++M)[i]? =some (.box 30 (qd s a)):=λM=>zf hi
 have c:∀M,(h++M)[j]? =some (.box 3 [i64 w]):=λM=>zf d
 refine zj Tryz.f54 [.tmp 4] 15 rfl rfl rfl rfl rfl rfl (by decide) (⟨_,_,⟨rfl,rfl⟩,.refl⟩) λB=>?_
 simp only[go_sem,b,c,k.ones]
 cases q:e.worker != w
 ·simp only[go_sem,q,qD,b]
  refine zg (c14 _ s a (k.app _) e) ?_
  rintro _ f ⟨rfl,rfl⟩
  simp only[go_sem]
  refine zm ?_<;>(simp only[go_sem,JW,q]<;>try rfl)
 ·simp only[go_sem,q,qD]
  refine zm ?_<;>(simp only[go_sem,JW,q]<;>try rfl)
theorem q2b(h:List Ob)(j:Nat)(f:Flg)(b:h[j]? =some (.box 105 (xy f)))(e:Ev):
  ACalls Tryz.prog 62 [evV e,.ptr j 0] h λr h'=>r=bl (e.id==f.id)/\h'=h:=by
 have a:∀M,(h++M)[j]? =some (.box 105 [i64 f.id,i64 f.kind]):=λM=>zf b
 refine zj Tryz.f62 [.tmp 3] 9 rfl rfl rfl rfl rfl rfl (by decide) (⟨_,_,⟨rfl,rfl⟩,.refl⟩) λB=>?_
 simp only[go_sem,a]
 refine zm ?_<;>(simp only[go_sem]<;>try rfl)
def RowsK(h h':List Ob):Prop:=∀(id ty e:Nat) (xs:List (List AV)) (st:Nat),h[id]? =some (.row ty e xs st)->h'[id]? =some (.row ty e xs st)
theorem kCa{o:Option Ob}{e:Nat}(h:eTl o=some e):∃ty xs st,o=some (.row ty e xs st):=by
 unfold eTl at h
 split at h
 ·injection h with h
  subst h
  exact⟨_,_,_,rfl⟩
 ·cases h
theorem kDa{o:Option Ob}{st:Nat}{xs:List (List AV)}(h:qFa o st=some xs):∃ty e,o=some (.row ty e xs st):=by
 unfold qFa at h
 split at h
 ·split at h
  ·rename_i a
   injection h with h
   subst a h
   exact⟨_,_,rfl⟩
  ·cases h
 ·cases h
theorem zma{h h':List Ob}(k:RowsK h h'):∀(a:AV) {e:Nat},eOf h a=some e->eOf h' a=some e
 | .sl _ _,_,b=>b
 | .tl id st,e,b=>by
   rw[jI] at b⊢
   obtain⟨ty,xs,st',d⟩:=kCa b
   rw[k _ _ _ _ _ d];rfl
 | .vw a f i n,e,b=>by
   rw[Z7] at b⊢
   cases c:eOf h a with
   | none=>rw[c] at b;cases b
   | some ys=>
     rw[c] at b
     rw[zma k a c]
     exact b
 | .v _,_,b | .em,_,b | .ptr _ _,_,b | .ep _ _ _ _,_,b | .mp _,_,b | .ag _,_,b | .tup _,_,b | .fn _ _ _,_,b | .bad,_,b=>by cases b
theorem Ww{h h':List Ob}(k:RowsK h h'):∀(a:AV) {xs:List (List AV)},z6 h a=some xs->z6 h' a=some xs
 | .sl _ _,_,b=>b
 | .em,_,b=>b
 | .tl id st,xs,b=>by
   rw[qU] at b⊢
   obtain⟨ty,e,f⟩:=kDa b
   rw[k _ _ _ _ _ f,kQ,if_pos rfl]
 | .vw a e i n,xs,b=>by
   rw[kP] at b⊢
   cases c:z6 h a with
   | none=>rw[c] at b;cases b
   | some ys=>
     rw[c] at b
     rw[Ww k a c]
     simp only[Option.bind_some] at b⊢
     split at b
     ·rename_i d
      rw[if_pos ⟨d.1,d.2.imp id (zma k a)⟩]
      exact b
     ·cases b
 | .v x,_,b=>by rw[<-xQa (h:=h)];exact b
 | .ptr _ _,_,b | .ep _ _ _ _,_,b | .mp _,_,b | .ag _,_,b | .tup _,_,b | .fn _ _ _,_,b | .bad,_,b=>by cases b
theorem SlOf.keep{h h':List Ob}(k:RowsK h h'){a:AV}{e:Nat}{xs:List (List AV)}(q:SlOf h a e xs):SlOf h' a e xs:=⟨Ww k a q.rows,λb=>zma k a (q.ee b)⟩
theorem RowsK.setB{h:List Ob}{i:Nat}{t:TypeId}{cs:List AV}{o:Ob}(hi:h[i]? =some (.box t cs)):RowsK h (h.set i o):=λid ty e xs st q=>by
 have:i≠id:=λe=>by rw[e,q] at hi;cases hi
 rw[zc this];exact q
structure RowV where
 worker:Int
 week:Int
 err:Int
 tot:Nat->Int
 pays:Nat->Int
 earned:qt
 perf:qt
 elig:Int
 tier:Int
 extra:Int
 supp:Int
 total:Int
def yX(r:RowV):List AV:=[i64 r.worker,i64 r.week,i64 r.err,i64 (r.tot 0),i64 (r.tot 1),i64 (r.tot 2),i64 (r.tot 3),i64 (r.tot 4),i64 (r.tot 5),i64 (r.tot 6),i64 (r.pays 0),i64 (r.pays 1),i64 (r.pays 2),i64 (r.pays 3),i64 (r.pays 4),i64 (r.pays 5),i64 (r.pays 6),i64 r.earned.1,i64 r.earned.2,i64 r.perf.1,i64 r.perf.2,i64 r.elig,i64 r.tier,i64 r.extra,i64 r.supp,i64 r.total]
abbrev xO(r:RowV)(a:AV):List AV:=[i64 r.worker,i64 r.week,i64 r.err,i64 (r.tot 0),i64 (r.tot 1),i64 (r.tot 2),i64 (r.tot 3),i64 (r.tot 4),i64 (r.tot 5),i64 (r.tot 6),i64 (r.pays 0),i64 (r.pays 1),i64 (r.pays 2),i64 (r.pays 3),i64 (r.pays 4),i64 (r.pays 5),i64 (r.pays 6),i64 r.earned.1,i64 r.earned.2,i64 r.perf.1,i64 r.perf.2,i64 r.elig,i64 r.tier,i64 r.extra,i64 r.supp,i64 r.total,a]
theorem wwa{a b:List Pt}(h:a.Perm b)(k:Int):(wY a k).Perm (wY b k):=(h.filter _).map _
theorem Qla{a b:List Pt}(h:a.Perm b)(k:Int):Zj a k=Zj b k:=by
 unfold Zj
 rw[v5a λt _ _=>KP (wwa h k) t]
theorem Qma(s:Setup)(L:List Seg)(w:Int)(h:L.length<=3001):(wc s L w).length<1048576:=by
 have k:=kra s L
 have i:=ksa s L
 have m:(js (wP s L) w).length<=(qw (wP s L)).length+1:=Qm _ _ _
 have l:=qh (wP s L)
 have f:=kua s (ZK s L) w
 obtain⟨o,d⟩:∃o,o=JS s (ZK s L) w:=⟨_,rfl⟩
 rw[<-d] at f
 have key:∀j,(ZQ (jz (oj o j) (jX s (oj o j))) (1+j)).length+(ZQ (jX s (oj o j)) (4+j)).length<=3*(oj o j).length+1485:=λj=>by
  have a1:=xm (oj o j) (jX s (oj o j))
  have a2:=qh (oj o j)
  have a3:=qh (jX s (oj o j))
  have a4:=VM s (oj o j)
  rw[yN,yN];omega
 have k0:=key 0
 have k1:=key 1
 have k2:=key 2
 have c:oj o 0=o.1:=rfl
 have b:oj o 1=o.2.1:=rfl
 have a:oj o 2=o.2.2:=rfl
 have e:wc s L w=Xx s o (js (wP s L) w) 3:=by rw[d];rfl
 rw[e,Xx,Xx,Xx,Xx]
 simp only[ze]
 have g:=yN (js (wP s L) w) 0
 rw[c] at k0;rw[b] at k1;rw[a] at k2
 rw[c,b,a]
 omega
def evR(s:Setup)(w:Int)(l:List Ev):List Ev:=(qu l).filter λe=> !JW s w e
theorem WY(s:Setup)(w:Int)(l:List Ev):(evR s w l).length<=l.length:=by
 have b:=qo (λe=> !JW s w e) (qu l)
 have a:=(vr l).length_eq
 unfold evR;omega
def K1(own:List Ev)(f:Flg):Int:=yJ (((own.find? λe=>e.id==f.id).map (·.at_)).getD 0)
def kEa(w wk e:Int):RowV:=⟨w,wk,e,λ_=>0,λ_=>0,(0,0),(0,0),0, -1,0,0,0⟩
def wxa(s:Setup)(own:List Ev)(w:Nat)(wk:Int):RowV:=
 let P:=kE s own w wk
 let tot:=λj:Nat=>Zj (wc s (qF s own w).1 wk) j
 let tier:=if P.err=0/\0<P.eligible then kV s P.perf else -1
 let p:=jUa s w tot P.eligible tier
 ⟨w,wk,P.err,tot,p.pays,P.earned,P.perf,P.eligible,tier,p.extra,p.supp,p.total⟩
def xq(own:List Ev)(a:List Flg)(wk:Int):List Flg:=a.filter λf=>K1 own f==wk
def jj(s:Setup)(l:List Ev)(w wk:Int):RowV × List Flg:=
 if ve s w wk≠0 then(kEa w wk (ve s w wk),[]) else(wxa s (evR s w l) w.toNat wk,xq (evR s w l) (qF s (evR s w l) w).2 wk)
structure RB (h h':List Ob) (s:Setup) (a:SA) (w:Int) (y:AV) (own:List Ev) (r:RowV) (fl:AV):Prop where
 pre:Pre h h'
 b0:h'[h.length]? =some (.box 30 (qd s a))
 b1:h'[h.length+1]? =some (.box 3 [i64 w])
 b2:h'[h.length+2]? =some (.box 45 (xO ⟨0,0,0,λ_=>0,λ_=>0,(0,0),(0,0),0,0,0,0,0⟩ (.v (.slice none 0 0))))
 b3:h'[h.length+3]? =some (.box 45 (xO r fl))
 sl:SlOf h' y 11 (own.map evC)
theorem RB.put{h h':List Ob}{s:Setup}{a:SA}{w:Int}{y:AV}{own:List Ev}{r:RowV}{d:AV}(k:RB h h' s a w y own r d)(c:RowV)(b:AV):RB h (h'.set (h.length+3) (.box 45 (xO c b))) s a w y own c b:=
 ⟨k.pre.set (by omega) rfl,by rw[zc (by omega)];exact k.b0,by rw[zc (by omega)];exact k.b1,by rw[zc (by omega)];exact k.b2,zq k.b3,k.sl.keep (.setB k.b3)⟩
theorem RB.app{h h':List Ob}{s:Setup}{a:SA}{w:Int}{y:AV}{own:List Ev}{r:RowV}{b:AV}(k:RB h h' s a w y own r b){M:List Ob}(c:NoRes M):RB h (h'++M) s a w y own r b:=
 ⟨k.pre.app c,zf k.b0,zf k.b1,zf k.b2,zf k.b3,k.sl.app M⟩
theorem W4a{h:List Ob}{id ty:Nat}{xs:List (List AV)}{st:Nat}{o:Ob}(d:h[id]? =some (.row ty 2 xs st)):∀(a:AV) {rows:List (List AV)},eOf h a=some 11->z6 h a=some rows->eOf (h.set id o) a=some 11/\z6 (h.set id o) a=some rows
 | .sl _ _,_,b,c=>⟨b,c⟩
 | .tl i s,rows,b,c=>by
   rw[jI] at b⊢
   rw[qU] at c⊢
   obtain⟨k,xs',st',m⟩:=kCa b
   have g:id≠i:=λq=>by rw[q,m] at d;injection d with d;injection d with _ d;cases d
   rw[zc g]
   exact⟨b,c⟩
 | .vw a e i n,rows,b,c=>by
   rw[Z7] at b⊢
   rw[kP] at c⊢
   cases f:eOf h a with
   | none=>rw[f] at b;cases b
   | some p=>
     rw[f] at b
     simp only[Option.bind_some] at b
     split at b
     ·rename_i l
      injection b with b
      subst l
      subst b
      cases j:z6 h a with
      | none=>rw[j] at c;cases c
      | some ys=>
        obtain⟨k1,k2⟩:=W4a d a f j
        rw[k1,k2]
        rw[f,j] at c
        exact⟨by simp,c⟩
     ·cases b
 | .v x,_,b,_=>by cases b
 | .em,_,b,_ | .ptr _ _,_,b,_ | .ep _ _ _ _,_,b,_ | .mp _,_,b,_ | .ag _,_,b,_ | .tup _,_,b,_ | .fn _ _ _,_,b,_ | .bad,_,b,_=>by cases b
theorem RB.setR{h h':List Ob}{s:Setup}{a:SA}{w:Int}{y:AV}{own:List Ev}{r:RowV}{d:AV}(k:RB h h' s a w y own r d)(c:own≠[]){id ty:Nat}{xs:List (List AV)}{st:Nat}{o:Ob}(hid:h.length<=id)(b:h'[id]? =some (.row ty 2 xs st))(e:o.isRes=false):RB h (h'.set id o) s a w y own r d:=by
 obtain⟨k1,k2⟩:=W4a (o:=o) b y (k.sl.ee (by simpa using c)) k.sl.rows
 exact⟨k.pre.set hid e,Zk (h0:=h) k.b0 b,Zk (h0:=h) k.b1 b,Zk (h0:=h) k.b2 b,Zk (h0:=h) k.b3 b,k2,λ_=>k1⟩
theorem Wx{s:Setup}{l:List Ev}{w:Int}:(qF s l w).2.length<=3*l.length+1:=by
 have c:=j6 l
 have b:szT (goP s w (qu l))<=szT ⟨none,[],[]⟩+3*(qu l).length:=v4a (qu l)
 have a:szT ⟨none,[],[]⟩=0:=rfl
 have d:=KN (s:=s) (t:=goP s w (qu l)) (at_:=32054400)
 unfold qF
 split
 ·simp only[szT] at d b a⊢
  omega
 ·simp
theorem qda{own:List Ev}{F:List Flg}{wk:Int}{n:Nat}(h:n<F.length):xq own (F.take (n+1)) wk=if K1 own F[n]==wk then xq own (F.take n) wk++[F[n]] else xq own (F.take n) wk:=by
 unfold xq
 rw[show F.take (n+1)=F.take n++[F[n]] from(zI h).symm,q8]
 cases a:K1 own F[n]==wk<;>simp[a]
theorem yLa{l:List Flg}{i:Nat}(h:i<l.length):(l.map xy)[i]? =some (xy l[i]):=by rw[zx,zi h];rfl
theorem q3b(h:List Ob)(s:Setup)(a:SA)(k:SIn h s a)(f:SFit s)(x:AV)(l:List Ev)(w wk:Int)(hx:SlOf h x 11 (l.map evC))(hl:l.length<=1000):
  ACalls Tryz.prog 17 [je s a,x,i64 w,i64 wk] h λr h'=>∃L y,h'=h++L/\NoRes L/\r= .ag (yX (jj s l w wk).1++[y])/\New h 2 y ((jj s l w wk).2.map xy) L:=by
 have hex:∃r h',(∃L y,h'=h++L/\NoRes L/\r=AV.ag (yX (jj s l w wk).1++[y])/\New h 2 y ((jj s l w wk).2.map xy) L)/\ResK h h':=
  ⟨_,_,⟨[],.sl 2 _,rfl,jf,rfl,λ_ _=>⟨rfl,λ_=>rfl⟩⟩,qS⟩
 refine xF (N:=116) (rs:=[.cell 8 45]) (fn:=Tryz.f17) rfl rfl rfl rfl (qC rfl) rfl (hex) λB=>?_
 refine qf (by decide) ?_
 simp only[go_sem,k.ones]
 refine qK (qf (by decide) ?_)
 simp only[go_sem]
 refine qK (qf (by decide) ?_)
 simp only[go_sem,k.ones]
 refine zg (Y0a _ s a (k.app _) f w wk) ?_
 rintro _ h1 ⟨rfl,rfl⟩
 simp only[go_sem]
 cases q0:ve s w wk != 0
 rotate_left
 ·have μ:ve s w wk≠0:=by simpa using q0
  have b:jj s l w wk=(kEa w wk (ve s w wk),[]):=by unfold jj;rw[if_pos μ]
  rw[b]
  simp only[go_sem,qD]
  refine⟨.ag (yX (kEa w wk (ve s w wk))++[.v (.slice none 0 0)]),?_,.inl ⟨_,.v (.slice none 0 0),rfl,?_,rfl,?_⟩⟩
  ·simp only[go_sem]
   rfl
  ·exact zr rfl (zr rfl (zr rfl (zG rfl)))
  ·exact λh2 _=>⟨rfl,λh=>absurd rfl h⟩
 ·have V:ve s w wk=0:=by simpa using q0
  have b:jj s l w wk=(wxa s (evR s w l) w.toNat wk,xq (evR s w l) (qF s (evR s w l) w).2 wk):=by unfold jj;rw[if_neg (by rw[V];simp)]
  rw[b]
  simp only[go_sem,qD,V]
  obtain⟨η,hw0,hw1⟩:qv s=true/\0<=w/\w<s.rates.length:=by
   unfold ve at V
   split at V
   ·cases V
   ·rename_i h1
    split at V
    ·cases V
    ·rename_i h2
     exact⟨by simpa using h1,by omega,by omega⟩
  clear hex b
  have hol:=WY s w l
  obtain⟨own,O⟩:∃own,own=evR s w l:=⟨_,rfl⟩
  rw[<-O] at hol⊢
  refine qK (yy (λt h'=>Pre h h'/\h'[h.length]? =some (.box 30 (qd s a))/\h'[h.length+1]? =some (.box 3 [i64 w])/\h'[h.length+2]? =some (.box 45 (xO ⟨0,0,0,λ_=>0,λ_=>0,(0,0),(0,0),0,0,0,0,0⟩ (.v (.slice none 0 0))))/\h'[h.length+3]? =some (.box 45 (xO (kEa w wk 0) (.v (.slice none 0 0))))/\
    SlOf h' (t 10) 11 (own.map evC)/\t 3=i64 wk/\t 4= .ptr h.length 0/\t 6= .ptr (h.length+1) 0/\t 8= .ptr (h.length+2) 0/\t 9= .ptr (h.length+3) 0) (by decide) ?_ ?_)
  ·simp only[go_sem]
   refine zg (c57 _ x l (hx.app _) (by omega)) ?_
   rintro r h1 hr
   rcases hr with⟨rfl,rfl,rfl⟩|⟨rfl,rfl⟩
   ·simp only[go_sem]
    refine zg (qTb _ _ _) ?_
    rintro _ h1 ⟨rfl,rfl⟩
    simp only[go_sem]
    exact⟨⟨_,rfl,zr rfl (zr rfl (zr rfl (zG rfl)))⟩,rfl,by rw[O];exact⟨rfl,λh=>absurd rfl h⟩⟩
   ·simp only[go_sem]
    refine zg (c73 _ (h.length+4) 1 (qu l) 54 [.ptr (h.length+1) 0,.ptr h.length 0] (JW s w) (by rw[zK (k:=4) rfl];rfl) (by have:=(vr l).length_eq;omega) (λe _ o L=>q1b _ s a (by
      rw[zL _ _ (by omega)]
      exact(k.app _).app _) h.length (h.length+1) w (zf (by rw[zc (by omega),zM rfl];rfl)) (zf (by rw[zc (by omega),zK (k:=1) rfl];rfl)) e)) ?_
    rintro r h1 ⟨l2,rfl,hr,hsl⟩
    simp only[go_sem]
    rw[zL _ _ (by omega),show h.length+4 - h.length=4 by omega] at hsl
    exact⟨⟨_,rfl,zr rfl (zr rfl (zr rfl (zr rfl (zG rfl))))⟩,rfl,by rw[O];exact hsl⟩
  ·rintro T h' ⟨Q,b0,b1,b2,b3,hy,t3,t4,t6,t8,t9⟩
   obtain⟨y,t10⟩:∃y,T 10=y:=⟨_,rfl⟩
   rw[t10] at hy
   have hk:=Q.sin k
   have hsl3:=Wv (s:=s) (l:=own) (w:=w)
   refine qf (by decide) ?_
   simp only[go_sem,t4,t6,t10,b0,b1]
   refine zg (yKa _ s a hk f y own w hy (by omega)) ?_
   rintro _ h2 ⟨rfl,e2⟩
   rw[e2]
   simp only[go_sem]
   refine qK (qf (by decide) ?_)
   simp only[go_sem,t3,t4,b0]
   refine zg (YVa _ s a hk f η _ (qF s own w).1 wk ⟨rfl,λ_=>rfl⟩ (by omega)) ?_
   rintro _ h3 ⟨⟨q,hq,rfl⟩,e3⟩
   rw[e3]
   have hql:q.length<1048576:=by
    rw[hq.length_eq]
    exact Qma s _ wk (by omega)
   simp only[go_sem]
   refine zg (VCa _ _ q ⟨rfl,λ_=>rfl⟩ hql) ?_
   rintro _ h4 ⟨rfl,e4⟩
   rw[e4]
   have htot:(λj:Nat=>Zj q j)=λj:Nat=>Zj (wc s (qF s own w).1 wk) j:=by funext j;exact Qla hq j
   obtain⟨tot,htt⟩:∃tot,tot=λj:Nat=>Zj (wc s (qF s own w).1 wk) j:=⟨_,rfl⟩
   rw[htot, <-htt]
   simp only[go_sem,t9,b3,kEa,yo]
   have kb:=RB.put ⟨Q,b0,b1,b2,b3,hy⟩ ⟨w,wk,0,tot,λ_=>0,(0,0),(0,0),0, -1,0,0,0⟩ (.v (.slice none 0 0))
   generalize hH:h'.set (h.length+3) (.box 45 (xO ⟨w,wk,0,tot,λ_=>0,(0,0),(0,0),0, -1,0,0,0⟩ (.v (.slice none 0 0))))=H at kb
   clear hH b0 b1 b2 b3 hy Q hk
   have d0:=kb.b0
   have d1:=kb.b1
   have u:=kb.b3
   refine qK (qf (by decide) ?_)
   simp only[go_sem,t3,t4,t6,t10,d0,d1]
   refine zg (c15 _ s a (kb.pre.sin k) f y own w wk kb.sl (by omega)) ?_
   rintro _ h5 ⟨rfl,e5⟩
   rw[e5]
   obtain⟨P,hP⟩:∃P,P=kE s own w wk:=⟨_,rfl⟩
   rw[<-hP]
   have G:∀o,(H.set (h.length+3) o)[h.length+3]? =some o:=λo=>zq u
   simp only[go_sem,t9,u,G,zU]
   have kc:=kb.put ⟨w,wk,P.err,tot,λ_=>0,P.earned,P.perf,P.eligible, -1,0,0,0⟩ (.v (.slice none 0 0))
   generalize hH:H.set (h.length+3) (.box 45 (xO ⟨w,wk,P.err,tot,λ_=>0,P.earned,P.perf,P.eligible, -1,0,0,0⟩ (.v (.slice none 0 0))))=H2 at kc
   clear hH kb d0 d1 u G
   refine qK (yy (λt h2=>∃X,X=(if P.err=0/\0<P.eligible then kV s P.perf else -1)/\RB h h2 s a w y own ⟨w,wk,P.err,tot,λ_=>0,P.earned,P.perf,P.eligible,X,0,0,0⟩ (.v (.slice none 0 0))/\t 3=i64 wk/\t 4= .ptr h.length 0/\t 6= .ptr (h.length+1) 0/\t 8= .ptr (h.length+2) 0/\t 9= .ptr (h.length+3) 0/\t 10=y/\t 12= .sl 2 ((qF s own w).2.map xy)) (by decide) ?_ ?_)
   ·have d0:=kc.b0
    have u:=kc.b3
    cases q1:decide (P.err=0)
    ·have p1:¬ P.err=0:=of_decide_eq_false q1
     have W:(P.err==0)=false:=by simpa using p1
     simp only[go_sem,t9,u,W,qD]
     exact⟨-1,by rw[if_neg (λq=>p1 q.1)],kc,t3,t4,t6,t8,t10⟩
    ·have p1:P.err=0:=of_decide_eq_true q1
     have W:(P.err==0)=true:=by simpa using p1
     cases q2:decide (P.eligible>0)
     ·have p2:¬ 0<P.eligible:=of_decide_eq_false q2
      simp only[go_sem,t9,u,W,q2,qD]
      exact⟨-1,by rw[if_neg (λq=>p2 q.2)],kc,t3,t4,t6,t8,t10⟩
     ·have p2:0<P.eligible:=of_decide_eq_true q2
      have hfit:jo P.perf:=by
       have:=(yCa (w:=w) (k:=wk) (l:=own) η (by omega) (by rw[<-hP];exact p1)).2
       rw[<-hP] at this
       exact YRa this
      simp only[go_sem,t9,u,W,q2,qD,t4,d0]
      refine zg (c26 _ s a (kc.pre.sin k) f P.perf hfit) ?_
      rintro _ h6 ⟨rfl,e6⟩
      rw[e6]
      simp only[go_sem,t9,u]
      exact⟨kV s P.perf,by rw[if_pos ⟨p1,p2⟩],kc.put ⟨w,wk,P.err,tot,λ_=>0,P.earned,P.perf,P.eligible,kV s P.perf,0,0,0⟩ _,t3,t4,t6,t8,t10⟩
   ·clear kc t3 t4 t6 t8 t9 t10
    rintro T h2 ⟨X,htr,kd,t3,t4,t6,t8,t9,t10,U⟩
    have d0:=kd.b0
    have d1:=kd.b1
    have u:=kd.b3
    obtain⟨C,hwn⟩:∃C:Nat,(C:Int)=w:=⟨w.toNat,by omega⟩
    subst hwn
    refine qf (by decide) ?_
    simp only[go_sem,t3,t4,t6,t9,d0,d1,u]
    refine zg (xsb _ s a (kd.pre.sin k) f η C (by omega) tot P.eligible X) ?_
    rintro _ h7 ⟨rfl,e7⟩
    rw[e7]
    obtain⟨p,hp⟩:∃p,p=jUa s C tot P.eligible X:=⟨_,rfl⟩
    rw[<-hp]
    have G:∀o,(h2.set (h.length+3) o)[h.length+3]? =some o:=λo=>zq u
    simp only[go_sem,VFa,t9,u,G,zU,yo]
    have ke:=kd.put ⟨C,wk,P.err,tot,p.pays,P.earned,P.perf,P.eligible,X,p.extra,p.supp,p.total⟩ (.v (.slice none 0 0))
    have b:wxa s own C wk=⟨C,wk,P.err,tot,p.pays,P.earned,P.perf,P.eligible,X,p.extra,p.supp,p.total⟩:=by
     rw[hp,htr,hP,htt];rfl
    rw[Int.toNat_natCast,b]
    generalize hH:h2.set (h.length+3) (.box 45 (xO ⟨C,wk,P.err,tot,p.pays,P.earned,P.perf,P.eligible,X,p.extra,p.supp,p.total⟩ (.v (.slice none 0 0))))=H3 at ke
    obtain⟨R,hR⟩:∃R:RowV,R=⟨C,wk,P.err,tot,p.pays,P.earned,P.perf,P.eligible,X,p.extra,p.supp,p.total⟩:=⟨_,rfl⟩
    rw[<-hR] at ke⊢
    clear hH kd d0 d1 u G b
    have χ:= @VC s own C
    obtain⟨F,hF⟩:∃F,F=(qF s own C).2:=⟨_,rfl⟩
    have hFl:F.length<1048576:=by have:=Wx (s:=s) (l:=own) (w:=C);rw[hF];omega
    rw[<-hF] at χ U⊢
    have hgo:xq own F wk=xq own (F.take F.length) wk:=by rw[zZ]
    rw[hgo]
    refine qK (qf (by decide) ?_)
    simp only[go_sem,U,zb]
    refine zP (by decide) (λm T h'=>∃(n:Nat) (D:AV),n<=F.length/\RB h h' s a C y own R D/\OwnS h h' 105 2 D ((xq own (F.take n) wk).map xy)/\T 3=i64 wk/\T 8= .ptr (h.length+2) 0/\T 9= .ptr (h.length+3) 0/\T 10=y/\T 91= .sl 2 (F.map xy)/\T 92=i64 F.length/\T 93=i64 n/\m=F.length - n) F.length
     ⟨0,_,by omega,ke,.inl ⟨rfl,rfl⟩,by simp only[go_sem,t3],by simp only[go_sem,t8],by simp only[go_sem,t9],by simp only[go_sem,t10],by simp only[go_sem,U],by(simp only[go_sem]<;>rfl),by(simp only[go_sem]<;>rfl),rfl⟩ ?_
    clear ke t3 t4 t6 t8 t9 t10 U
    rintro m T h' ⟨n,D,hn,kf,ho,t3,t8,t9,t10,Y,Z,K,rfl⟩
    simp only[go_sem,Z,K]
    refine ways (λe=>?_) (λe=>?_)
    ·have ι:=dlt e
     have b:=yLa ι
     have hkl:(n:Int)<F.length:=by omega
     have c:=qda (own:=own) (wk:=wk) ι
     obtain⟨g,hg⟩:∃g,g=F[n]:=⟨_,rfl⟩
     obtain⟨ev,ψ,ε⟩:=χ F[n] (zD ι)
     rw[<-hg] at b c ε
     simp only[go_sem,Y,K,b,hkl,t10,zb,Int.toNat_natCast,zh]
     have S:=kf.app (M:=[.box 105 [i64 g.id,i64 g.kind]]) (zG rfl)
     have ο:=ho.app [Ob.box 105 [i64 g.id,i64 g.kind]]
     have I:(h'++[Ob.box 105 [i64 g.id,i64 g.kind]])[h'.length]? =some (.box 105 [i64 g.id,i64 g.kind]):=by rw[zM rfl];rfl
     generalize hJ:h'++[Ob.box 105 [i64 g.id,i64 g.kind]]=J at S ο I
     have hJl:h'.length<J.length:=by rw[<-hJ];simp
     refine zg (c42 _ y 62 [.ptr h'.length 0] (own.map evC) (λr=>(Wm r).id==g.id) (by rw[zb];omega) (λr hr=>by obtain⟨e,_,rfl⟩:=zw.1 hr;rfl) S.sl (λrow b L=>by
      obtain⟨e,_,rfl⟩:=zw.1 b
      exact q2b _ h'.length g (zf I) e)) ?_
     rintro _ h8 ⟨rfl,e8⟩
     rw[e8]
     rcases JM (λe=>e.id==g.id) own with⟨_,q2⟩|⟨A,z,R2,q1,q2,q3,q4⟩
     ·have:=q2 ev ψ
      simp[ε] at this
     ·rw[q2]
      have θ:A.length<own.length:=by rw[q1];simp
      have hfw:K1 own g=yJ z.at_:=by
       unfold K1
       have:own.find? (λe=>e.id==g.id)=some z:=by
        rw[q1,List.find?_append]
        rw[List.find?_eq_none.2 (λe V=>by simp[q4 e V])]
        simp[q3]
       rw[this];rfl
      have hrz:(own.map evC)[A.length]? =some (evC z):=by rw[q1];simp
      have hee:=S.sl.at (i:=A.length) (by rw[zb];exact θ)
      have hrr:=S.sl.rows
      have ω:(A.length:Int)<own.length:=by omega
      simp only[go_sem,t3,t10,hrr,hee,hrz,ω,zb,Int.toNat_natCast,zh]
      refine zg (c17 z.at_ _) ?_
      rintro _ h9 ⟨rfl,e9⟩
      rw[e9]
      rw[hfw] at c
      simp only[go_sem,t3]
      refine ways (λe3=>?_) (λe3=>?_)
      ·rw[if_pos e3] at c
       have μ:own≠[]:=λq=>by rw[q] at θ;cases θ
       have E:=S.b3
       have d:∀M,(J++M)[h.length+3]? =some (.box 45 (xO R D)):=λM=>zf E
       have hgfM:∀M,(J++M)[h'.length]? =some (.box 105 [i64 g.id,i64 g.kind]):=λM=>zf I
       rcases ο with⟨rfl,hnil⟩|⟨id,st,u1,rfl,u3⟩
       ·simp only[go_sem,t9,K,E,d,I]
        refine⟨F.length - (n+1),by omega,n+1,.tl (J.length+1) 0,by omega,(S.app (zr rfl (zG rfl))).put R _,?_,t3,t8,t10,Y,Z,qm (by omega) rfl,rfl⟩
        refine OwnS.setB (.inr ⟨_,0,?_,rfl,?_⟩) (d _)
        ·have:=S.pre.len;omega
        ·rw[c,zy,hnil,zK (k:=1) rfl];rfl
       ·have α:∀M,(J++M)[id]? =some (.row 105 2 ((xq own (F.take n) wk).map xy) st):=λM=>zf u3
        have τ:(((xq own (F.take n) wk).map xy).length+1)*17<=140737488355328:=by
         have:=qo (λf=>K1 own f==wk) (F.take n)
         rw[qa] at this
         rw[zb]
         unfold xq
         omega
        have δ:∀M o',((J++M).set id o')[h.length+3]? =some (.box 45 (xO R (.tl id st))):=λM o'=>Zk (h0:=h) (d M) (α M)
        simp only[go_sem,t9,K,E,d,I,α,τ,δ]
        refine⟨F.length - (n+1),by omega,n+1,.tl id (st+1),by omega,RB.put ((S.app (zG rfl)).setR μ u1 (α _) rfl) R _,?_,t3,t8,t10,Y,Z,qm (by omega) rfl,rfl⟩
        refine OwnS.setB (.inr ⟨id,st+1,u1,rfl,?_⟩) (δ _ _)
        rw[c,zy]
        exact zq (α _)
      ·have e3':(yJ z.at_==wk)=false:=by simpa using e3
       rw[e3'] at c
       simp only[Bool.false_eq_true,if_false] at c
       simp only[go_sem,K]
       exact⟨F.length - (n+1),by omega,n+1,D,by omega,S,by rw[c];exact ο,t3,t8,t9,t10,Y,Z,qm (by omega) rfl,rfl⟩
    ·have hge:=xb e
     have hn2:n=F.length:=by omega
     subst hn2
     simp only[go_sem]
     refine qK (qn _ (by decide) ?_)
     have ν:=kf.b2
     have E:=kf.b3
     have hxo:=ho.rows.one
     simp only[go_sem,t8,t9,ν,E,hxo]
     have φ:=ho.setB (o:= .box 45 (xO R D)) ν
     have hp2:Pre h (h'.set (h.length+2) (.box 45 (xO R D))):=kf.pre.set (by omega) rfl
     have hb4:(h'.set (h.length+2) (.box 45 (xO R D)))[h.length+2]? =some (.box 45 (xO R D)):=zq ν
     refine⟨.ag (yX R++[D]),?_,.inl ?_⟩
     ·have hb5:(h'.set (h.length+2) (.box 45 [i64 R.worker,i64 R.week,i64 R.err,i64 (R.tot 0),i64 (R.tot 1),i64 (R.tot 2),i64 (R.tot 3),i64 (R.tot 4),i64 (R.tot 5),i64 (R.tot 6),i64 (R.pays 0),i64 (R.pays 1),i64 (R.pays 2),i64 (R.pays 3),i64 (R.pays 4),i64 (R.pays 5),i64 (R.pays 6),i64 R.earned.1,i64 R.earned.2,i64 R.perf.1,i64 R.perf.2,i64 R.elig,i64 R.tier,i64 R.extra,i64 R.supp,i64 R.total,D]))[h.length+2]? =some (.box 45 (xO R D)):=hb4
      simp only[go_sem,t8,hb5]
      rfl
     ·obtain⟨L,hL,hN⟩:=hp2
      refine⟨L,D,hL,hN,rfl,?_⟩
      rw[hL] at φ
      exact φ.new (zn _)
theorem q4b(h:List Ob)(s:Setup)(a:SA)(k:SIn h s a)(f:SFit s)(x:AV)(l:List Ev)(w wk:Int)(b:SlOf h x 11 (l.map evC))(c:l.length<=1000):
  ACalls Tryz.prog 17 [je s a,x,i64 w,i64 wk] h λr h'=>r= .ag (yX (jj s l w wk).1++[.sl 2 ((jj s l w wk).2.map xy)])/\h'=h:=
 qca (by decide) rfl (jWa _) (q3b h s a k f x l w wk b c)
theorem Qna(h:List Ob)(x:AV)(rows:List (List AV))(b:SlOf h x 3 rows)(o:rows.length<1099511627776)(k:(rows.all λr=>r.length==3 && r.all AV.one)=true):
  ACalls Tryz.prog 156 [x] h λr h'=>(rows=[]/\h'=h/\r= .v (.slice none 0 0))∨(h'=h++[.row 225 3 rows 1]/\r= .tl h.length 1):=by
 refine xF (N:=8) (rs:=[.tmp 2]) (fn:=Tryz.f156) rfl rfl rfl rfl (qC rfl) rfl (⟨_,_,.inr ⟨rfl,rfl⟩,qS⟩) λB=>?_
 cases rows with
 | nil=>
   refine QE 0 rfl b.rows (λm=>?_) ?_
   ·refine qn _ (by decide) ?_;simp only[go_sem]
    exact⟨.v (.slice none 0 0),by simp only[go_sem],.inl (.inl ⟨rfl,rfl⟩)⟩
   ·refine qn _ (by decide) ?_;simp only[go_sem]
    exact⟨.tl h.length 1,by simp only[go_sem],.inl (.inr ⟨rfl,rfl⟩)⟩
 | cons y l=>
   have j:=b.at (i:=0) (by simp)
   have d:=b.rows
   have g:vu x=false:=by
    rcases Zz d with⟨e,xs,rfl⟩|⟨i,s,rfl⟩|⟨a,e,i,n,rfl⟩<;>rfl
   unfold vu at g
   have c:∀L,z6 (h++L) x=some (y::l):=λL=>(b.app L).rows
   have f:(y::l).length*25<=140737488355328:=by omega
   rw[List.length_cons] at f
   refine qn _ (by decide) ?_;simp only[go_sem,d,j,g,c,k,f,Bool.or_true,decide_true]
   exact⟨.tl h.length 1,by simp only[go_sem],.inl (.inr ⟨rfl,rfl⟩)⟩
theorem wya(h:List Ob)(x:AV)(rows:List (List AV))(c:SlOf h x 3 rows)(d:rows.length<1099511627776)(b:(rows.all λr=>r.length==3 && r.all AV.one)=true)(a:qQ h.length rows=true):
  ACalls Tryz.prog 156 [x] h λr h'=>r= .sl 3 rows/\h'=h:=
 jT (by decide) a ((Qna h x rows c d b).mono λr h' q=>by
  rcases q with⟨rfl,rfl,rfl⟩|⟨rfl,rfl⟩
  ·exact⟨[],by simp,jf,λe _=>⟨rfl,λh=>absurd rfl h⟩⟩
  ·exact⟨_,rfl,zG rfl,OwnS.new (h0:=h) (ty:=225) (.inr ⟨h.length,1,zn _,rfl,by rw[zM rfl];rfl⟩) (zn _)⟩)
theorem Qoa(h:List Ob)(x:AV)(rows:List (List AV))(b:SlOf h x 4 rows)(o:rows.length<1099511627776)(k:(rows.all λr=>r.length==4 && r.all AV.one)=true):
  ACalls Tryz.prog 157 [x] h λr h'=>(rows=[]/\h'=h/\r= .v (.slice none 0 0))∨(h'=h++[.row 183 4 rows 1]/\r= .tl h.length 1):=by
 refine xF (N:=8) (rs:=[.tmp 2]) (fn:=Tryz.f157) rfl rfl rfl rfl (qC rfl) rfl (⟨_,_,.inr ⟨rfl,rfl⟩,qS⟩) λB=>?_
 cases rows with
 | nil=>
   refine QE 0 rfl b.rows (λm=>?_) ?_
   ·refine qn _ (by decide) ?_;simp only[go_sem]
    exact⟨.v (.slice none 0 0),by simp only[go_sem],.inl (.inl ⟨rfl,rfl⟩)⟩
   ·refine qn _ (by decide) ?_;simp only[go_sem]
    exact⟨.tl h.length 1,by simp only[go_sem],.inl (.inr ⟨rfl,rfl⟩)⟩
 | cons y l=>
   have j:=b.at (i:=0) (by simp)
   have d:=b.rows
   have g:vu x=false:=by
    rcases Zz d with⟨e,xs,rfl⟩|⟨i,s,rfl⟩|⟨a,e,i,n,rfl⟩<;>rfl
   unfold vu at g
   have c:∀L,z6 (h++L) x=some (y::l):=λL=>(b.app L).rows
   have f:(y::l).length*33<=140737488355328:=by omega
   rw[List.length_cons] at f
   refine qn _ (by decide) ?_;simp only[go_sem,d,j,g,c,k,f,Bool.or_true,decide_true]
   exact⟨.tl h.length 1,by simp only[go_sem],.inl (.inr ⟨rfl,rfl⟩)⟩
theorem wza(h:List Ob)(x:AV)(rows:List (List AV))(c:SlOf h x 4 rows)(d:rows.length<1099511627776)(b:(rows.all λr=>r.length==4 && r.all AV.one)=true)(a:qQ h.length rows=true):
  ACalls Tryz.prog 157 [x] h λr h'=>r= .sl 4 rows/\h'=h:=
 jT (by decide) a ((Qoa h x rows c d b).mono λr h' q=>by
  rcases q with⟨rfl,rfl,rfl⟩|⟨rfl,rfl⟩
  ·exact⟨[],by simp,jf,λe _=>⟨rfl,λh=>absurd rfl h⟩⟩
  ·exact⟨_,rfl,zG rfl,OwnS.new (h0:=h) (ty:=183) (.inr ⟨h.length,1,zn _,rfl,by rw[zM rfl];rfl⟩) (zn _)⟩)
theorem Qpa(h:List Ob)(x:AV)(rows:List (List AV))(b:SlOf h x 2 rows)(o:rows.length<1099511627776)(k:(rows.all λr=>r.length==2 && r.all AV.one)=true):
  ACalls Tryz.prog 158 [x] h λr h'=>(rows=[]/\h'=h/\r= .v (.slice none 0 0))∨(h'=h++[.row 24 2 rows 1]/\r= .tl h.length 1):=by
 refine xF (N:=8) (rs:=[.tmp 2]) (fn:=Tryz.f158) rfl rfl rfl rfl (qC rfl) rfl (⟨_,_,.inr ⟨rfl,rfl⟩,qS⟩) λB=>?_
 cases rows with
 | nil=>
   refine QE 0 rfl b.rows (λm=>?_) ?_
   ·refine qn _ (by decide) ?_;simp only[go_sem]
    exact⟨.v (.slice none 0 0),by simp only[go_sem],.inl (.inl ⟨rfl,rfl⟩)⟩
   ·refine qn _ (by decide) ?_;simp only[go_sem]
    exact⟨.tl h.length 1,by simp only[go_sem],.inl (.inr ⟨rfl,rfl⟩)⟩
 | cons y l=>
   have j:=b.at (i:=0) (by simp)
   have d:=b.rows
   have g:vu x=false:=by
    rcases Zz d with⟨e,xs,rfl⟩|⟨i,s,rfl⟩|⟨a,e,i,n,rfl⟩<;>rfl
   unfold vu at g
   have c:∀L,z6 (h++L) x=some (y::l):=λL=>(b.app L).rows
   have f:(y::l).length*17<=140737488355328:=by omega
   rw[List.length_cons] at f
   refine qn _ (by decide) ?_;simp only[go_sem,d,j,g,c,k,f,Bool.or_true,decide_true]
   exact⟨.tl h.length 1,by simp only[go_sem],.inl (.inr ⟨rfl,rfl⟩)⟩
theorem zna(h:List Ob)(x:AV)(rows:List (List AV))(c:SlOf h x 2 rows)(d:rows.length<1099511627776)(b:(rows.all λr=>r.length==2 && r.all AV.one)=true)(a:qQ h.length rows=true):
  ACalls Tryz.prog 158 [x] h λr h'=>r= .sl 2 rows/\h'=h:=
 jT (by decide) a ((Qpa h x rows c d b).mono λr h' q=>by
  rcases q with⟨rfl,rfl,rfl⟩|⟨rfl,rfl⟩
  ·exact⟨[],by simp,jf,λe _=>⟨rfl,λh=>absurd rfl h⟩⟩
  ·exact⟨_,rfl,zG rfl,OwnS.new (h0:=h) (ty:=24) (.inr ⟨h.length,1,zn _,rfl,by rw[zM rfl];rfl⟩) (zn _)⟩)
theorem VP(h:List Ob)(x:AV)(rows:List (List AV))(b:SlOf h x 1 rows)(o:rows.length<1099511627776)(k:(rows.all λr=>r.length==1 && r.all AV.one)=true):
  ACalls Tryz.prog 159 [x] h λr h'=>(rows=[]/\h'=h/\r= .v (.slice none 0 0))∨(h'=h++[.row 3 1 rows 1]/\r= .tl h.length 1):=by
 refine xF (N:=8) (rs:=[.tmp 2]) (fn:=Tryz.f159) rfl rfl rfl rfl (qC rfl) rfl (⟨_,_,.inr ⟨rfl,rfl⟩,qS⟩) λB=>?_
 cases rows with
 | nil=>
   refine QE 0 rfl b.rows (λm=>?_) ?_
   ·refine qn _ (by decide) ?_;simp only[go_sem]
    exact⟨.v (.slice none 0 0),by simp only[go_sem],.inl (.inl ⟨rfl,rfl⟩)⟩
   ·refine qn _ (by decide) ?_;simp only[go_sem]
    exact⟨.tl h.length 1,by simp only[go_sem],.inl (.inr ⟨rfl,rfl⟩)⟩
 | cons y l=>
   have j:=b.at (i:=0) (by simp)
   have d:=b.rows
   have g:vu x=false:=by
    rcases Zz d with⟨e,xs,rfl⟩|⟨i,s,rfl⟩|⟨a,e,i,n,rfl⟩<;>rfl
   unfold vu at g
   have c:∀L,z6 (h++L) x=some (y::l):=λL=>(b.app L).rows
   have f:(y::l).length*9<=140737488355328:=by omega
   rw[List.length_cons] at f
   refine qn _ (by decide) ?_;simp only[go_sem,d,j,g,c,k,f,Bool.or_true,decide_true]
   exact⟨.tl h.length 1,by simp only[go_sem],.inl (.inr ⟨rfl,rfl⟩)⟩
theorem wAa(h:List Ob)(x:AV)(rows:List (List AV))(c:SlOf h x 1 rows)(d:rows.length<1099511627776)(b:(rows.all λr=>r.length==1 && r.all AV.one)=true)(a:qQ h.length rows=true):
  ACalls Tryz.prog 159 [x] h λr h'=>r= .sl 1 rows/\h'=h:=
 jT (by decide) a ((VP h x rows c d b).mono λr h' q=>by
  rcases q with⟨rfl,rfl,rfl⟩|⟨rfl,rfl⟩
  ·exact⟨[],by simp,jf,λe _=>⟨rfl,λh=>absurd rfl h⟩⟩
  ·exact⟨_,rfl,zG rfl,OwnS.new (h0:=h) (ty:=3) (.inr ⟨h.length,1,zn _,rfl,by rw[zM rfl];rfl⟩) (zn _)⟩)
theorem wBa(h:List Ob)(x:AV)(rows:List (List AV))(b:SlOf h x 2 rows)(o:rows.length<1099511627776)(k:(rows.all λr=>r.length==2 && r.all AV.one)=true):
  ACalls Tryz.prog 160 [x] h λr h'=>(rows=[]/\h'=h/\r= .v (.slice none 0 0))∨(h'=h++[.row 185 2 rows 1]/\r= .tl h.length 1):=by
 refine xF (N:=8) (rs:=[.tmp 2]) (fn:=Tryz.f160) rfl rfl rfl rfl (qC rfl) rfl (⟨_,_,.inr ⟨rfl,rfl⟩,qS⟩) λB=>?_
 cases rows with
 | nil=>
   refine QE 0 rfl b.rows (λm=>?_) ?_
   ·refine qn _ (by decide) ?_;simp only[go_sem]
    exact⟨.v (.slice none 0 0),by simp only[go_sem],.inl (.inl ⟨rfl,rfl⟩)⟩
   ·refine qn _ (by decide) ?_;simp only[go_sem]
    exact⟨.tl h.length 1,by simp only[go_sem],.inl (.inr ⟨rfl,rfl⟩)⟩
 | cons y l=>
   have j:=b.at (i:=0) (by simp)
   have d:=b.rows
   have g:vu x=false:=by
    rcases Zz d with⟨e,xs,rfl⟩|⟨i,s,rfl⟩|⟨a,e,i,n,rfl⟩<;>rfl
   unfold vu at g
   have c:∀L,z6 (h++L) x=some (y::l):=λL=>(b.app L).rows
   have f:(y::l).length*17<=140737488355328:=by omega
   rw[List.length_cons] at f
   refine qn _ (by decide) ?_;simp only[go_sem,d,j,g,c,k,f,Bool.or_true,decide_true]
   exact⟨.tl h.length 1,by simp only[go_sem],.inl (.inr ⟨rfl,rfl⟩)⟩
theorem kFa(h:List Ob)(x:AV)(rows:List (List AV))(c:SlOf h x 2 rows)(d:rows.length<1099511627776)(b:(rows.all λr=>r.length==2 && r.all AV.one)=true)(a:qQ h.length rows=true):
  ACalls Tryz.prog 160 [x] h λr h'=>r= .sl 2 rows/\h'=h:=
 jT (by decide) a ((wBa h x rows c d b).mono λr h' q=>by
  rcases q with⟨rfl,rfl,rfl⟩|⟨rfl,rfl⟩
  ·exact⟨[],by simp,jf,λe _=>⟨rfl,λh=>absurd rfl h⟩⟩
  ·exact⟨_,rfl,zG rfl,OwnS.new (h0:=h) (ty:=185) (.inr ⟨h.length,1,zn _,rfl,by rw[zM rfl];rfl⟩) (zn _)⟩)
theorem zoa(h:List Ob)(x:AV)(rows:List (List AV))(b:SlOf h x 1 rows)(o:rows.length<1099511627776)(k:(rows.all λr=>r.length==1 && r.all AV.one)=true):
  ACalls Tryz.prog 73 [x] h λr h'=>(rows=[]/\h'=h/\r= .v (.slice none 0 0))∨(h'=h++[.row 5 1 rows 1]/\r= .tl h.length 1):=by
 refine xF (N:=8) (rs:=[.tmp 2]) (fn:=Tryz.f73) rfl rfl rfl rfl (qC rfl) rfl (⟨_,_,.inr ⟨rfl,rfl⟩,qS⟩) λB=>?_
 cases rows with
 | nil=>
   refine QE 0 rfl b.rows (λm=>?_) ?_
   ·refine qn _ (by decide) ?_;simp only[go_sem]
    exact⟨.v (.slice none 0 0),by simp only[go_sem],.inl (.inl ⟨rfl,rfl⟩)⟩
   ·refine qn _ (by decide) ?_;simp only[go_sem]
    exact⟨.tl h.length 1,by simp only[go_sem],.inl (.inr ⟨rfl,rfl⟩)⟩
 | cons y l=>
   have j:=b.at (i:=0) (by simp)
   have d:=b.rows
   have g:vu x=false:=by
    rcases Zz d with⟨e,xs,rfl⟩|⟨i,s,rfl⟩|⟨a,e,i,n,rfl⟩<;>rfl
   unfold vu at g
   have c:∀L,z6 (h++L) x=some (y::l):=λL=>(b.app L).rows
   have f:(y::l).length*2<=140737488355328:=by omega
   rw[List.length_cons] at f
   refine qn _ (by decide) ?_;simp only[go_sem,d,j,g,c,k,f,Bool.or_true,decide_true]
   exact⟨.tl h.length 1,by simp only[go_sem],.inl (.inr ⟨rfl,rfl⟩)⟩
theorem Wy(h:List Ob)(x:AV)(rows:List (List AV))(c:SlOf h x 1 rows)(d:rows.length<1099511627776)(b:(rows.all λr=>r.length==1 && r.all AV.one)=true)(a:qQ h.length rows=true):
  ACalls Tryz.prog 73 [x] h λr h'=>r= .sl 1 rows/\h'=h:=
 jT (by decide) a ((zoa h x rows c d b).mono λr h' q=>by
  rcases q with⟨rfl,rfl,rfl⟩|⟨rfl,rfl⟩
  ·exact⟨[],by simp,jf,λe _=>⟨rfl,λh=>absurd rfl h⟩⟩
  ·exact⟨_,rfl,zG rfl,OwnS.new (h0:=h) (ty:=5) (.inr ⟨h.length,1,zn _,rfl,by rw[zM rfl];rfl⟩) (zn _)⟩)
structure Fx where
 op:Int
 ev:Ev
abbrev fxC(x:Fx):List AV:=[i64 x.op,i64 x.ev.id,i64 x.ev.worker,i64 x.ev.at_,i64 x.ev.kind,i64 x.ev.from_,i64 x.ev.to_,i64 x.ev.element,i64 x.ev.units,i64 x.ev.class_,i64 x.ev.gear,i64 x.ev.code]
def vn(x:Fx):Bool:=x.op==1 || x.op==3
def j7(x:Fx):Bool:=x.op==2 || x.op==3
theorem W5a(x:Fx):xw Tryz.prog 98 [.ag (fxC x)] (bl (vn x)):=λh=>by
 refine zj Tryz.f98 [.tmp 2] 11 rfl rfl rfl rfl rfl rfl (by decide) (⟨_,_,⟨rfl,rfl⟩,.refl⟩) λB=>?_
 simp only[go_sem]
 cases a:x.op==1
 ·simp only[go_sem,a,qD]
  refine zm ?_<;>(simp only[go_sem,vn,a]<;>try rfl)
 ·simp only[go_sem,a,qD]
  refine zm ?_<;>(simp only[go_sem,vn,a]<;>try rfl)
theorem XFa(x:Fx):xw Tryz.prog 97 [.ag (fxC x)] (bl (j7 x)):=λh=>by
 refine zj Tryz.f97 [.tmp 2] 11 rfl rfl rfl rfl rfl rfl (by decide) (⟨_,_,⟨rfl,rfl⟩,.refl⟩) λB=>?_
 simp only[go_sem]
 cases a:x.op==2
 ·simp only[go_sem,a,qD]
  refine zm ?_<;>(simp only[go_sem,j7,a]<;>try rfl)
 ·simp only[go_sem,a,qD]
  refine zm ?_<;>(simp only[go_sem,j7,a]<;>try rfl)
def Q0(l:List Ev)(id:Int):Int:=JB (l.map evC) λr=>(Wm r).id==id
theorem q5b(h:List Ob)(j:Nat)(id:Int)(b:h[j]? =some (.box 3 [i64 id]))(e:Ev):
  ACalls Tryz.prog 227 [evV e,.ptr j 0] h λr h'=>r=bl (e.id==id)/\h'=h:=by
 have a:∀M,(h++M)[j]? =some (.box 3 [i64 id]):=λM=>zf b
 refine zj Tryz.f227 [.tmp 3] 8 rfl rfl rfl rfl rfl rfl (by decide) (⟨_,_,⟨rfl,rfl⟩,.refl⟩) λB=>?_
 simp only[go_sem,a]
 refine zm ?_<;>(simp only[go_sem]<;>try rfl)
theorem q6b(h:List Ob)(x:AV)(l:List Ev)(id:Int)(c:SlOf h x 11 (l.map evC))(f:l.length<1048576):
  ACalls Tryz.prog 173 [x,i64 id] h λr h'=>r=i64 (Q0 l id)/\h'=h:=by
 refine zj Tryz.f173 [.tmp 4] 8 rfl rfl rfl rfl rfl rfl (by decide) (⟨_,_,⟨rfl,rfl⟩,.refl⟩) λB=>?_
 simp only[go_sem]
 refine zg (c42 _ x 227 [.ptr h.length 0] (l.map evC) (λr=>(Wm r).id==id) (by rw[zb];omega) (λr b=>by obtain⟨e,_,rfl⟩:=zw.1 b;rfl) (c.app _) (λrow a L=>by
  obtain⟨e,_,rfl⟩:=zw.1 a
  exact q5b _ h.length id (by rw[zp,zM rfl];rfl) e)) ?_
 rintro _ d ⟨rfl,rfl⟩
 simp only[go_sem]
 refine zm ?_<;>(simp only[go_sem,Q0]<;>try rfl)
def zEv:Ev:=⟨0,0,0,0,0,0,0,0,0,0,0⟩
def Jf(l:List Ev)(id:Int):Ev × Bool:=match l.find? (λe=>e.id==id) with
 | some e=>(e,true)
 | none=>(zEv,false)
theorem VQ(l:List Ev)(id:Int):(Q0 l id= -1/\Jf l id=(zEv,false))∨∃A x R,l=A++x::R/\Q0 l id=(A.length:Int)/\Jf l id=(x,true)/\x.id=id:=by
 rcases JM (λe=>e.id==id) l with⟨a,b⟩|⟨A,x,R,a,b,d,f⟩
 ·refine .inl ⟨a,?_⟩
  unfold Jf
  rw[List.find?_eq_none.2 (λe c=>by simp[b e c])]
 ·refine .inr ⟨A,x,R,a,b,?_,by simpa using d⟩
  unfold Jf
  have:l.find? (λe=>e.id==id)=some x:=by
   rw[a,List.find?_append,List.find?_eq_none.2 (λe c=>by simp[f e c])]
   simp[d]
  rw[this]
theorem q7b(h:List Ob)(x:AV)(l:List Ev)(id:Int)(k:SlOf h x 11 (l.map evC))(n:l.length<1048576):
  ACalls Tryz.prog 96 [x,i64 id] h λr h'=>r= .tup [evV (Jf l id).1,bl (Jf l id).2]/\h'=h:=by
 refine zj Tryz.f96 [.cell 4 75,.tmp 5] 17 rfl rfl rfl rfl rfl rfl (by decide) (⟨_,_,⟨rfl,rfl⟩,.refl⟩) λB=>?_
 simp only[go_sem]
 refine zg (q6b _ x l id (k.app _) n) ?_
 rintro _ o ⟨rfl,rfl⟩
 rcases VQ l id with⟨e,g⟩|⟨A,z,R,e,g,m,_⟩
 ·simp only[go_sem,e]
  refine zm ?_<;>(simp only[go_sem,g,zEv]<;>try rfl)
 ·have a:decide ((A.length:Int)<0)=false:=by rw[decide_eq_false_iff_not];omega
  have f:A.length<l.length:=by rw[e];simp
  have j:(l.map evC)[A.length]? =some (evC z):=by rw[e];simp
  have c:=(k.app [.box 75 (evC zEv)]).at (i:=A.length) (by rw[zb];exact f)
  have b:=(k.app [.box 75 (evC zEv)]).rows
  have d:(A.length:Int)<l.length:=by omega
  simp only[evC,zEv] at c b
  simp only[go_sem,g,a,b,c,j,d,zb,Int.toNat_natCast,zh]
  refine zm ?_<;>(simp only[go_sem,m]<;>try rfl)
def VR(s:Setup)(at_:Int):Int × Int:=
 let n:=jl at_ 32054399
 let k:=wr (jl s.unit 604800+jl s.cap 604800)
 (yJ (wr (n - k)),yJ (wr (n+k)))
theorem Y1a(h:List Ob)(s:Setup)(a:SA)(k:SIn h s a)(at_:Int):
  ACalls Tryz.prog 95 [je s a,i64 at_] h λr h'=>r=Xv (VR s at_)/\h'=h:=by
 refine zj Tryz.f95 [.tmp 4,.tmp 5] 24 rfl rfl rfl rfl rfl rfl (by decide) (⟨_,_,⟨rfl,rfl⟩,.refl⟩) λB=>?_
 simp only[go_sem,k.ones]
 refine zg (c69 _ _ _) ?_
 rintro _ b ⟨rfl,rfl⟩
 simp only[go_sem]
 refine zV rfl [] 0 [(0,0,[]),(3,0,[]),(1,0,[]),(4,0,[]),(2,0,[4]),(5,0,[]),(6,0,[]),(7,0,[])] rfl (by decide) (by decide) ?_
 simp only[go_sem]
 refine zg (c69 _ _ _) ?_
 rintro _ b ⟨rfl,rfl⟩
 simp only[go_sem]
 refine zg (c69 _ _ _) ?_
 rintro _ b ⟨rfl,rfl⟩
 simp only[go_sem]
 refine zg (c17 _ _) ?_
 rintro _ b ⟨rfl,rfl⟩
 simp only[go_sem]
 refine zg (c17 _ _) ?_
 rintro _ b ⟨rfl,rfl⟩
 simp only[go_sem]
 refine zm ?_<;>(simp only[go_sem,VR,Xv]<;>try rfl)
def wCa(l:List Int)(n:Int):Int:=match l.findIdx? (n== ·) with
 | some i=>(i:Int)
 | none=> -1
theorem Y2a(h:List Ob)(x:AV)(l:List Int)(n:Int)(p:SlOf h x 1 (l.map qB))(C:l.length<1048576):
  ACalls Tryz.prog 224 [x,i64 n] h λr h'=>r=i64 (wCa l n)/\h'=h:=by
 refine zj Tryz.f224 [.tmp 4] 19 rfl rfl rfl rfl rfl rfl (by decide) (⟨_,_,⟨rfl,rfl⟩,.refl⟩) λB=>?_
 simp only[go_sem,p.rows,zb]
 refine zP (by decide) (λm T h'=>∃i:Nat,i<=l.length/\h'=h/\(∀j (b:j<l.length),j<i->(n==l[j])=false)/\T 0=x/\T 1=i64 n/\T 7=i64 l.length/\T 8=i64 i/\m=l.length - i) l.length
  ⟨0,by omega,rfl,λ_ _ q=>by omega,by simp only[go_sem],by simp only[go_sem],by(simp only[go_sem]<;>rfl),by(simp only[go_sem]<;>rfl),rfl⟩ ?_
 rintro m T h' ⟨i,hi,rfl,h0,t0,t1,v,t8,rfl⟩
 simp only[go_sem,v,t8]
 refine ways (λe=>?_) (λe=>?_)
 ·have d:=dlt e
  have a:=Xk d
  have s:=p.at (i:=i) (by rw[zb];exact d)
  have k:=p.rows
  have o:(i:Int)<l.length:=by omega
  obtain⟨z,t⟩:∃z,z=l[i]:=⟨_,rfl⟩
  rw[<-t] at a
  simp only[go_sem,t0,t1,t8,s,k,a,o,zb,Int.toNat_natCast,zh]
  refine ways (λf=>?_) (λf=>?_)
  ·have c:wCa l n=i:=by
    unfold wCa
    rw[List.findIdx?_eq_some_iff_getElem.2 ⟨d,by rw[<-t];exact f,λj b=>by simp[h0 j (by omega) b]⟩]
   simp only[go_sem,t8]
   refine zm ?_<;>(simp only[go_sem,c]<;>try rfl)
  ·have f:(n==z)=false:=by simpa using f
   simp only[go_sem,t8]
   refine⟨l.length - (i+1),by omega,i+1,by omega,λj b q=>?_,t0,t1,v,qm (by omega) rfl,rfl⟩
   by_cases g:j=i
   ·subst g;rw[<-t];exact f
   ·exact h0 j b (by omega)
 ·have w:=xb e
  have u:i=l.length:=by omega
  subst u
  have c:wCa l n= -1:=by
   unfold wCa
   rw[List.findIdx?_eq_none_iff.2 (λy A=>by
    obtain⟨j,b,rfl⟩:=List.getElem_of_mem A
    exact h0 j b b)]
  simp only[go_sem]
  refine zm ?_<;>(simp only[go_sem,c]<;>try rfl)
theorem VPa(l:List Int)(n:Int):decide (wCa l n≥0)=l.any (n== ·):=by
 unfold wCa
 cases h:l.findIdx? (n== ·) with
 | none=>
   rw[List.findIdx?_eq_none_iff] at h
   have:l.any (n== ·)=false:=by rw[List.any_eq_false];intro y a;simp[h y a]
   rw[this];rfl
 | some i=>
   obtain⟨hi,b,_⟩:=List.findIdx?_eq_some_iff_getElem.1 h
   have:l.any (n== ·)=true:=List.any_eq_true.2 ⟨_,zD hi,b⟩
   rw[this]
   simp
theorem Qqa(h:List Ob)(x:AV)(l:List Int)(n:Int)(a:SlOf h x 1 (l.map qB))(b:l.length<1048576):
  ACalls Tryz.prog 170 [x,i64 n] h λr h'=>r=bl (l.any (n== ·))/\h'=h:=by
 refine zj Tryz.f170 [.tmp 4] 9 rfl rfl rfl rfl rfl rfl (by decide) (⟨_,_,⟨rfl,rfl⟩,.refl⟩) λB=>?_
 simp only[go_sem]
 refine zg (Y2a _ x l n a b) ?_
 rintro _ c ⟨rfl,rfl⟩
 simp only[go_sem,VPa]
 refine zm ?_<;>(simp only[go_sem]<;>try rfl)
theorem Wz:∀ {l:List Ev},Srt l->qu l=l
 | [],_=>rfl
 | x::l,⟨c,a⟩=>by
   rw[qu,Wz a]
   cases l with
   | nil=>rfl
   | cons y b=>rw[wW,c y (by simp)];rfl
theorem Qra(l:List Ev):qu (qu l)=qu l:=Wz (vp l)
theorem zpa{s:Setup}{l:List Ev}{w:Int}:qF s (KW s w l) w=qF s l w:=by
 have h:qu ((KW s w l).filter (QO s w))=qu (l.filter (QO s w)):=by
  rw[Xma, <-Zh,Qra,List.filter_filter]
  congr 1
  refine List.filter_congr λe _=>?_
  unfold QO QX
  by_cases a:e.worker=w
  ·simp[a]
  ·simp[a]
 unfold qF
 rw[JYa,JYa,h]
def ZR(L:List Seg):Int:=(L.map λg=>g.to_ - g.from_).sum
theorem yMa{L:List Seg}(h:∀g∈L,g.from_<g.to_):0<=ZR L/\(L≠[]->0<ZR L):=by
 induction L with
 | nil=>simp[ZR]
 | cons g L b=>
   have d:=b λx a=>h x (.tail _ a)
   have c:=h g (.head _)
   refine⟨?_,λ_=>?_⟩<;> · simp only[ZR,List.map_cons,List.sum_cons] at *; omega
theorem kGa{p:Seg->Bool}{L:List Seg}(h:∀g∈L,g.from_<g.to_):ZR (L.filter p)<=ZR L:=by
 induction L with
 | nil=>simp
 | cons g L b=>
   have d:=b λx a=>h x (.tail _ a)
   have c:=h g (.head _)
   rw[List.filter_cons]
   split<;> · simp only[ZR,List.map_cons,List.sum_cons] at *; omega
theorem yNa{hi:Int}:∀ {L:List Seg} {lo:Int},lo<=hi->(∀g∈L,lo<=g.from_/\g.from_<g.to_/\g.to_<=hi)->L.Pairwise (λa b=>a.to_<=b.from_)->ZR L<=hi - lo
 | [],lo,h,_,_=>by simp[ZR];omega
 | g::L,lo,h,e,c=>by
   rw[qg] at c
   have f:=e g (.head _)
   have:=yNa (L:=L) (lo:=g.to_) f.2.2 (λx d=>⟨c.1 x d,(e x (.tail _ d)).2⟩) c.2
   simp only[ZR,List.map_cons,List.sum_cons] at*
   omega
theorem kHa{L:List Seg}(h:RiseTo L 32054400):ZR L<=32054400:=by
 have:=yNa (hi:=32054400) (lo:=0) (by decide) h.each h.gap
 omega
theorem kIa:∀(L:List Seg) (n:Int),(∀g∈L,0<=g.from_/\g.from_<g.to_/\g.to_<=32054400)->0<=n->n+ZR L<=4611686018427387904->L.foldl (λn g=>wr (n+wr (g.to_ - g.from_))) n=n+ZR L
 | [],n,_,_,_=>by simp[ZR]
 | g::L,n,a,h0,c=>by
   have f:=a g (.head _)
   have e:=(yMa (L:=L) λx b=>(a x (.tail _ b)).2.1).1
   have d:ZR (g::L)=(g.to_ - g.from_)+ZR L:=by simp[ZR]
   rw[d] at c⊢
   rw[List.foldl_cons,qp (n:=g.to_ - g.from_) (by unfold Fit;omega),qp (n:=n+(g.to_ - g.from_)) (by unfold Fit;omega),kIa L _ (λx b=>a x (.tail _ b)) (by omega) (by omega)]
   omega
theorem XGa{L:List Seg}(h:RiseTo L 32054400)(k:Int):kma k L=ZR (L.filter (xA k)):=by
 have c:=kHa h
 have b:=kGa (p:=xA k) λg a=>(h.each g a).2.1
 unfold kma Vqa
 rw[kIa _ 0 (λg a=>h.each g (qq.1 a).1) (by decide) (by omega)]
 omega
theorem Q1(n:Int):0<=yJ n/\yJ n<53:=by
 unfold yJ ofI jl
 have h0:0<=min (max n 0) 32054399/\min (max n 0) 32054399<=32054399:=by omega
 rw[Int.tdiv_eq_ediv_of_nonneg h0.1,qp (by unfold Fit;omega)]
 omega
theorem Qsa{s:Setup}{l:List Ev}{w k:Int}(a:qv s=true):(kE s l w k).eligible=ZR ((qF s l w).1.filter (xA k)):=by
 obtain⟨b,_⟩:=JG (s:=s) (l:=l) (w:=w) a
 unfold kE
 rw[if_pos a,zpa,JP,kna,XGa b]
theorem XHa{L:List Seg}(h:RiseTo L 32054400)(k:Int):(0<=ZR (L.filter (xA k))/\ZR (L.filter (xA k))<=32054400)/\decide (ZR (L.filter (xA k))>0)=L.any (xA k):=by
 have h0:=yMa (L:=L.filter (xA k)) λg a=>(h.each g (qq.1 a).1).2.1
 have e:=kHa h
 have d:=kGa (p:=xA k) λg a=>(h.each g a).2.1
 refine⟨⟨h0.1,by omega⟩,?_⟩
 cases c:L.any (xA k)
 ·have:L.filter (xA k)=[]:=by
   rw[List.filter_eq_nil_iff]
   intro g a b
   rw[List.any_eq_false] at c
   exact c g a b
  rw[this];rfl
 ·obtain⟨g,a,b⟩:=List.any_eq_true.1 c
  have:L.filter (xA k)≠[]:=List.ne_nil_of_mem (qq.2 ⟨a,b⟩)
  simpa using h0.2 this
theorem VQa{a b t:Int}:Cov [⟨a,b⟩] t↔a<=t/\t<b:=by
 rw[jN]
 simp[WT]
theorem zqa{a:List Spn}{n size t:Int}(h:Cov (vO a n size) t):(0<=t/\t<32054400)/\Cov a t/\n*size<=t/\t<(n+1)*size:=by
 unfold vO at h
 split at h
 ·exact absurd h WT
 ·rw[KT,VQa] at h
  exact⟨h.1,h.2.1,h.2.2⟩
section
variable {s:Setup} {L L1 L2:List Seg} {wk d t:Int}
structure SameW (L1 L2:List Seg) (wk:Int):Prop where
 clock:∀t,0<=t->t<32054400->yJ t=wk->(Cov (L1.map spS) t↔Cov (L2.map spS) t)
 rest:∀t,0<=t->t<32054400->yJ t=wk->(Cov ((L1.filter λg=>g.kind==3).map spS) t↔Cov ((L2.filter λg=>g.kind==3).map spS) t)
end
section
variable {s:Setup} {n wk:Int} {L L1 L2:List Seg}
end
section
variable {s:Setup} {A B:List Ev} {e:Ev} {w wk:Int}
end
theorem VRa{P:Program}{f:FuncId}{x v:Value}(i:XQ P f=true)(c:∀w,Calls P f #[x] w λe w'=>e= .returned v/\w=w'):xw P f [.v x] (.v v):=λh=>by
 refine⟨i,⟨_,_,⟨rfl,rfl⟩,.refl⟩,λφ k B w g vs j hB a=>?_⟩
 obtain⟨u,r,rfl,d,b⟩:=a
 have d:u=x:=d
 have b:r=[]:=b
 subst d b
 refine(c w).mono ?_
 rintro e w' ⟨rfl,rfl⟩
 exact⟨_,_,_,_,rfl,⟨rfl,rfl⟩,.refl,Good.refl j hB,rfl⟩
def jE(n:Int):Int:=wr ((wr (Go.Lib.bitLen (IntKind.wrap .u64 n).toNat+7)).tdiv 8)
theorem XIa(n:Int):xw Tryz.prog 74 [i64 n] (i64 (jE n)):=λh=>by
 have a:0<=IntKind.wrap .u64 n/\IntKind.wrap .u64 n<=18446744073709551615:=by
  rw[IntKind.wrap_u64];omega
 refine zj Tryz.f74 [.tmp 2] 8 rfl rfl rfl rfl rfl rfl (by decide) (⟨_,_,⟨rfl,rfl⟩,.refl⟩) λB=>?_
 simp only[go_sem]
 refine zg (VRa (by kernel_rfl) (λw=>Qta (IntKind.wrap .u64 n) w a.1 a.2) _) ?_
 rintro _ b ⟨rfl,rfl⟩
 simp only[go_sem]
 refine zm ?_<;>(simp only[go_sem,jE]<;>try rfl)
