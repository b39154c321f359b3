import Derived.Test.YtigdlmpjijhpaaaGreatKA
import Derived.Test.YtigdlmpjijhpaaaGreatK37
import Derived.Lib.AppendZeros
import Derived.Test.YtigdlmpjijhpaaaGreatK34
import Derived.Test.YtigdlmpjijhpaaaGreatK30
import Derived.Test.YtigdlmpjijhpaaaGreatK31
import Derived.Test.YtigdlmpjijhpaaaGreatK27
import Derived.Test.YtigdlmpjijhpaaaGreatK32
import Derived.Test.YtigdlmpjijhpaaaGreatK23
set_option linter.all false
namespace Go.Proofs.YtigdlmpjijhpaaaGreat.Ax
open Go Go.Proofs Go.RowKit Go.Lib
set_option maxRecDepth 100000
theorem yNa:∃i,Tryz.prog.info? 3=some i/\i.zero=some (.int .i64 0)/\i.size=1/\i.bytes=8:=by
 have h:(Tryz.prog.info? 3).map (λi=>(i.zero,i.size,i.bytes))=some (some (.int .i64 0),1,8):=by kernel_rfl
 cases hi:Tryz.prog.info? 3 with
 | none=>rw[hi] at h;cases h
 | some i=>
   rw[hi] at h
   injection h with h
   injection h with h1 h2
   injection h2 with h2 h3
   exact⟨i,rfl,h1,h2,h3⟩
theorem V7a{N:Nat}{B:Bs}{w:World}{g:Gh}{h:List Ob}{a:Act}{T b:Env}(r:Rel N B w g h a T)(c:∀i,b i=T i∨b i= .bad):Rel N B w g h a b:=
 ⟨r.ok,r.hB,λi=>by
  rcases c i with e|e
  ·rw[e];exact r.t i
  ·rw[e];trivial,r.d,r.n⟩
theorem yOa{P:Program}{N:Nat}{B:Bs}{φ:Nat->Ob}{ops:Array Oper}{o:Oper}{l:List Oper}{T:Env}{h h':List Ob}{x:AV}{w:World}{g:Gh}{a:Act}{Q:Exit->Act->World->Prop}(k:Upto φ h.length)(j:vu N o=true)(q:o.guard=none)(m:yK T o.op=none)
  (d:qf P T h o.op=some (x,h')) (r:Rel N B w g (fill φ h) a T) (next:∀g' w' c,ResK h h'->Rel N B w' g' (fill φ h') c (jb T o.dst x)->Good B.b w g (fill φ h) w' g' (fill φ h')->wpListIn Fence.wide 0 P ops Q l c w'):wpListIn Fence.wide 0 P ops Q (o::l) a w:=by
 unfold wpListIn
 rw[if_pos (by simp[Region.wanted,q])]
 refine Yt (K:=λe f=>e=jb T o.dst x/\f=h') 0 k j ?_ r ?_
 ·unfold Ys
  rw[m]
  unfold yk
  rw[d]
  exact⟨rfl,rfl⟩
 ·rintro e f w' c ⟨rfl,rfl⟩ ⟨g',n,p,i⟩
  exact next g' w' c n p i
theorem kHa(w:World)(b:Nat):(Instr.sliceAt 42 (.pointer (some ⟨b,0,none⟩)) none none none).run Tryz.prog w= .ok (.slice (some ⟨b,0,none⟩) 7 7) w:=by
 obtain⟨i,hi,c,d,e⟩:=yNa
 have a:Tryz.prog.underlying 42=some (.array 7 3):=Tryz.underlying42
 simp[Instr.sliceAt,Instr.sureAddr,run_underlying a,Instr.sliceBounds,sizeOf,typeInfo,hi,Addr.add_lit]
set_option maxHeartbeats 1000000 in
theorem V8a{N:Nat}{B:Bs}{T:Env}{h:List Ob}{Q:xR}{id i p q d A m d3:Nat}{ops:Array Oper}{L o1 o2 O:Oper}{rest:List Oper}(f:Nat->Int)(v:Int)(U:ops.toList=L::o1::o2::O::rest)
  (hd:ops.toList.all (vu N)=true) (e0:L.op= .slice 42 (.tmp p) none none none) (s0:L.dst=some d) (g0:L.guard=none)
  (e1:o1.op= .move (.tmp q)) (s1:o1.dst=some A) (g1:o1.guard=none)
  (e2:o2.op= .buildSlice 27 1 #[(0,.tmp A)]) (s2:o2.dst=some m) (g2:o2.guard=none)
  (e3:O.op= .call { callee:= .builtin .append,args:= #[.tmp d,.tmp m],argTypes:= #[27,27] }) (s3:O.dst=some d3) (g3:O.guard=none)
  (n01:A≠d) (n02:m≠d) (nq:q≠d)
  (hp:T p= .ptr i 0) (hb:h[i]? =some (.box 42 (yG f))) (hq:T q=i64 v)
  (k:wpR Tryz.prog ops (Q .normal) rest (upd (upd (upd (upd T d .bad) A (i64 v)) m (.tl h.length 0)) d3 (.tl (h.length+1) 0)) (h++[.row 3 1 [[i64 v]] 0]++[.row 3 1 ([f 0,f 1,f 2,f 3,f 4,f 5,f 6,v].map qz) 0])):
  AWp Tryz.prog N B (.region id ops false) Q T h:=λφ hu w g a r=>by
 refine(wpIn_wide (n:=0)).1 (wpIn_region ?_)
 rw[List.range_eq_range', <-qF,wpOpsIn_eq_wpListIn ops.toList 0 (by simp),U]
 rw[U] at hd
 simp only[List.all_cons,zq] at hd
 obtain⟨hd0,hd1,hd2,hd3,hdr⟩:=hd
 have s:=r.t p
 rw[hp] at s
 obtain⟨Y,s⟩:=s
 have s:a.eval (.tmp p)= .pointer (some ⟨g.β i,0,none⟩):=s
 have c0:L.wpIn Fence.wide 0 Tryz.prog a w (wpListIn Fence.wide 0 Tryz.prog ops (λe R w'=>∃o h',Q e o h'/\Aft N B φ w g h o h' R w') (o1::o2::O::rest)) (λe R w'=>∃o h',Q e o h'/\Aft N B φ w g h o h' R w'):=by
  refine Qs 0 ?_
  unfold Oper.wp
  have ζ:(execOp a.eval L).run Tryz.prog w= .ok (.value (.slice (some ⟨g.β i,0,none⟩) 7 7)) w:=by
   obtain⟨dst,op,type,pos,after,guard⟩:=L
   simp only at e0
   subst e0
   have:=kHa w (g.β i)
   simp only[execOp,s]
   simp[this]
  rw[ζ]
  show wpListIn Fence.wide 0 Tryz.prog ops _ (o1::o2::O::rest) (a.put L.dst (.slice (some ⟨g.β i,0,none⟩) 7 7)) w
  have r1:=wU (x:= .v (.slice (some ⟨g.β i,0,none⟩) 7 7)) (v:= .slice (some ⟨g.β i,0,none⟩) 7 7) r (Good.refl r.ok r.hB) rfl hd0
  rw[s0] at r1⊢
  obtain⟨M,ν⟩:∃M,M=Value.slice (some ⟨g.β i,0,none⟩) 7 7:=⟨_,rfl⟩
  rw[<-ν] at r1⊢
  obtain⟨X,I⟩:∃X,X=jb T (some d) (.v M):=⟨_,rfl⟩
  rw[<-I] at r1
  have t1q:X q=i64 v:=by rw[I];show upd T d _ q=_;unfold upd;rw[if_neg nq];exact hq
  have t1d:X d= .v M:=by rw[I];show upd T d _ d=_;unfold upd;rw[if_pos rfl]
  refine yOa (x:=i64 v) (h':=h) hu hd1 g1 (by rw[e1];rfl) (by rw[e1];simp only[qf,ev,t1q]) r1 ?_
  intro g2' w2 a2 q1 r2 k2
  rw[s1] at r2
  obtain⟨W,H⟩:∃W,W=jb X (some A) (i64 v):=⟨_,rfl⟩
  rw[<-H] at r2
  have t2d:W d= .v M:=by rw[H];show upd X A _ d=_;unfold upd;rw[if_neg (Ne.symm n01)];exact t1d
  have t2v:W A=i64 v:=by rw[H];show upd X A _ A=_;unfold upd;rw[if_pos rfl]
  refine yOa (x:= .tl h.length 0) (h':=h++[.row 3 1 [[i64 v]] 0]) hu hd2 g2 (by rw[e2];rfl) (by rw[e2];simp only[qf,jG,go_sem,evs,ev,t2v]) r2 ?_
  intro z c a3 q2 C k3
  rw[s2] at C
  obtain⟨T3,J⟩:∃T3,T3=jb W (some m) (.tl h.length 0):=⟨_,rfl⟩
  rw[<-J] at C
  have t3d:T3 d= .v M:=by rw[J];show upd W m _ d=_;unfold upd;rw[if_neg (Ne.symm n02)];exact t2d
  have t3v:T3 m= .tl h.length 0:=by rw[J];show upd W m _ m=_;unfold upd;rw[if_pos rfl]
  obtain⟨F,K⟩:∃F,F=h++[.row 3 1 [[i64 v]] 0]:=⟨_,rfl⟩
  rw[<-K] at C k3 q2 k
  have hl3:F.length=h.length+1:=by rw[K];simp
  have ξ:Upto φ F.length:=hu.mono (by omega)
  have hb3:F[i]? =some (.box 42 (yG f)):=by rw[K];exact ze hb
  have hr3:F[h.length]? =some (.row 3 1 [[i64 v]] 0):=by rw[K,zK rfl];rfl
  have kk:=k2.trans k3
  have hβ:z.β i=g.β i:=kk.le.β i Y
  have w0:a3.eval (.tmp d)=M:=by
   have:=C.t d
   rw[t3d] at this
   exact this
  have η:=C.t m
  rw[t3v] at η
  obtain⟨_,_,ο⟩:=η
  have S:=qL (φ:=φ) hr3 rfl
  have e4:a3.eval (.tmp m)=z.cur h.length:=(ο 0 (by simp[ctx,S,Ob.tok])).2 rfl
  obtain⟨_,_,cells,c2,c3⟩:=C.ok.ok _ _ S
  obtain⟨u,rr,z1,z2,z3⟩:=c3
  have z2:u= .int .i64 v:=z2
  have z3:rr=[]:=z3
  subst z1 z2 z3
  have V:=(Yg C.ok (qL (φ:=φ) hb3 rfl)).vals
  obtain⟨vs,v1,v2⟩:=V
  rw[hβ] at v2
  have E:vs.length=7:=by rw[<-wz v1];rfl
  obtain⟨ii,hi,hz,hs,hby⟩:=yNa
  rcases c2.2 with⟨_,e5⟩|⟨gg,cap,cur,e5,e6,e7,e8,e9,e10,e11⟩
  ·cases e5
  ·have e5:z.cur h.length= .slice (some ⟨gg,0,none⟩) 1 cap:=e5
   have D:=run_append_grow (P:=Tryz.prog) c 27 O.type 3 ii (.int .i64 0) Tryz.underlying27 hi hz ⟨g.β i,0,none⟩ 7 7 vs (by rw[hs,E]) v2 ⟨gg,0,none⟩ 1 cap [.int .i64 v] (by rw[hs];rfl) (λj x hx=>by
     have hj:j=0:=by
      cases j with
      | zero=>rfl
      | succ j=>simp at hx
     subst hj
     have hx:x= .int .i64 v:=by simpa using hx.symm
     subst hx
     have:cur[0]? =some (.int .i64 v):=by
      have:=congrArg (λl:List Value=>l[0]?) e11
      simpa [qZ] using this
     simp[World.cell?,e7,Addr.add_lit,this]) (by omega) (by omega) (growslice_fits (by omega) (by rw[hby];omega))
   have μ:=grownCap_ge c 8 7 3
   have σ:=grownCap_le_maxLen c 8 7 3 (by unfold maxLen;omega)
   obtain⟨G,hG⟩:∃G,G=grownCap c (7+1) 7 3:=⟨_,rfl⟩
   have hG8:grownCap c 8 7 3=G:=hG.symm
   rw[hG8] at μ σ
   rw[<-hG] at D
   obtain⟨cs,Z⟩:∃cs:Array Value,cs=vs.toArray++ #[Value.int .i64 v]++Builtin.zeroCells (Value.int .i64 0).cells (G - (7+1)):=⟨_,rfl⟩
   have θ:(vs.toArray++[Value.int .i64 v].toArray++Builtin.zeroCells (Value.int .i64 0).cells (G - (7+1)))=cs:=Z.symm
   rw[θ] at D
   have hsz:cs.size=G*1:=by
    rw[Z]
    simp only[Array.size_append,qUa,List.size_toArray,E]
    simp[Value.cells];omega
   have htk:cs.toList.take (8*1)=vs++[.int .i64 v]:=by
    rw[Z]
    simp only[Array.toList_append,List.toList_toArray]
    rw[qE (by simp[E])]
    rw[List.take_of_length_le (by simp[E])]
   have ε:ARs (ctx c z (fill φ F)) ([f 0,f 1,f 2,f 3,f 4,f 5,f 6,v].map qz).flatten (vs++[.int .i64 v]):=by
    have:=vQ v1 (show ARs (ctx c z (fill φ F)) [i64 v] [.int .i64 v] from⟨_,_,rfl,rfl,rfl⟩)
    exact this
   have κ:Below c.heap.size c (c.drew.alloc (.cells cs 3)):=(show Below c.heap.size c c.drew from⟨rfl,rfl,rfl,zp _,λ_ _=>rfl⟩).alloc (zp _) _
   obtain⟨m1,m2⟩:=JM C.ok C.hB (ty:=3) (e:=1) (by decide) (xs:=[f 0,f 1,f 2,f 3,f 4,f 5,f 6,v].map qz) (λx hx=>by
     obtain⟨y,_,rfl⟩:=zt.1 hx
     rfl) (v':= .slice (some ⟨c.heap.size,0,none⟩) 8 G) 0 κ
    ⟨by rw[zg,E];rfl,.inr ⟨c.heap.size,G,cs,rfl,C.hB,heap_alloc_new c.drew _,μ,σ,hsz,htk⟩⟩ ε (λb hb=>by injection hb with hb;subst hb;exact zp _)
   have hfl:fill φ (F++[.row 3 1 ([f 0,f 1,f 2,f 3,f 4,f 5,f 6,v].map qz) 0])=fill φ F++[.row 3 1 ([f 0,f 1,f 2,f 3,f 4,f 5,f 6,v].map qz) 0]:=xc ξ
   rw[ju] at m1 m2
   rw[<-hfl] at m1 m2
   have c3:O.wpIn Fence.wide 0 Tryz.prog a3 c (wpListIn Fence.wide 0 Tryz.prog ops (λe R w'=>∃o h',Q e o h'/\Aft N B φ w g h o h' R w') rest) (λe R w'=>∃o h',Q e o h'/\Aft N B φ w g h o h' R w'):=by
    refine Qs 0 (wp_append_run c (.tmp d) (.tmp m) 27 27 e3 M (.slice (some ⟨gg,0,none⟩) 1 cap) w0 (by rw[e4,e5]) (.slice (some ⟨c.heap.size,0,none⟩) 8 G) (c.drew.alloc (.cells cs 3)) (by rw[ν];exact D) ?_)
    have r4:=wU (x:= .tl F.length 0) (v:= .slice (some ⟨c.heap.size,0,none⟩) 8 G) C m1 m2 hd3
    rw[s3] at r4⊢
    have r5:Rel N B _ _ _ _ (upd (upd (upd (upd T d .bad) A (i64 v)) m (.tl h.length 0)) d3 (.tl (h.length+1) 0)):=V7a r4 (λj=>by
     rw[J,H,I,hl3]
     simp only[jb,upd]
     by_cases j3:j=d3
     ·rw[if_pos j3,if_pos j3];exact .inl rfl
     ·rw[if_neg j3,if_neg j3]
      by_cases j2:j=m
      ·rw[if_pos j2,if_pos j2];exact .inl rfl
      ·rw[if_neg j2,if_neg j2]
       by_cases j1:j=A
       ·rw[if_pos j1,if_pos j1];exact .inl rfl
       ·rw[if_neg j1,if_neg j1]
        by_cases j0:j=d
        ·rw[if_pos j0];exact .inr rfl
        ·rw[if_neg j0,if_neg j0];exact .inl rfl)
    refine Zr rest hdr (ξ.mono (by rw[zg];omega)) (xVa _ k) r5 ?_
    intro o h' w' R q hq4
    refine⟨o,h',q,hq4.trans ?_ ((k2.trans k3).trans m1)⟩
    exact(q1.trans q2).trans resK_app
   unfold wpListIn
   rw[if_pos (by simp[Region.wanted,g3])]
   exact c3
 unfold wpListIn
 rw[if_pos (by simp[Region.wanted,g0])]
 exact c0
end Go.Proofs.YtigdlmpjijhpaaaGreat.Ax
namespace Go.Proofs.YtigdlmpjijhpaaaGreat.Ax
open Go Go.Proofs
set_option maxRecDepth 100000
section
variable {P:Program} {N:Nat} {B:Bs} {Q:xR} {T:Env} {h:List Ob}
theorem jR{c:Code}(k:AWp P N B c Q T h): @Z6 P N B ⟨(c,Q)⟩ T h:=k
theorem qG{c c':Code}(a:okC N c=true)(k:wpC P N B c (yQ (λT h=> @Z6 P N B ⟨(c',Q)⟩ T h) Q) T h):AWp P N B (.seq c c') Q T h:=Z5 (qD _ a k)
theorem XWa{c c':Code}(k:AWp P N B c (yQ (λT h=> @Z6 P N B ⟨(c',Q)⟩ T h) Q) T h):AWp P N B (.seq c c') Q T h:=Z5 k
theorem xo{c c':Code}(S:Env->List Ob->Prop)(a:okC N c=true)(k1:wpC P N B c (yQ S Q) T h)(k2:∀T h,S T h->AWp P N B c' Q T h):AWp P N B (.seq c c') Q T h:=
 Z5 ((qD _ a k1).mono λe T h q=>by cases e<;>first|exact k2 _ _ q|exact q)
end
def Xe(s:Setup)(w:Nat):Int:=s.rates.getD w 0
def vK(s:Setup)(w:Nat)(t:Nat->Int)(j:Nat):Int:=if j=0 then 0 else qha (wr (Jj (t j)*ZN s (Xe s w) j)) 7200
def JF(t:Nat->Int):Nat->Int
 | 0=>0
 | j+1=>if j=0 then 0 else wr (JF t j+Jj (t j))
def WG(s:Setup)(i:Nat):Int:=(s.tiers.getD i (0,0)).2
def vL(s:Setup)(g tier:Int):Int:=if 0<=tier/\tier<s.tiers.length then qha (wr (Jj g*WG s tier.toNat)) 3600 else 0
structure PayR where
 pays:Nat->Int
 extra:Int
 supp:Int
 total:Int
def j1a(s:Setup)(w:Nat)(t:Nat->Int)(g tier:Int):PayR:=
 let p:=vK s w t
 let e:=vL s g tier
 let sum:=(Ku 0 [p 0,p 1,p 2,p 3,p 4,p 5,p 6,e]).1
 let least:=(upI (wr (JF t 7*s.least)) 3600).1
 let supp:=max 0 (wr (least - sum))
 ⟨p,e,supp,wr (sum+supp)⟩
def V9a(p:PayR):AV:= .tup [.ag (yG p.pays),i64 p.extra,i64 p.supp,i64 p.total,i64 0]
structure PB (h h':List Ob) (s:Setup) (a:SA) (t u:Nat->Int):Prop where
 pre:Pre h h'
 set_:h'[h.length]? =some (.box 30 (qg s a))
 tot:h'[h.length+1]? =some (.box 42 (yG t))
 pay:h'[h.length+2]? =some (.box 42 (yG u))
theorem PB.app{h h':List Ob}{s:Setup}{a:SA}{t u:Nat->Int}(k:PB h h' s a t u){M:List Ob}(b:NoRes M):PB h (h'++M) s a t u:=⟨k.pre.app b,ze k.set_,ze k.tot,ze k.pay⟩
theorem PB.put{h h':List Ob}{s:Setup}{a:SA}{t u b:Nat->Int}(k:PB h h' s a t u):PB h (h'.set (h.length+2) (.box 42 (yG b))) s a t b:=
 ⟨k.pre.set (by omega) rfl,by rw[zc (by omega)];exact k.set_,by rw[zc (by omega)];exact k.tot,zm k.pay⟩
theorem xWb(h:List Ob)(s:Setup)(a:SA)(k:SIn h s a)(f:SFit s)(δ:z6 s=true)(w:Nat)(Z:w<s.rates.length)(t:Nat->Int)(g tier:Int):
  ACalls Tryz.prog 60 [jg s a,i64 w,.ag (yG t),i64 g,i64 tier] h λr h'=>r=V9a (j1a s w t g tier)/\h'=h:=by
 have υ:=k.r.rows
 refine jM (N:=105) (rs:=[.cell 10 42,.tmp 11,.tmp 12,.tmp 13,.tmp 14]) (fn:=Tryz.f60) rfl rfl rfl rfl (qp rfl) rfl (⟨_,_,⟨rfl,rfl⟩,.refl⟩) λB=>?_
 refine qG (by decide) ?_
 simp only[go_sem,k.ones]
 refine jR (qG (by decide) ?_)
 simp only[go_sem,k.ones]
 refine zh (c16 _ s a (k.app _) f) ?_
 rintro _ J ⟨rfl,rfl⟩
 simp only[go_sem,δ,qv,Bool.not_true]
 refine jR (qG (by decide) ?_)
 have P:decide ((w:Int)<0)=false:=by rw[decide_eq_false_iff_not];omega
 have R:decide ((w:Int)≥(s.rates.length:Int))=false:=by rw[decide_eq_false_iff_not];omega
 have ζ:∀M,qc (h++M) a.r=some (s.rates.map qz):=λM=>(k.app M).r.rows
 simp only[go_sem,P,qv,ζ,R,zb]
 refine jR (qG (by decide) ?_)
 simp only[go_sem]
 refine jR (qG (by decide) ?_)
 simp only[go_sem]
 refine zO (by decide) (λm T h'=>∃n:Nat,n<=7/\PB h h' s a t (λj=>if j<n then vK s w t j else 0)/\T 1=i64 w/\T 3=i64 g/\T 4=i64 tier/\T 5= .ptr h.length 0/\T 7= .ptr (h.length+1) 0/\T 10= .ptr (h.length+2) 0/\T 11=i64 0/\T 15=i64 (JF t n)/\T 34=i64 n/\m=7 - n) 7
  ⟨0,by omega,⟨⟨_,rfl,zl rfl (zl rfl (zD rfl))⟩,by rw[zK rfl];rfl,by rw[zG (k:=1) rfl];rfl,by rw[zG (k:=2) rfl];rfl⟩,by simp only[go_sem],by simp only[go_sem],by simp only[go_sem],by simp only[go_sem],by simp only[go_sem],by simp only[go_sem],by simp only[go_sem],by(simp only[go_sem]<;>rfl),by(simp only[go_sem]<;>rfl),rfl⟩ ?_
 rintro m T h' ⟨n,hn,u,t1,t3,t4,t5,W,t10,o,y,x,rfl⟩
 simp only[go_sem,x]
 refine ways (λe=>?_) (λe=>?_)
 ·have v:(n:Int)<7:=of_decide_eq_true e
  have l:n<7:=by omega
  simp only[go_sem,x]
  refine ways (λe0=>?_) (λe0=>?_)
  ·have D:n=0:=by simpa using e0
   subst D
   simp only[go_sem,x]
   have hu:(λj:Nat=>if j<0+1 then vK s w t j else 0)=λj=>if j<0 then vK s w t j else 0:=by
    funext j
    by_cases hj:j=0
    ·subst hj;rfl
    ·rw[if_neg (by omega),if_neg (by omega)]
   exact⟨6,by omega,1,by omega,by rw[hu];exact u,t1,t3,t4,t5,W,t10,o,y,rfl,rfl⟩
  ·have D:¬ n=0:=by simpa using e0
   have X:=u.tot
   have hg:=XTa t l
   simp only[go_sem,W,x,X,hg,v,l,Nat.mul_one,Nat.zero_add,Int.toNat_natCast,zf]
   refine zh (kGa _ _) ?_
   rintro _ A ⟨rfl,e2⟩
   rw[e2]
   simp only[go_sem,y]
   refine zQ rfl [] 0 [(0,0,[]),(1,0,[]),(3,0,[]),(5,0,[]),(8,0,[]),(2,0,[]),(4,0,[]),(6,0,[]),(7,0,[]),(9,0,[]),(10,0,[]),(11,0,[]),(12,0,[]),(13,0,[])] rfl (by decide) (by decide) ?_
   have b:=u.set_
   have z:=u.pay
   have d:=((u.pre.sin k).r).rows
   have G:=((u.pre.sin k).r).at (i:=w) (by rw[zb];exact Z)
   have c:(s.rates.map qz)[w]? =some [i64 (Xe s w)]:=by
    rw[zz,zi Z]
    simp[Xe,List.getD,Z,qz]
   have H:(w:Int)<s.rates.length:=by omega
   have E:=kEa (λj=>if j<n then vK s w t j else 0) l (vK s w t n)
   have α:(λj:Nat=>if j=n then vK s w t n else if j<n then vK s w t j else 0)=λj:Nat=>if j<n+1 then vK s w t j else 0:=by
    funext j
    by_cases J:j=n
    ·subst J;rw[if_pos rfl,if_pos (by omega)]
    ·rw[if_neg J]
     by_cases A:j<n
     ·rw[if_pos A,if_pos (by omega)]
     ·rw[if_neg A,if_neg (by omega)]
   rw[α] at E
   simp only[go_sem,t1,t5,t10,x,b,z,d,G,c,H,v,l,zb,Nat.mul_one,Nat.zero_add,Int.toNat_natCast,zf]
   refine zh (zpb _ s a (u.pre.sin k) (Xe s w) n (by omega)) ?_
   rintro _ h3 ⟨rfl,K⟩
   rw[K]
   simp only[go_sem,t1,t5,t10,x,b,z,d,G,c,H,v,l,zb,Nat.mul_one,Nat.zero_add,Int.toNat_natCast,zf]
   refine zh (Yta _ _ _) ?_
   rintro _ h4 ⟨rfl,O⟩
   rw[O]
   have γ:qha (IntKind.wrap .i64 (Jj (t n)*ZN s (Xe s w) n)) 7200=vK s w t n:=by unfold vK;rw[if_neg D]
   rw[γ]
   simp only[go_sem,t1,t5,t10,x,b,z,d,G,c,H,E,v,l,zb,Nat.mul_one,Nat.zero_add,Int.toNat_natCast,zf]
   exact⟨7 - (n+1),by omega,n+1,by omega,u.put,t3,t4,W,o,by rw[JF,if_neg D],qn (by omega) rfl,rfl⟩
 ·have R:¬ (n:Int)<7:=of_decide_eq_false e
  have ε:n=7:=by omega
  subst ε
  simp only[go_sem]
  have ρ:(λj:Nat=>if j<7 then vK s w t j else 0)=λj:Nat=>if j<7 then vK s w t j else 0:=rfl
  refine jR (xo (λQ A=>PB h A s a t (λj=>if j<7 then vK s w t j else 0)/\Q 5= .ptr h.length 0/\Q 10= .ptr (h.length+2) 0/\Q 11=i64 (vL s g tier)/\Q 15=i64 (JF t 7)) (by decide) ?_ ?_)
  ·have b:=u.set_
   have d:=((u.pre.sin k).t).rows
   simp only[go_sem,t4,t5,b,d,zb]
   cases S:decide (tier≥0)
   ·have J:¬ tier≥0:=of_decide_eq_false S
    have hex:vL s g tier=0:=by unfold vL;rw[if_neg (λq=>J q.1)]
    simp only[go_sem,S,qv]
    rw[hex]
    exact⟨u,t5,t10,o,y⟩
   ·have J:0<=tier:=of_decide_eq_true S
    cases V:decide (tier<s.tiers.length)
    ·have A:¬ tier<s.tiers.length:=of_decide_eq_false V
     have hex:vL s g tier=0:=by unfold vL;rw[if_neg (λq=>A q.2)]
     simp only[go_sem,S,V,qv,t4,t5,b,d,zb]
     rw[hex]
     exact⟨u,t10,o,y⟩
    ·have A:tier<s.tiers.length:=of_decide_eq_true V
     simp only[go_sem,S,V,qv,t4,t5,b,d,zb]
     obtain⟨C,θ⟩:∃C:Nat,(C:Int)=tier:=⟨tier.toNat,by omega⟩
     subst θ
     have v:C<s.tiers.length:=by omega
     have I:=((u.pre.sin k).t).at (i:=C) (by rw[zb];exact v)
     have c:(s.tiers.map jS)[C]? =some [i64 (s.tiers.getD C (0,0)).1,i64 (s.tiers.getD C (0,0)).2]:=by
      rw[zz,zi v]
      simp[List.getD,v,jS]
     have hex:vL s g C=qha (wr (Jj g*WG s C)) 3600:=by unfold vL;rw[if_pos ⟨by omega,A⟩];rfl
     refine zQ rfl [] 0 [(0,0,[]),(2,0,[]),(4,0,[]),(3,0,[]),(5,0,[]),(6,0,[]),(7,0,[]),(1,0,[3,5,7]),(8,0,[]),(9,0,[]),(10,0,[])] rfl (by decide) (by decide) ?_
     simp only[go_sem,t3,t4,t5,b,d,I,c,A,zb,Int.toNat_natCast,zf]
     refine zh (kGa _ _) ?_
     rintro _ h3 ⟨rfl,K⟩
     rw[K]
     simp only[go_sem,t3,t4,t5,b,d,I,c,A,zb,Int.toNat_natCast,zf]
     refine zh (Yta _ _ _) ?_
     rintro _ h4 ⟨rfl,O⟩
     rw[O]
     rw[show qha (IntKind.wrap .i64 (Jj g*(s.tiers.getD C (0,0)).2)) 3600=vL s g C from hex.symm]
     simp only[go_sem,t3,t4,t5,b,d,I,c,A,zb,Int.toNat_natCast,zf]
     exact⟨u,t10,y⟩
  ·clear t1 t3 t4 t5 W t10 o y x u
   rintro Q A ⟨u,t5,t10,o,y⟩
   refine XWa (V8a (λj=>if j<7 then vK s w t j else 0) (vL s g tier) rfl (by decide) rfl rfl rfl rfl rfl rfl rfl rfl rfl rfl rfl rfl (by decide) (by decide) (by decide) t10 u.pay o ?_)
   simp only[go_sem]
   obtain⟨p,hp⟩:∃p,p=vK s w t:=⟨_,rfl⟩
   obtain⟨e,Y⟩:∃e,e=vL s g tier:=⟨_,rfl⟩
   rw[<-hp, <-Y]
   refine zh (xVb _ (.tl (A.length+1) 0) [p 0,p 1,p 2,p 3,p 4,p 5,p 6,e] ⟨by rw[q8,zG (k:=1) rfl];rfl,λ_=>by rw[jO,zG (k:=1) rfl];rfl⟩ (by show 8<1048576;decide)) ?_
   rintro _ h3 ⟨rfl,K⟩
   rw[K]
   simp only[go_sem,XN]
   refine jR (qG (by decide) ?_)
   have F:=(u.app (M:=[.row 3 1 [[i64 e]] 0,.row 3 1 [qz (p 0),qz (p 1),qz (p 2),qz (p 3),qz (p 4),qz (p 5),qz (p 6),qz e] 0]) (zl rfl (zD rfl)))
   have b:=F.set_
   have z:(A++[.row 3 1 [[i64 e]] 0,.row 3 1 [qz (p 0),qz (p 1),qz (p 2),qz (p 3),qz (p 4),qz (p 5),qz (p 6),qz e] 0])[h.length+2]? =some (.box 42 (yG p)):=by
    have:=F.pay
    rw[show(yG λj=>if j<7 then vK s w t j else 0)=yG p by rw[hp];rfl] at this
    exact this
   simp only[go_sem,t5,y,b]
   refine zh (cUp _ _ _) ?_
   rintro _ h4 ⟨rfl,O⟩
   rw[O]
   simp only[go_sem,XN]
   refine jR (qD _ (by decide) ?_)
   have hq:j1a s w t g tier=⟨p,e,max 0 (wr ((upI (wr (JF t 7*s.least)) 3600).1 - (Ku 0 [p 0,p 1,p 2,p 3,p 4,p 5,p 6,e]).1)),wr ((Ku 0 [p 0,p 1,p 2,p 3,p 4,p 5,p 6,e]).1+max 0 (wr ((upI (wr (JF t 7*s.least)) 3600).1 - (Ku 0 [p 0,p 1,p 2,p 3,p 4,p 5,p 6,e]).1)))⟩:=by rw[hp,Y];rfl
   rw[hq]
   obtain⟨S0,φ⟩:∃S0,S0=(Ku 0 [p 0,p 1,p 2,p 3,p 4,p 5,p 6,e]).1:=⟨_,rfl⟩
   obtain⟨U,hU⟩:∃U,U=(upI (wr (JF t 7*s.least)) 3600).1:=⟨_,rfl⟩
   simp only[go_sem,t10,z]
   rw[qS z]
   obtain⟨L,hL,hN⟩:=F.pre
   refine⟨V9a _,?_,.inr ⟨h,L,hL,rfl,rfl,.refl,rfl,rfl⟩⟩
   rw[<-Y] at o
   simp only[go_sem,t10,o,z,V9a,Q6]
theorem q0a{c:Ctx}:∀ {xs:List AV} {x:AV} {us:List Value},ARs c (xs++[x]) us->∃b u,us=b++[u]/\ARs c xs b/\AR c x u
 | [],x,us,⟨u,r,f,e,d⟩=>by
   have d:r=[]:=d
   subst d
   exact⟨[],u,f,rfl,e⟩
 | a::xs,x,us,⟨u,r,f,e,d⟩=>by
   obtain⟨b,v,h,i,g⟩:=q0a d
   subst h
   exact⟨u::b,v,f,⟨u,b,rfl,e,i⟩,g⟩
theorem XZ{P:Program}{f:FuncId}{ar:List AV}{h:List Ob}{cs:List AV}{e:Nat}{rows:List (List AV)}(p:0<e)(i:qy h.length cs=true)(z:qO h.length rows=true)(c:ACalls P f ar h λr h'=>∃L x,h'=h++L/\NoRes L/\r= .ag (cs++[x])/\New h e x rows L):ACalls P f ar h λr h'=>r= .ag (cs++[.sl e rows])/\h'=h:=by
 refine⟨c.1,⟨_,_,⟨rfl,rfl⟩,.refl⟩,λφ j B w g vs l hB b=>?_⟩
 refine(c.2.2 φ j B w g vs l hB b).mono λC w' ⟨v,r,h',g',t,⟨L,x,o,_,s,n1⟩,_,d,k⟩=>?_
 subst o s
 rw[xc j] at d k
 have a:(fill φ h).length=h.length:=ju
 obtain⟨us,rfl,q⟩:=k
 obtain⟨n,u,y,A,m⟩:=q0a q
 refine⟨_,_,h,g',t,⟨rfl,rfl⟩,.refl,d.drop rfl (by have:=l.ids;exact this),us,rfl,?_⟩
 rw[y]
 exact vQ (ARs.less (vB w' g' (fill φ h) L) _ _ (by rw[ju];exact i) A) ⟨u,[],rfl,J6 d.ok p m (n1 _ a) (λid hid=>by rw[a];exact n1.root id hid) (by rw[a];exact z),rfl⟩
theorem zAa{n:Nat}:∀l:List Seg,qO n (l.map ve)=true
 | []=>rfl
 | s::l=>by
   rw[List.map_cons,qO,zAa l];rfl
theorem V4{n:Nat}:∀l:List Flg,qO n (l.map xW)=true
 | []=>rfl
 | s::l=>by
   rw[List.map_cons,qO,V4 l];rfl
theorem yQa(h:List Ob)(s:Setup)(a:SA)(k:SIn h s a)(f:SFit s)(x:AV)(l:List Ev)(w:Int)(b:SlOf h x 11 (l.map evC))(c:l.length<1048576):
  ACalls Tryz.prog 21 [jg s a,x,i64 w] h λr h'=>r= .tup [.sl 5 ((qA s l w).1.map ve),.sl 2 ((qA s l w).2.map xW)]/\h'=h:=
 kja (by decide) (by decide) (zAa _) (V4 _) (c21 h s a k f x l w b c)
def xX(s:Setup)(w k:Int):Int:=if !z6 s then 70 else if w<0∨(s.rates.length:Int)<=w then 80 else if k<0∨52<k then 212 else 0
theorem zsb(h:List Ob)(s:Setup)(a:SA)(k:SIn h s a)(f:SFit s)(w wk:Int):
  ACalls Tryz.prog 51 [jg s a,i64 w,i64 wk] h λr h'=>r=i64 (xX s w wk)/\h'=h:=by
 have c:∀M,qc (h++M) a.r=some (s.rates.map qz):=λM=>(k.app M).r.rows
 refine zj Tryz.f51 [.tmp 6] 28 rfl rfl rfl rfl rfl rfl (by decide) (⟨_,_,⟨rfl,rfl⟩,.refl⟩) λB=>?_
 simp only[go_sem,k.ones]
 refine zh (c16 _ s a (k.app _) f) ?_
 rintro _ d ⟨rfl,rfl⟩
 cases b:z6 s
 ·simp only[go_sem,b,qv,Bool.not_false]
  refine zn ?_<;>(simp only[go_sem,xX,b]<;>try rfl)
 ·simp only[go_sem,b,qv,Bool.not_true]
  cases e:decide (w<0)
  ·have d:¬ w<0:=of_decide_eq_false e
   cases g:decide (w≥(s.rates.length:Int))
   ·have j:¬ (s.rates.length:Int)<=w:=of_decide_eq_false g
    cases i:decide (wk<0)
    ·have m:¬ wk<0:=of_decide_eq_false i
     cases l:decide (wk>52)
     ·have n:¬ 52<wk:=of_decide_eq_false l
      simp only[go_sem,e,g,i,l,qv,c,zb]
      refine zn ?_<;>(simp only[go_sem,xX,b,d,j,m,n]<;>try rfl)
     ·have n:52<wk:=of_decide_eq_true l
      simp only[go_sem,e,g,i,l,qv,c,zb]
      refine zn ?_<;>(simp only[go_sem,xX,b,d,j,m,n]<;>try rfl)
    ·have m:wk<0:=of_decide_eq_true i
     simp only[go_sem,e,g,i,qv,c,zb]
     refine zn ?_<;>(simp only[go_sem,xX,b,d,j,m]<;>try rfl)
   ·have j:(s.rates.length:Int)<=w:=of_decide_eq_true g
    simp only[go_sem,e,g,qv,c,zb]
    refine zn ?_<;>(simp only[go_sem,xX,b,d,j]<;>try rfl)
  ·have d:w<0:=of_decide_eq_true e
   simp only[go_sem,e,qv]
   refine zn ?_<;>(simp only[go_sem,xX,b,d]<;>try rfl)
def vM(s:Setup)(w:Int)(e:Ev):Bool:=e.worker != w || !vI s e
theorem jtb(h:List Ob)(s:Setup)(a:SA)(k:SIn h s a)(i j:Nat)(w:Int)(hi:h[i]? =some (.box 30 (qg s a)))(d:h[j]? =some (.box 3 [i64 w]))(e:Ev):
  ACalls Tryz.prog 54 [evV e,.ptr j 0,.ptr i 0] h λr h'=>r=bl (vM s w e)/\h'=h:=by
 have b:∀M,(h++M)[i]? =some (.box 30 (qg s a)):=λM=>ze hi
 have c:∀M,(h++M)[j]? =some (.box 3 [i64 w]):=λM=>ze d
 refine zj Tryz.f54 [.tmp 4] 15 rfl rfl rfl rfl rfl rfl (by decide) (⟨_,_,⟨rfl,rfl⟩,.refl⟩) λB=>?_
 simp only[go_sem,b,c,k.ones]
 cases q:e.worker != w
 ·simp only[go_sem,q,qv,b]
  refine zh (c14 _ s a (k.app _) e) ?_
  rintro _ f ⟨rfl,rfl⟩
  simp only[go_sem]
  refine zn ?_<;>(simp only[go_sem,vM,q]<;>try rfl)
 ·simp only[go_sem,q,qv]
  refine zn ?_<;>(simp only[go_sem,vM,q]<;>try rfl)
theorem jub(h:List Ob)(j:Nat)(f:Flg)(b:h[j]? =some (.box 105 (xW f)))(e:Ev):
  ACalls Tryz.prog 62 [evV e,.ptr j 0] h λr h'=>r=bl (e.id==f.id)/\h'=h:=by
 have a:∀M,(h++M)[j]? =some (.box 105 [i64 f.id,i64 f.kind]):=λM=>ze b
 refine zj Tryz.f62 [.tmp 3] 9 rfl rfl rfl rfl rfl rfl (by decide) (⟨_,_,⟨rfl,rfl⟩,.refl⟩) λB=>?_
 simp only[go_sem,a]
 refine zn ?_<;>(simp only[go_sem]<;>try rfl)
def RowsK(h h':List Ob):Prop:=∀(id ty e:Nat) (xs:List (List AV)) (st:Nat),h[id]? =some (.row ty e xs st)->h'[id]? =some (.row ty e xs st)
theorem kLa{o:Option Ob}{e:Nat}(h:eTl o=some e):∃ty xs st,o=some (.row ty e xs st):=by
 unfold eTl at h
 split at h
 ·injection h with h
  subst h
  exact⟨_,_,_,rfl⟩
 ·cases h
theorem kMa{o:Option Ob}{st:Nat}{xs:List (List AV)}(h:qCa o st=some xs):∃ty e,o=some (.row ty e xs st):=by
 unfold qCa at h
 split at h
 ·split at h
  ·rename_i a
   injection h with h
   subst a h
   exact⟨_,_,rfl⟩
  ·cases h
 ·cases h
theorem zBa{h h':List Ob}(k:RowsK h h'):∀(a:AV) {e:Nat},eOf h a=some e->eOf h' a=some e
 | .sl _ _,_,b=>b
 | .tl id st,e,b=>by
   rw[jO] at b⊢
   obtain⟨ty,xs,st',d⟩:=kLa b
   rw[k _ _ _ _ _ d];rfl
 | .vw a f i n,e,b=>by
   rw[Q1] at b⊢
   cases c:eOf h a with
   | none=>rw[c] at b;cases b
   | some ys=>
     rw[c] at b
     rw[zBa k a c]
     exact b
 | .v _,_,b | .em,_,b | .ptr _ _,_,b | .ep _ _ _ _,_,b | .mp _,_,b | .ag _,_,b | .tup _,_,b | .fn _ _ _,_,b | .bad,_,b=>by cases b
theorem WJ{h h':List Ob}(k:RowsK h h'):∀(a:AV) {xs:List (List AV)},qc h a=some xs->qc h' a=some xs
 | .sl _ _,_,b=>b
 | .em,_,b=>b
 | .tl id st,xs,b=>by
   rw[q8] at b⊢
   obtain⟨ty,e,f⟩:=kMa b
   rw[k _ _ _ _ _ f,kV,if_pos rfl]
 | .vw a e i n,xs,b=>by
   rw[vC] at b⊢
   cases c:qc h a with
   | none=>rw[c] at b;cases b
   | some ys=>
     rw[c] at b
     rw[WJ k a c]
     simp only[Option.bind_some] at b⊢
     split at b
     ·rename_i d
      rw[if_pos ⟨d.1,d.2.imp id (zBa k a)⟩]
      exact b
     ·cases b
 | .v x,_,b=>by rw[<-x0a (h:=h)];exact b
 | .ptr _ _,_,b | .ep _ _ _ _,_,b | .mp _,_,b | .ag _,_,b | .tup _,_,b | .fn _ _ _,_,b | .bad,_,b=>by cases b
theorem SlOf.keep{h h':List Ob}(k:RowsK h h'){a:AV}{e:Nat}{xs:List (List AV)}(q:SlOf h a e xs):SlOf h' a e xs:=⟨WJ k a q.rows,λb=>zBa k a (q.ee b)⟩
theorem RowsK.setB{h:List Ob}{i:Nat}{t:TypeId}{cs:List AV}{o:Ob}(hi:h[i]? =some (.box t cs)):RowsK h (h.set i o):=λid ty e xs st q=>by
 have:i≠id:=λe=>by rw[e,q] at hi;cases hi
 rw[zc this];exact q
structure RowV where
 worker:Int
 week:Int
 err:Int
 tot:Nat->Int
 pays:Nat->Int
 earned:qw
 perf:qw
 elig:Int
 tier:Int
 extra:Int
 supp:Int
 total:Int
def vf(r:RowV):List AV:=[i64 r.worker,i64 r.week,i64 r.err,i64 (r.tot 0),i64 (r.tot 1),i64 (r.tot 2),i64 (r.tot 3),i64 (r.tot 4),i64 (r.tot 5),i64 (r.tot 6),i64 (r.pays 0),i64 (r.pays 1),i64 (r.pays 2),i64 (r.pays 3),i64 (r.pays 4),i64 (r.pays 5),i64 (r.pays 6),i64 r.earned.1,i64 r.earned.2,i64 r.perf.1,i64 r.perf.2,i64 r.elig,i64 r.tier,i64 r.extra,i64 r.supp,i64 r.total]
abbrev vA(r:RowV)(fl:AV):List AV:=[i64 r.worker,i64 r.week,i64 r.err,i64 (r.tot 0),i64 (r.tot 1),i64 (r.tot 2),i64 (r.tot 3),i64 (r.tot 4),i64 (r.tot 5),i64 (r.tot 6),i64 (r.pays 0),i64 (r.pays 1),i64 (r.pays 2),i64 (r.pays 3),i64 (r.pays 4),i64 (r.pays 5),i64 (r.pays 6),i64 r.earned.1,i64 r.earned.2,i64 r.perf.1,i64 r.perf.2,i64 r.elig,i64 r.tier,i64 r.extra,i64 r.supp,i64 r.total,fl]
theorem wAa{a b:List Pt}(h:a.Perm b)(k:Int):(ym a k).Perm (ym b k):=(h.filter _).map _
theorem Qva{a b:List Pt}(h:a.Perm b)(k:Int):ZY a k=ZY b k:=by
 unfold ZY
 rw[YV λt _ _=>Va (wAa h k) t]
theorem Qwa(s:Setup)(L:List Seg)(w:Int)(h:L.length<=3001):(vr s L w).length<1048576:=by
 have m:=kAa s L
 have g:=kBa s L
 have l:(jr (vY s L) w).length<=(qx (vY s L)).length+1:=QD _ _ _
 have i:=qm (vY s L)
 have e:=kDa s (yf s L) w
 obtain⟨o,d⟩:∃o,o=Jz s (yf s L) w:=⟨_,rfl⟩
 rw[<-d] at e
 have key:∀j,(ZX (jD (oj o j) (j6 s (oj o j))) (1+j)).length+(ZX (j6 s (oj o j)) (4+j)).length<=3*(oj o j).length+1485:=λj=>by
  have a1:=xx (oj o j) (j6 s (oj o j))
  have a2:=qm (oj o j)
  have a3:=qm (j6 s (oj o j))
  have a4:=V1 s (oj o j)
  rw[yW,yW];omega
 have k0:=key 0
 have k1:=key 1
 have k2:=key 2
 have a:oj o 0=o.1:=rfl
 have c:oj o 1=o.2.1:=rfl
 have b:oj o 2=o.2.2:=rfl
 have f:vr s L w=XQ s o (jr (vY s L) w) 3:=by rw[d];rfl
 rw[f,XQ,XQ,XQ,XQ]
 simp only[zg]
 have k:=yW (jr (vY s L) w) 0
 rw[a] at k0;rw[c] at k1;rw[b] at k2
 rw[a,c,b]
 omega
def evR(s:Setup)(w:Int)(l:List Ev):List Ev:=(qu l).filter λe=> !vM s w e
theorem j2a(s:Setup)(w:Int)(l:List Ev):(evR s w l).length<=l.length:=by
 have b:=qh (λe=> !vM s w e) (qu l)
 have a:=(xK l).length_eq
 unfold evR;omega
def QJ(own:List Ev)(f:Flg):Int:=xS (((own.find? λe=>e.id==f.id).map (·.at_)).getD 0)
def kNa(w wk e:Int):RowV:=⟨w,wk,e,λ_=>0,λ_=>0,(0,0),(0,0),0, -1,0,0,0⟩
def Qxa(s:Setup)(own:List Ev)(w:Nat)(wk:Int):RowV:=
 let P:=vz s own w wk
 let tot:=λj:Nat=>ZY (vr s (qA s own w).1 wk) j
 let tier:=if P.err=0/\0<P.eligible then vk s P.perf else -1
 let p:=j1a s w tot P.eligible tier
 ⟨w,wk,P.err,tot,p.pays,P.earned,P.perf,P.eligible,tier,p.extra,p.supp,p.total⟩
def jE(own:List Ev)(fl:List Flg)(wk:Int):List Flg:=fl.filter λf=>QJ own f==wk
def qi(s:Setup)(l:List Ev)(w wk:Int):RowV × List Flg:=
 if xX s w wk≠0 then(kNa w wk (xX s w wk),[]) else(Qxa s (evR s w l) w.toNat wk,jE (evR s w l) (qA s (evR s w l) w).2 wk)
structure RB (h h':List Ob) (s:Setup) (a:SA) (w:Int) (y:AV) (own:List Ev) (r:RowV) (fl:AV):Prop where
 pre:Pre h h'
 b0:h'[h.length]? =some (.box 30 (qg s a))
 b1:h'[h.length+1]? =some (.box 3 [i64 w])
 b2:h'[h.length+2]? =some (.box 45 (vA ⟨0,0,0,λ_=>0,λ_=>0,(0,0),(0,0),0,0,0,0,0⟩ (.v (.slice none 0 0))))
 b3:h'[h.length+3]? =some (.box 45 (vA r fl))
 sl:SlOf h' y 11 (own.map evC)
theorem RB.put{h h':List Ob}{s:Setup}{a:SA}{w:Int}{y:AV}{own:List Ev}{r:RowV}{fl:AV}(k:RB h h' s a w y own r fl)(c:RowV)(b:AV):RB h (h'.set (h.length+3) (.box 45 (vA c b))) s a w y own c b:=
 ⟨k.pre.set (by omega) rfl,by rw[zc (by omega)];exact k.b0,by rw[zc (by omega)];exact k.b1,by rw[zc (by omega)];exact k.b2,zm k.b3,k.sl.keep (.setB k.b3)⟩
theorem RB.app{h h':List Ob}{s:Setup}{a:SA}{w:Int}{y:AV}{own:List Ev}{r:RowV}{fl:AV}(k:RB h h' s a w y own r fl){M:List Ob}(b:NoRes M):RB h (h'++M) s a w y own r fl:=
 ⟨k.pre.app b,ze k.b0,ze k.b1,ze k.b2,ze k.b3,k.sl.app M⟩
theorem Yua{h:List Ob}{id ty:Nat}{xs:List (List AV)}{st:Nat}{o:Ob}(d:h[id]? =some (.row ty 2 xs st)):∀(a:AV) {rows:List (List AV)},eOf h a=some 11->qc h a=some rows->eOf (h.set id o) a=some 11/\qc (h.set id o) a=some rows
 | .sl _ _,_,b,c=>⟨b,c⟩
 | .tl i s,rows,b,c=>by
   rw[jO] at b⊢
   rw[q8] at c⊢
   obtain⟨k,xs',st',m⟩:=kLa b
   have g:id≠i:=λq=>by rw[q,m] at d;injection d with d;injection d with _ d;cases d
   rw[zc g]
   exact⟨b,c⟩
 | .vw a e i n,rows,b,c=>by
   rw[Q1] at b⊢
   rw[vC] at c⊢
   cases f:eOf h a with
   | none=>rw[f] at b;cases b
   | some p=>
     rw[f] at b
     simp only[Option.bind_some] at b
     split at b
     ·rename_i l
      injection b with b
      subst l
      subst b
      cases j:qc h a with
      | none=>rw[j] at c;cases c
      | some ys=>
        obtain⟨k1,k2⟩:=Yua d a f j
        rw[k1,k2]
        rw[f,j] at c
        exact⟨by simp,c⟩
     ·cases b
 | .v x,_,b,_=>by cases b
 | .em,_,b,_ | .ptr _ _,_,b,_ | .ep _ _ _ _,_,b,_ | .mp _,_,b,_ | .ag _,_,b,_ | .tup _,_,b,_ | .fn _ _ _,_,b,_ | .bad,_,b,_=>by cases b
theorem RB.setR{h h':List Ob}{s:Setup}{a:SA}{w:Int}{y:AV}{own:List Ev}{r:RowV}{fl:AV}(k:RB h h' s a w y own r fl)(c:own≠[]){id ty:Nat}{xs:List (List AV)}{st:Nat}{o:Ob}(hid:h.length<=id)(b:h'[id]? =some (.row ty 2 xs st))(d:o.isRes=false):RB h (h'.set id o) s a w y own r fl:=by
 obtain⟨k1,k2⟩:=Yua (o:=o) b y (k.sl.ee (by simpa using c)) k.sl.rows
 exact⟨k.pre.set hid d,kQ (h0:=h) k.b0 b,kQ (h0:=h) k.b1 b,kQ (h0:=h) k.b2 b,kQ (h0:=h) k.b3 b,k2,λ_=>k1⟩
theorem WK{s:Setup}{l:List Ev}{w:Int}:(qA s l w).2.length<=3*l.length+1:=by
 have c:=xj l
 have b:szT (goP s w (qu l))<=szT ⟨none,[],[]⟩+3*(qu l).length:=v8a (qu l)
 have a:szT ⟨none,[],[]⟩=0:=rfl
 have d:=K8 (s:=s) (t:=goP s w (qu l)) (at_:=32054400)
 unfold qA
 split
 ·simp only[szT] at d b a⊢
  omega
 ·simp
theorem qja{own:List Ev}{F:List Flg}{wk:Int}{n:Nat}(h:n<F.length):jE own (F.take (n+1)) wk=if QJ own F[n]==wk then jE own (F.take n) wk++[F[n]] else jE own (F.take n) wk:=by
 unfold jE
 rw[show F.take (n+1)=F.take n++[F[n]] from(zE h).symm,qo]
 cases a:QJ own F[n]==wk<;>simp[a]
theorem yRa{l:List Flg}{i:Nat}(h:i<l.length):(l.map xW)[i]? =some (xW l[i]):=by rw[zz,zi h];rfl
theorem jvb(h:List Ob)(s:Setup)(a:SA)(k:SIn h s a)(f:SFit s)(x:AV)(l:List Ev)(w wk:Int)(hx:SlOf h x 11 (l.map evC))(hl:l.length<=1000):
  ACalls Tryz.prog 17 [jg s a,x,i64 w,i64 wk] h λr h'=>∃L y,h'=h++L/\NoRes L/\r= .ag (vf (qi s l w wk).1++[y])/\New h 2 y ((qi s l w wk).2.map xW) L:=by
 have hex:∃r h',(∃L y,h'=h++L/\NoRes L/\r=AV.ag (vf (qi s l w wk).1++[y])/\New h 2 y ((qi s l w wk).2.map xW) L)/\ResK h h':=
  ⟨_,_,⟨[],.sl 2 _,rfl,jm,rfl,λ_ _=>⟨rfl,λ_=>rfl⟩⟩,resK_app⟩
 refine jM (N:=116) (rs:=[.cell 8 45]) (fn:=Tryz.f17) rfl rfl rfl rfl (qp rfl) rfl (hex) λB=>?_
 refine qG (by decide) ?_
 simp only[go_sem,k.ones]
 refine jR (qG (by decide) ?_)
 simp only[go_sem]
 refine jR (qG (by decide) ?_)
 simp only[go_sem,k.ones]
 refine zh (zsb _ s a (k.app _) f w wk) ?_
 rintro _ h1 ⟨rfl,rfl⟩
 simp only[go_sem]
 cases q0:xX s w wk != 0
 rotate_left
 ·have θ:xX s w wk≠0:=by simpa using q0
  have b:qi s l w wk=(kNa w wk (xX s w wk),[]):=by unfold qi;rw[if_pos θ]
  rw[b]
  simp only[go_sem,qv]
  refine⟨.ag (vf (kNa w wk (xX s w wk))++[.v (.slice none 0 0)]),?_,.inl ⟨_,.v (.slice none 0 0),rfl,?_,rfl,?_⟩⟩
  ·simp only[go_sem]
   rfl
  ·exact zl rfl (zl rfl (zl rfl (zD rfl)))
  ·exact λh2 _=>⟨rfl,λh=>absurd rfl h⟩
 ·have Y:xX s w wk=0:=by simpa using q0
  have b:qi s l w wk=(Qxa s (evR s w l) w.toNat wk,jE (evR s w l) (qA s (evR s w l) w).2 wk):=by unfold qi;rw[if_neg (by rw[Y];simp)]
  rw[b]
  simp only[go_sem,qv,Y]
  obtain⟨ν,hw0,hw1⟩:z6 s=true/\0<=w/\w<s.rates.length:=by
   unfold xX at Y
   split at Y
   ·cases Y
   ·rename_i h1
    split at Y
    ·cases Y
    ·rename_i h2
     exact⟨by simpa using h1,by omega,by omega⟩
  clear hex b
  have hol:=j2a s w l
  obtain⟨own,I⟩:∃own,own=evR s w l:=⟨_,rfl⟩
  rw[<-I] at hol⊢
  refine jR (xo (λd h'=>Pre h h'/\h'[h.length]? =some (.box 30 (qg s a))/\h'[h.length+1]? =some (.box 3 [i64 w])/\h'[h.length+2]? =some (.box 45 (vA ⟨0,0,0,λ_=>0,λ_=>0,(0,0),(0,0),0,0,0,0,0⟩ (.v (.slice none 0 0))))/\h'[h.length+3]? =some (.box 45 (vA (kNa w wk 0) (.v (.slice none 0 0))))/\
    SlOf h' (d 10) 11 (own.map evC)/\d 3=i64 wk/\d 4= .ptr h.length 0/\d 6= .ptr (h.length+1) 0/\d 8= .ptr (h.length+2) 0/\d 9= .ptr (h.length+3) 0) (by decide) ?_ ?_)
  ·simp only[go_sem]
   refine zh (c57 _ x l (hx.app _) (by omega)) ?_
   rintro r h1 hr
   rcases hr with⟨rfl,rfl,rfl⟩|⟨rfl,rfl⟩
   ·simp only[go_sem]
    refine zh (jlb _ _ _) ?_
    rintro _ h1 ⟨rfl,rfl⟩
    simp only[go_sem]
    exact⟨⟨_,rfl,zl rfl (zl rfl (zl rfl (zD rfl)))⟩,rfl,by rw[I];exact⟨rfl,λh=>absurd rfl h⟩⟩
   ·simp only[go_sem]
    refine zh (c73 _ (h.length+4) 1 (qu l) 54 [.ptr (h.length+1) 0,.ptr h.length 0] (vM s w) (by rw[zG (k:=4) rfl];rfl) (by have:=(xK l).length_eq;omega) (λe _ o L=>jtb _ s a (by
      rw[zT _ _ (by omega)]
      exact(k.app _).app _) h.length (h.length+1) w (ze (by rw[zc (by omega),zK rfl];rfl)) (ze (by rw[zc (by omega),zG (k:=1) rfl];rfl)) e)) ?_
    rintro r h1 ⟨l2,rfl,hr,hsl⟩
    simp only[go_sem]
    rw[zT _ _ (by omega),show h.length+4 - h.length=4 by omega] at hsl
    exact⟨⟨_,rfl,zl rfl (zl rfl (zl rfl (zl rfl (zD rfl))))⟩,rfl,by rw[I];exact hsl⟩
  ·rintro T h' ⟨O,b0,b1,b2,b3,hy,t3,t4,t6,t8,t9⟩
   obtain⟨y,t10⟩:∃y,T 10=y:=⟨_,rfl⟩
   rw[t10] at hy
   have hk:=O.sin k
   have hsl3:=WI (s:=s) (l:=own) (w:=w)
   refine qG (by decide) ?_
   simp only[go_sem,t4,t6,t10,b0,b1]
   refine zh (yQa _ s a hk f y own w hy (by omega)) ?_
   rintro _ h2 ⟨rfl,e2⟩
   rw[e2]
   simp only[go_sem]
   refine jR (qG (by decide) ?_)
   simp only[go_sem,t3,t4,b0]
   refine zh (znb _ s a hk f ν _ (qA s own w).1 wk ⟨rfl,λ_=>rfl⟩ (by omega)) ?_
   rintro _ h3 ⟨⟨q,hq,rfl⟩,e3⟩
   rw[e3]
   have hql:q.length<1048576:=by
    rw[hq.length_eq]
    exact Qwa s _ wk (by omega)
   simp only[go_sem]
   refine zh (V6a _ _ q ⟨rfl,λ_=>rfl⟩ hql) ?_
   rintro _ h4 ⟨rfl,e4⟩
   rw[e4]
   have htot:(λj:Nat=>ZY q j)=λj:Nat=>ZY (vr s (qA s own w).1 wk) j:=by funext j;exact Qva hq j
   obtain⟨tot,χ⟩:∃tot,tot=λj:Nat=>ZY (vr s (qA s own w).1 wk) j:=⟨_,rfl⟩
   rw[htot, <-χ]
   simp only[go_sem,t9,b3,kNa,yG]
   have kb:=RB.put ⟨O,b0,b1,b2,b3,hy⟩ ⟨w,wk,0,tot,λ_=>0,(0,0),(0,0),0, -1,0,0,0⟩ (.v (.slice none 0 0))
   generalize hH:h'.set (h.length+3) (.box 45 (vA ⟨w,wk,0,tot,λ_=>0,(0,0),(0,0),0, -1,0,0,0⟩ (.v (.slice none 0 0))))=H at kb
   clear hH b0 b1 b2 b3 hy O hk
   have d0:=kb.b0
   have d1:=kb.b1
   have C:=kb.b3
   refine jR (qG (by decide) ?_)
   simp only[go_sem,t3,t4,t6,t10,d0,d1]
   refine zh (c15 _ s a (kb.pre.sin k) f y own w wk kb.sl (by omega)) ?_
   rintro _ h5 ⟨rfl,e5⟩
   rw[e5]
   obtain⟨P,hP⟩:∃P,P=vz s own w wk:=⟨_,rfl⟩
   rw[<-hP]
   have G:∀o,(H.set (h.length+3) o)[h.length+3]? =some o:=λo=>zm C
   simp only[go_sem,t9,C,G,qd]
   have kc:=kb.put ⟨w,wk,P.err,tot,λ_=>0,P.earned,P.perf,P.eligible, -1,0,0,0⟩ (.v (.slice none 0 0))
   generalize hH:H.set (h.length+3) (.box 45 (vA ⟨w,wk,P.err,tot,λ_=>0,P.earned,P.perf,P.eligible, -1,0,0,0⟩ (.v (.slice none 0 0))))=H2 at kc
   clear hH kb d0 d1 C G
   refine jR (xo (λd h2=>∃tr,tr=(if P.err=0/\0<P.eligible then vk s P.perf else -1)/\RB h h2 s a w y own ⟨w,wk,P.err,tot,λ_=>0,P.earned,P.perf,P.eligible,tr,0,0,0⟩ (.v (.slice none 0 0))/\d 3=i64 wk/\d 4= .ptr h.length 0/\d 6= .ptr (h.length+1) 0/\d 8= .ptr (h.length+2) 0/\d 9= .ptr (h.length+3) 0/\d 10=y/\d 12= .sl 2 ((qA s own w).2.map xW)) (by decide) ?_ ?_)
   ·have d0:=kc.b0
    have C:=kc.b3
    cases q1:decide (P.err=0)
    ·have p1:¬ P.err=0:=of_decide_eq_false q1
     have U:(P.err==0)=false:=by simpa using p1
     simp only[go_sem,t9,C,U,qv]
     exact⟨-1,by rw[if_neg (λq=>p1 q.1)],kc,t3,t4,t6,t8,t10⟩
    ·have p1:P.err=0:=of_decide_eq_true q1
     have U:(P.err==0)=true:=by simpa using p1
     cases q2:decide (P.eligible>0)
     ·have p2:¬ 0<P.eligible:=of_decide_eq_false q2
      simp only[go_sem,t9,C,U,q2,qv]
      exact⟨-1,by rw[if_neg (λq=>p2 q.2)],kc,t3,t4,t6,t8,t10⟩
     ·have p2:0<P.eligible:=of_decide_eq_true q2
      have hfit:jq P.perf:=by
       have:=(VVa (w:=w) (k:=wk) (l:=own) ν (by omega) (by rw[<-hP];exact p1)).2
       rw[<-hP] at this
       exact zjb this
      simp only[go_sem,t9,C,U,q2,qv,t4,d0]
      refine zh (c26 _ s a (kc.pre.sin k) f P.perf hfit) ?_
      rintro _ h6 ⟨rfl,e6⟩
      rw[e6]
      simp only[go_sem,t9,C]
      exact⟨vk s P.perf,by rw[if_pos ⟨p1,p2⟩],kc.put ⟨w,wk,P.err,tot,λ_=>0,P.earned,P.perf,P.eligible,vk s P.perf,0,0,0⟩ _,t3,t4,t6,t8,t10⟩
   ·clear kc t3 t4 t6 t8 t9 t10
    rintro T h2 ⟨tr,htr,kd,t3,t4,t6,t8,t9,t10,S⟩
    have d0:=kd.b0
    have d1:=kd.b1
    have C:=kd.b3
    obtain⟨u,hwn⟩:∃u:Nat,(u:Int)=w:=⟨w.toNat,by omega⟩
    subst hwn
    refine qG (by decide) ?_
    simp only[go_sem,t3,t4,t6,t9,d0,d1,C]
    refine zh (xWb _ s a (kd.pre.sin k) f ν u (by omega) tot P.eligible tr) ?_
    rintro _ h7 ⟨rfl,e7⟩
    rw[e7]
    obtain⟨p,hp⟩:∃p,p=j1a s u tot P.eligible tr:=⟨_,rfl⟩
    rw[<-hp]
    have G:∀o,(h2.set (h.length+3) o)[h.length+3]? =some o:=λo=>zm C
    simp only[go_sem,V9a,t9,C,G,qd,yG]
    have ke:=kd.put ⟨u,wk,P.err,tot,p.pays,P.earned,P.perf,P.eligible,tr,p.extra,p.supp,p.total⟩ (.v (.slice none 0 0))
    have b:Qxa s own u wk=⟨u,wk,P.err,tot,p.pays,P.earned,P.perf,P.eligible,tr,p.extra,p.supp,p.total⟩:=by
     rw[hp,htr,hP,χ];rfl
    rw[Int.toNat_natCast,b]
    generalize hH:h2.set (h.length+3) (.box 45 (vA ⟨u,wk,P.err,tot,p.pays,P.earned,P.perf,P.eligible,tr,p.extra,p.supp,p.total⟩ (.v (.slice none 0 0))))=H3 at ke
    obtain⟨R,hR⟩:∃R:RowV,R=⟨u,wk,P.err,tot,p.pays,P.earned,P.perf,P.eligible,tr,p.extra,p.supp,p.total⟩:=⟨_,rfl⟩
    rw[<-hR] at ke⊢
    clear hH kd d0 d1 C G b
    have ψ:= @XB s own u
    obtain⟨F,hF⟩:∃F,F=(qA s own u).2:=⟨_,rfl⟩
    have hFl:F.length<1048576:=by have:=WK (s:=s) (l:=own) (w:=u);rw[hF];omega
    rw[<-hF] at ψ S⊢
    have hgo:jE own F wk=jE own (F.take F.length) wk:=by rw[zV]
    rw[hgo]
    refine jR (qG (by decide) ?_)
    simp only[go_sem,S,zb]
    refine zO (by decide) (λm T h'=>∃(n:Nat) (D:AV),n<=F.length/\RB h h' s a u y own R D/\OwnS h h' 105 2 D ((jE own (F.take n) wk).map xW)/\T 3=i64 wk/\T 8= .ptr (h.length+2) 0/\T 9= .ptr (h.length+3) 0/\T 10=y/\T 91= .sl 2 (F.map xW)/\T 92=i64 F.length/\T 93=i64 n/\m=F.length - n) F.length
     ⟨0,_,by omega,ke,.inl ⟨rfl,rfl⟩,by simp only[go_sem,t3],by simp only[go_sem,t8],by simp only[go_sem,t9],by simp only[go_sem,t10],by simp only[go_sem,S],by(simp only[go_sem]<;>rfl),by(simp only[go_sem]<;>rfl),rfl⟩ ?_
    clear ke t3 t4 t6 t8 t9 t10 S
    rintro m T h' ⟨n,D,hn,kf,ho,t3,t8,t9,t10,V,X,K,rfl⟩
    simp only[go_sem,X,K]
    refine ways (λe=>?_) (λe=>?_)
    ·have ι:=dlt e
     have b:=yRa ι
     have hkl:(n:Int)<F.length:=by omega
     have c:=qja (own:=own) (wk:=wk) ι
     obtain⟨g,hg⟩:∃g,g=F[n]:=⟨_,rfl⟩
     obtain⟨ev,φ,ζ⟩:=ψ F[n] (zx ι)
     rw[<-hg] at b c ζ
     simp only[go_sem,V,K,b,hkl,t10,zb,Int.toNat_natCast,zf]
     have W:=kf.app (M:=[.box 105 [i64 g.id,i64 g.kind]]) (zD rfl)
     have μ:=ho.app [Ob.box 105 [i64 g.id,i64 g.kind]]
     have Q:(h'++[Ob.box 105 [i64 g.id,i64 g.kind]])[h'.length]? =some (.box 105 [i64 g.id,i64 g.kind]):=by rw[zK rfl];rfl
     generalize hJ:h'++[Ob.box 105 [i64 g.id,i64 g.kind]]=J at W μ Q
     have hJl:h'.length<J.length:=by rw[<-hJ];simp
     refine zh (c42 _ y 62 [.ptr h'.length 0] (own.map evC) (λr=>(Wy r).id==g.id) (by rw[zb];omega) (λr hr=>by obtain⟨e,_,rfl⟩:=zt.1 hr;rfl) W.sl (λrow b L=>by
      obtain⟨e,_,rfl⟩:=zt.1 b
      exact jub _ h'.length g (ze Q) e)) ?_
     rintro _ h8 ⟨rfl,e8⟩
     rw[e8]
     rcases J9 (λe=>e.id==g.id) own with⟨_,q2⟩|⟨A,z,R2,q1,q2,q3,q4⟩
     ·have:=q2 ev φ
      simp[ζ] at this
     ·rw[q2]
      have κ:A.length<own.length:=by rw[q1];simp
      have hfw:QJ own g=xS z.at_:=by
       unfold QJ
       have:own.find? (λe=>e.id==g.id)=some z:=by
        rw[q1,List.find?_append]
        rw[List.find?_eq_none.2 (λe Y=>by simp[q4 e Y])]
        simp[q3]
       rw[this];rfl
      have hrz:(own.map evC)[A.length]? =some (evC z):=by rw[q1];simp
      have hee:=W.sl.at (i:=A.length) (by rw[zb];exact κ)
      have hrr:=W.sl.rows
      have hkl2:(A.length:Int)<own.length:=by omega
      simp only[go_sem,t3,t10,hrr,hee,hrz,hkl2,zb,Int.toNat_natCast,zf]
      refine zh (c17 z.at_ _) ?_
      rintro _ h9 ⟨rfl,e9⟩
      rw[e9]
      rw[hfw] at c
      simp only[go_sem,t3]
      refine ways (λe3=>?_) (λe3=>?_)
      ·rw[if_pos e3] at c
       have θ:own≠[]:=λq=>by rw[q] at κ;cases κ
       have E:=W.b3
       have t:∀M,(J++M)[h.length+3]? =some (.box 45 (vA R D)):=λM=>ze E
       have hgfM:∀M,(J++M)[h'.length]? =some (.box 105 [i64 g.id,i64 g.kind]):=λM=>ze Q
       rcases μ with⟨rfl,ω⟩|⟨id,st,u1,rfl,u3⟩
       ·simp only[go_sem,t9,K,E,t,Q]
        refine⟨F.length - (n+1),by omega,n+1,.tl (J.length+1) 0,by omega,(W.app (zl rfl (zD rfl))).put R _,?_,t3,t8,t10,V,X,qn (by omega) rfl,rfl⟩
        refine OwnS.setB (.inr ⟨_,0,?_,rfl,?_⟩) (t _)
        ·have:=W.pre.len;omega
        ·rw[c,zw,ω,zG (k:=1) rfl];rfl
       ·have Z:∀M,(J++M)[id]? =some (.row 105 2 ((jE own (F.take n) wk).map xW) st):=λM=>ze u3
        have hcap:(((jE own (F.take n) wk).map xW).length+1)*17<=140737488355328:=by
         have:=qh (λf=>QJ own f==wk) (F.take n)
         rw[zH] at this
         rw[zb]
         unfold jE
         omega
        have β:∀M o',((J++M).set id o')[h.length+3]? =some (.box 45 (vA R (.tl id st))):=λM o'=>kQ (h0:=h) (t M) (Z M)
        simp only[go_sem,t9,K,E,t,Q,Z,hcap,β]
        refine⟨F.length - (n+1),by omega,n+1,.tl id (st+1),by omega,RB.put ((W.app (zD rfl)).setR θ u1 (Z _) rfl) R _,?_,t3,t8,t10,V,X,qn (by omega) rfl,rfl⟩
        refine OwnS.setB (.inr ⟨id,st+1,u1,rfl,?_⟩) (β _ _)
        rw[c,zw]
        exact zm (Z _)
      ·have e3':(xS z.at_==wk)=false:=by simpa using e3
       rw[e3'] at c
       simp only[Bool.false_eq_true,if_false] at c
       simp only[go_sem,K]
       exact⟨F.length - (n+1),by omega,n+1,D,by omega,W,by rw[c];exact μ,t3,t8,t9,t10,V,X,qn (by omega) rfl,rfl⟩
    ·have hge:=xr e
     have hn2:n=F.length:=by omega
     subst hn2
     simp only[go_sem]
     refine jR (qD _ (by decide) ?_)
     have ο:=kf.b2
     have E:=kf.b3
     have hxo:=ho.rows.one
     simp only[go_sem,t8,t9,ο,E,hxo]
     have υ:=ho.setB (o:= .box 45 (vA R D)) ο
     have hp2:Pre h (h'.set (h.length+2) (.box 45 (vA R D))):=kf.pre.set (by omega) rfl
     have hb4:(h'.set (h.length+2) (.box 45 (vA R D)))[h.length+2]? =some (.box 45 (vA R D)):=zm ο
     refine⟨.ag (vf R++[D]),?_,.inl ?_⟩
     ·have hb5:(h'.set (h.length+2) (.box 45 [i64 R.worker,i64 R.week,i64 R.err,i64 (R.tot 0),i64 (R.tot 1),i64 (R.tot 2),i64 (R.tot 3),i64 (R.tot 4),i64 (R.tot 5),i64 (R.tot 6),i64 (R.pays 0),i64 (R.pays 1),i64 (R.pays 2),i64 (R.pays 3),i64 (R.pays 4),i64 (R.pays 5),i64 (R.pays 6),i64 R.earned.1,i64 R.earned.2,i64 R.perf.1,i64 R.perf.2,i64 R.elig,i64 R.tier,i64 R.extra,i64 R.supp,i64 R.total,D]))[h.length+2]? =some (.box 45 (vA R D)):=hb4
      simp only[go_sem,t8,hb5]
      rfl
     ·obtain⟨L,hL,hN⟩:=hp2
      refine⟨L,D,hL,hN,rfl,?_⟩
      rw[hL] at υ
      exact υ.new (zp _)
theorem ztb(h:List Ob)(s:Setup)(a:SA)(k:SIn h s a)(f:SFit s)(x:AV)(l:List Ev)(w wk:Int)(b:SlOf h x 11 (l.map evC))(c:l.length<=1000):
  ACalls Tryz.prog 17 [jg s a,x,i64 w,i64 wk] h λr h'=>r= .ag (vf (qi s l w wk).1++[.sl 2 ((qi s l w wk).2.map xW)])/\h'=h:=
 XZ (by decide) rfl (V4 _) (jvb h s a k f x l w wk b c)
theorem Qya(h:List Ob)(x:AV)(rows:List (List AV))(b:SlOf h x 3 rows)(o:rows.length<1099511627776)(k:(rows.all λr=>r.length==3 && r.all AV.one)=true):
  ACalls Tryz.prog 156 [x] h λr h'=>(rows=[]/\h'=h/\r= .v (.slice none 0 0))∨(h'=h++[.row 225 3 rows 1]/\r= .tl h.length 1):=by
 refine jM (N:=8) (rs:=[.tmp 2]) (fn:=Tryz.f156) rfl rfl rfl rfl (qp rfl) rfl (⟨_,_,.inr ⟨rfl,rfl⟩,resK_app⟩) λB=>?_
 cases rows with
 | nil=>
   refine Zk 0 rfl b.rows (λm=>?_) ?_
   ·refine qD _ (by decide) ?_;simp only[go_sem]
    exact⟨.v (.slice none 0 0),by simp only[go_sem],.inl (.inl ⟨rfl,rfl⟩)⟩
   ·refine qD _ (by decide) ?_;simp only[go_sem]
    exact⟨.tl h.length 1,by simp only[go_sem],.inl (.inr ⟨rfl,rfl⟩)⟩
 | cons y l=>
   have j:=b.at (i:=0) (by simp)
   have g:=b.rows
   have d:xV x=false:=by
    rcases w9 g with⟨e,xs,rfl⟩|⟨i,s,rfl⟩|⟨a,e,i,n,rfl⟩<;>rfl
   unfold xV at d
   have c:∀L,qc (h++L) x=some (y::l):=λL=>(b.app L).rows
   have f:(y::l).length*25<=140737488355328:=by omega
   rw[List.length_cons] at f
   refine qD _ (by decide) ?_;simp only[go_sem,g,j,d,c,k,f,Bool.or_true,decide_true]
   exact⟨.tl h.length 1,by simp only[go_sem],.inl (.inr ⟨rfl,rfl⟩)⟩
theorem wBa(h:List Ob)(x:AV)(rows:List (List AV))(b:SlOf h x 3 rows)(d:rows.length<1099511627776)(c:(rows.all λr=>r.length==3 && r.all AV.one)=true)(a:qO h.length rows=true):
  ACalls Tryz.prog 156 [x] h λr h'=>r= .sl 3 rows/\h'=h:=
 xk (by decide) a ((Qya h x rows b d c).mono λr h' q=>by
  rcases q with⟨rfl,rfl,rfl⟩|⟨rfl,rfl⟩
  ·exact⟨[],by simp,jm,λe _=>⟨rfl,λh=>absurd rfl h⟩⟩
  ·exact⟨_,rfl,zD rfl,OwnS.new (h0:=h) (ty:=225) (.inr ⟨h.length,1,zp _,rfl,by rw[zK rfl];rfl⟩) (zp _)⟩)
theorem Qza(h:List Ob)(x:AV)(rows:List (List AV))(b:SlOf h x 4 rows)(o:rows.length<1099511627776)(k:(rows.all λr=>r.length==4 && r.all AV.one)=true):
  ACalls Tryz.prog 157 [x] h λr h'=>(rows=[]/\h'=h/\r= .v (.slice none 0 0))∨(h'=h++[.row 183 4 rows 1]/\r= .tl h.length 1):=by
 refine jM (N:=8) (rs:=[.tmp 2]) (fn:=Tryz.f157) rfl rfl rfl rfl (qp rfl) rfl (⟨_,_,.inr ⟨rfl,rfl⟩,resK_app⟩) λB=>?_
 cases rows with
 | nil=>
   refine Zk 0 rfl b.rows (λm=>?_) ?_
   ·refine qD _ (by decide) ?_;simp only[go_sem]
    exact⟨.v (.slice none 0 0),by simp only[go_sem],.inl (.inl ⟨rfl,rfl⟩)⟩
   ·refine qD _ (by decide) ?_;simp only[go_sem]
    exact⟨.tl h.length 1,by simp only[go_sem],.inl (.inr ⟨rfl,rfl⟩)⟩
 | cons y l=>
   have j:=b.at (i:=0) (by simp)
   have g:=b.rows
   have d:xV x=false:=by
    rcases w9 g with⟨e,xs,rfl⟩|⟨i,s,rfl⟩|⟨a,e,i,n,rfl⟩<;>rfl
   unfold xV at d
   have c:∀L,qc (h++L) x=some (y::l):=λL=>(b.app L).rows
   have f:(y::l).length*33<=140737488355328:=by omega
   rw[List.length_cons] at f
   refine qD _ (by decide) ?_;simp only[go_sem,g,j,d,c,k,f,Bool.or_true,decide_true]
   exact⟨.tl h.length 1,by simp only[go_sem],.inl (.inr ⟨rfl,rfl⟩)⟩
theorem wCa(h:List Ob)(x:AV)(rows:List (List AV))(b:SlOf h x 4 rows)(d:rows.length<1099511627776)(c:(rows.all λr=>r.length==4 && r.all AV.one)=true)(a:qO h.length rows=true):
  ACalls Tryz.prog 157 [x] h λr h'=>r= .sl 4 rows/\h'=h:=
 xk (by decide) a ((Qza h x rows b d c).mono λr h' q=>by
  rcases q with⟨rfl,rfl,rfl⟩|⟨rfl,rfl⟩
  ·exact⟨[],by simp,jm,λe _=>⟨rfl,λh=>absurd rfl h⟩⟩
  ·exact⟨_,rfl,zD rfl,OwnS.new (h0:=h) (ty:=183) (.inr ⟨h.length,1,zp _,rfl,by rw[zK rfl];rfl⟩) (zp _)⟩)
theorem QAa(h:List Ob)(x:AV)(rows:List (List AV))(b:SlOf h x 2 rows)(o:rows.length<1099511627776)(k:(rows.all λr=>r.length==2 && r.all AV.one)=true):
  ACalls Tryz.prog 158 [x] h λr h'=>(rows=[]/\h'=h/\r= .v (.slice none 0 0))∨(h'=h++[.row 24 2 rows 1]/\r= .tl h.length 1):=by
 refine jM (N:=8) (rs:=[.tmp 2]) (fn:=Tryz.f158) rfl rfl rfl rfl (qp rfl) rfl (⟨_,_,.inr ⟨rfl,rfl⟩,resK_app⟩) λB=>?_
 cases rows with
 | nil=>
   refine Zk 0 rfl b.rows (λm=>?_) ?_
   ·refine qD _ (by decide) ?_;simp only[go_sem]
    exact⟨.v (.slice none 0 0),by simp only[go_sem],.inl (.inl ⟨rfl,rfl⟩)⟩
   ·refine qD _ (by decide) ?_;simp only[go_sem]
    exact⟨.tl h.length 1,by simp only[go_sem],.inl (.inr ⟨rfl,rfl⟩)⟩
 | cons y l=>
   have j:=b.at (i:=0) (by simp)
   have g:=b.rows
   have d:xV x=false:=by
    rcases w9 g with⟨e,xs,rfl⟩|⟨i,s,rfl⟩|⟨a,e,i,n,rfl⟩<;>rfl
   unfold xV at d
   have c:∀L,qc (h++L) x=some (y::l):=λL=>(b.app L).rows
   have f:(y::l).length*17<=140737488355328:=by omega
   rw[List.length_cons] at f
   refine qD _ (by decide) ?_;simp only[go_sem,g,j,d,c,k,f,Bool.or_true,decide_true]
   exact⟨.tl h.length 1,by simp only[go_sem],.inl (.inr ⟨rfl,rfl⟩)⟩
theorem zCa(h:List Ob)(x:AV)(rows:List (List AV))(b:SlOf h x 2 rows)(d:rows.length<1099511627776)(c:(rows.all λr=>r.length==2 && r.all AV.one)=true)(a:qO h.length rows=true):
  ACalls Tryz.prog 158 [x] h λr h'=>r= .sl 2 rows/\h'=h:=
 xk (by decide) a ((QAa h x rows b d c).mono λr h' q=>by
  rcases q with⟨rfl,rfl,rfl⟩|⟨rfl,rfl⟩
  ·exact⟨[],by simp,jm,λe _=>⟨rfl,λh=>absurd rfl h⟩⟩
  ·exact⟨_,rfl,zD rfl,OwnS.new (h0:=h) (ty:=24) (.inr ⟨h.length,1,zp _,rfl,by rw[zK rfl];rfl⟩) (zp _)⟩)
theorem V5(h:List Ob)(x:AV)(rows:List (List AV))(b:SlOf h x 1 rows)(o:rows.length<1099511627776)(k:(rows.all λr=>r.length==1 && r.all AV.one)=true):
  ACalls Tryz.prog 159 [x] h λr h'=>(rows=[]/\h'=h/\r= .v (.slice none 0 0))∨(h'=h++[.row 3 1 rows 1]/\r= .tl h.length 1):=by
 refine jM (N:=8) (rs:=[.tmp 2]) (fn:=Tryz.f159) rfl rfl rfl rfl (qp rfl) rfl (⟨_,_,.inr ⟨rfl,rfl⟩,resK_app⟩) λB=>?_
 cases rows with
 | nil=>
   refine Zk 0 rfl b.rows (λm=>?_) ?_
   ·refine qD _ (by decide) ?_;simp only[go_sem]
    exact⟨.v (.slice none 0 0),by simp only[go_sem],.inl (.inl ⟨rfl,rfl⟩)⟩
   ·refine qD _ (by decide) ?_;simp only[go_sem]
    exact⟨.tl h.length 1,by simp only[go_sem],.inl (.inr ⟨rfl,rfl⟩)⟩
 | cons y l=>
   have j:=b.at (i:=0) (by simp)
   have g:=b.rows
   have d:xV x=false:=by
    rcases w9 g with⟨e,xs,rfl⟩|⟨i,s,rfl⟩|⟨a,e,i,n,rfl⟩<;>rfl
   unfold xV at d
   have c:∀L,qc (h++L) x=some (y::l):=λL=>(b.app L).rows
   have f:(y::l).length*9<=140737488355328:=by omega
   rw[List.length_cons] at f
   refine qD _ (by decide) ?_;simp only[go_sem,g,j,d,c,k,f,Bool.or_true,decide_true]
   exact⟨.tl h.length 1,by simp only[go_sem],.inl (.inr ⟨rfl,rfl⟩)⟩
theorem wDa(h:List Ob)(x:AV)(rows:List (List AV))(b:SlOf h x 1 rows)(d:rows.length<1099511627776)(c:(rows.all λr=>r.length==1 && r.all AV.one)=true)(a:qO h.length rows=true):
  ACalls Tryz.prog 159 [x] h λr h'=>r= .sl 1 rows/\h'=h:=
 xk (by decide) a ((V5 h x rows b d c).mono λr h' q=>by
  rcases q with⟨rfl,rfl,rfl⟩|⟨rfl,rfl⟩
  ·exact⟨[],by simp,jm,λe _=>⟨rfl,λh=>absurd rfl h⟩⟩
  ·exact⟨_,rfl,zD rfl,OwnS.new (h0:=h) (ty:=3) (.inr ⟨h.length,1,zp _,rfl,by rw[zK rfl];rfl⟩) (zp _)⟩)
theorem wEa(h:List Ob)(x:AV)(rows:List (List AV))(b:SlOf h x 2 rows)(o:rows.length<1099511627776)(k:(rows.all λr=>r.length==2 && r.all AV.one)=true):
  ACalls Tryz.prog 160 [x] h λr h'=>(rows=[]/\h'=h/\r= .v (.slice none 0 0))∨(h'=h++[.row 185 2 rows 1]/\r= .tl h.length 1):=by
 refine jM (N:=8) (rs:=[.tmp 2]) (fn:=Tryz.f160) rfl rfl rfl rfl (qp rfl) rfl (⟨_,_,.inr ⟨rfl,rfl⟩,resK_app⟩) λB=>?_
 cases rows with
 | nil=>
   refine Zk 0 rfl b.rows (λm=>?_) ?_
   ·refine qD _ (by decide) ?_;simp only[go_sem]
    exact⟨.v (.slice none 0 0),by simp only[go_sem],.inl (.inl ⟨rfl,rfl⟩)⟩
   ·refine qD _ (by decide) ?_;simp only[go_sem]
    exact⟨.tl h.length 1,by simp only[go_sem],.inl (.inr ⟨rfl,rfl⟩)⟩
 | cons y l=>
   have j:=b.at (i:=0) (by simp)
   have g:=b.rows
   have d:xV x=false:=by
    rcases w9 g with⟨e,xs,rfl⟩|⟨i,s,rfl⟩|⟨a,e,i,n,rfl⟩<;>rfl
   unfold xV at d
   have c:∀L,qc (h++L) x=some (y::l):=λL=>(b.app L).rows
   have f:(y::l).length*17<=140737488355328:=by omega
   rw[List.length_cons] at f
   refine qD _ (by decide) ?_;simp only[go_sem,g,j,d,c,k,f,Bool.or_true,decide_true]
   exact⟨.tl h.length 1,by simp only[go_sem],.inl (.inr ⟨rfl,rfl⟩)⟩
theorem kOa(h:List Ob)(x:AV)(rows:List (List AV))(b:SlOf h x 2 rows)(d:rows.length<1099511627776)(c:(rows.all λr=>r.length==2 && r.all AV.one)=true)(a:qO h.length rows=true):
  ACalls Tryz.prog 160 [x] h λr h'=>r= .sl 2 rows/\h'=h:=
 xk (by decide) a ((wEa h x rows b d c).mono λr h' q=>by
  rcases q with⟨rfl,rfl,rfl⟩|⟨rfl,rfl⟩
  ·exact⟨[],by simp,jm,λe _=>⟨rfl,λh=>absurd rfl h⟩⟩
  ·exact⟨_,rfl,zD rfl,OwnS.new (h0:=h) (ty:=185) (.inr ⟨h.length,1,zp _,rfl,by rw[zK rfl];rfl⟩) (zp _)⟩)
theorem wFa(h:List Ob)(x:AV)(rows:List (List AV))(b:SlOf h x 1 rows)(o:rows.length<1099511627776)(k:(rows.all λr=>r.length==1 && r.all AV.one)=true):
  ACalls Tryz.prog 73 [x] h λr h'=>(rows=[]/\h'=h/\r= .v (.slice none 0 0))∨(h'=h++[.row 5 1 rows 1]/\r= .tl h.length 1):=by
 refine jM (N:=8) (rs:=[.tmp 2]) (fn:=Tryz.f73) rfl rfl rfl rfl (qp rfl) rfl (⟨_,_,.inr ⟨rfl,rfl⟩,resK_app⟩) λB=>?_
 cases rows with
 | nil=>
   refine Zk 0 rfl b.rows (λm=>?_) ?_
   ·refine qD _ (by decide) ?_;simp only[go_sem]
    exact⟨.v (.slice none 0 0),by simp only[go_sem],.inl (.inl ⟨rfl,rfl⟩)⟩
   ·refine qD _ (by decide) ?_;simp only[go_sem]
    exact⟨.tl h.length 1,by simp only[go_sem],.inl (.inr ⟨rfl,rfl⟩)⟩
 | cons y l=>
   have j:=b.at (i:=0) (by simp)
   have g:=b.rows
   have d:xV x=false:=by
    rcases w9 g with⟨e,xs,rfl⟩|⟨i,s,rfl⟩|⟨a,e,i,n,rfl⟩<;>rfl
   unfold xV at d
   have c:∀L,qc (h++L) x=some (y::l):=λL=>(b.app L).rows
   have f:(y::l).length*2<=140737488355328:=by omega
   rw[List.length_cons] at f
   refine qD _ (by decide) ?_;simp only[go_sem,g,j,d,c,k,f,Bool.or_true,decide_true]
   exact⟨.tl h.length 1,by simp only[go_sem],.inl (.inr ⟨rfl,rfl⟩)⟩
structure Fx where
 op:Int
 ev:Ev
abbrev fxC(x:Fx):List AV:=[i64 x.op,i64 x.ev.id,i64 x.ev.worker,i64 x.ev.at_,i64 x.ev.kind,i64 x.ev.from_,i64 x.ev.to_,i64 x.ev.element,i64 x.ev.units,i64 x.ev.class_,i64 x.ev.gear,i64 x.ev.code]
def xU(x:Fx):Bool:=x.op==1 || x.op==3
def xb(x:Fx):Bool:=x.op==2 || x.op==3
theorem Yva(x:Fx):xy Tryz.prog 98 [.ag (fxC x)] (bl (xU x)):=λh=>by
 refine zj Tryz.f98 [.tmp 2] 11 rfl rfl rfl rfl rfl rfl (by decide) (⟨_,_,⟨rfl,rfl⟩,.refl⟩) λB=>?_
 simp only[go_sem]
 cases a:x.op==1
 ·simp only[go_sem,a,qv]
  refine zn ?_<;>(simp only[go_sem,xU,a]<;>try rfl)
 ·simp only[go_sem,a,qv]
  refine zn ?_<;>(simp only[go_sem,xU,a]<;>try rfl)
theorem X4a(x:Fx):xy Tryz.prog 97 [.ag (fxC x)] (bl (xb x)):=λh=>by
 refine zj Tryz.f97 [.tmp 2] 11 rfl rfl rfl rfl rfl rfl (by decide) (⟨_,_,⟨rfl,rfl⟩,.refl⟩) λB=>?_
 simp only[go_sem]
 cases a:x.op==2
 ·simp only[go_sem,a,qv]
  refine zn ?_<;>(simp only[go_sem,xb,a]<;>try rfl)
 ·simp only[go_sem,a,qv]
  refine zn ?_<;>(simp only[go_sem,xb,a]<;>try rfl)
def Jk(l:List Ev)(id:Int):Int:=JV (l.map evC) λr=>(Wy r).id==id
theorem jwb(h:List Ob)(j:Nat)(id:Int)(b:h[j]? =some (.box 3 [i64 id]))(e:Ev):
  ACalls Tryz.prog 227 [evV e,.ptr j 0] h λr h'=>r=bl (e.id==id)/\h'=h:=by
 have a:∀M,(h++M)[j]? =some (.box 3 [i64 id]):=λM=>ze b
 refine zj Tryz.f227 [.tmp 3] 8 rfl rfl rfl rfl rfl rfl (by decide) (⟨_,_,⟨rfl,rfl⟩,.refl⟩) λB=>?_
 simp only[go_sem,a]
 refine zn ?_<;>(simp only[go_sem]<;>try rfl)
theorem jxb(h:List Ob)(x:AV)(l:List Ev)(id:Int)(b:SlOf h x 11 (l.map evC))(d:l.length<1048576):
  ACalls Tryz.prog 173 [x,i64 id] h λr h'=>r=i64 (Jk l id)/\h'=h:=by
 refine zj Tryz.f173 [.tmp 4] 8 rfl rfl rfl rfl rfl rfl (by decide) (⟨_,_,⟨rfl,rfl⟩,.refl⟩) λB=>?_
 simp only[go_sem]
 refine zh (c42 _ x 227 [.ptr h.length 0] (l.map evC) (λr=>(Wy r).id==id) (by rw[zb];omega) (λr c=>by obtain⟨e,_,rfl⟩:=zt.1 c;rfl) (b.app _) (λrow a L=>by
  obtain⟨e,_,rfl⟩:=zt.1 a
  exact jwb _ h.length id (by rw[zr,zK rfl];rfl) e)) ?_
 rintro _ f ⟨rfl,rfl⟩
 simp only[go_sem]
 refine zn ?_<;>(simp only[go_sem,Jk]<;>try rfl)
def zEv:Ev:=⟨0,0,0,0,0,0,0,0,0,0,0⟩
def Qa(l:List Ev)(id:Int):Ev × Bool:=match l.find? (λe=>e.id==id) with
 | some e=>(e,true)
 | none=>(zEv,false)
theorem V6(l:List Ev)(id:Int):(Jk l id= -1/\Qa l id=(zEv,false))∨∃A x R,l=A++x::R/\Jk l id=(A.length:Int)/\Qa l id=(x,true)/\x.id=id:=by
 rcases J9 (λe=>e.id==id) l with⟨a,c⟩|⟨A,x,R,a,c,d,f⟩
 ·refine .inl ⟨a,?_⟩
  unfold Qa
  rw[List.find?_eq_none.2 (λe b=>by simp[c e b])]
 ·refine .inr ⟨A,x,R,a,c,?_,by simpa using d⟩
  unfold Qa
  have:l.find? (λe=>e.id==id)=some x:=by
   rw[a,List.find?_append,List.find?_eq_none.2 (λe b=>by simp[f e b])]
   simp[d]
  rw[this]
theorem jyb(h:List Ob)(x:AV)(l:List Ev)(id:Int)(f:SlOf h x 11 (l.map evC))(n:l.length<1048576):
  ACalls Tryz.prog 96 [x,i64 id] h λr h'=>r= .tup [evV (Qa l id).1,bl (Qa l id).2]/\h'=h:=by
 refine zj Tryz.f96 [.cell 4 75,.tmp 5] 17 rfl rfl rfl rfl rfl rfl (by decide) (⟨_,_,⟨rfl,rfl⟩,.refl⟩) λB=>?_
 simp only[go_sem]
 refine zh (jxb _ x l id (f.app _) n) ?_
 rintro _ o ⟨rfl,rfl⟩
 rcases V6 l id with⟨e,k⟩|⟨A,z,R,e,k,m,_⟩
 ·simp only[go_sem,e]
  refine zn ?_<;>(simp only[go_sem,k,zEv]<;>try rfl)
 ·have c:decide ((A.length:Int)<0)=false:=by rw[decide_eq_false_iff_not];omega
  have j:A.length<l.length:=by rw[e];simp
  have g:(l.map evC)[A.length]? =some (evC z):=by rw[e];simp
  have a:=(f.app [.box 75 (evC zEv)]).at (i:=A.length) (by rw[zb];exact j)
  have b:=(f.app [.box 75 (evC zEv)]).rows
  have d:(A.length:Int)<l.length:=by omega
  simp only[evC,zEv] at a b
  simp only[go_sem,k,c,b,a,g,d,zb,Int.toNat_natCast,zf]
  refine zn ?_<;>(simp only[go_sem,m]<;>try rfl)
def yh(s:Setup)(at_:Int):Int × Int:=
 let n:=qI at_ 32054399
 let k:=wr (qI s.unit 604800+qI s.cap 604800)
 (xS (wr (n - k)),xS (wr (n+k)))
theorem zub(h:List Ob)(s:Setup)(a:SA)(k:SIn h s a)(at_:Int):
  ACalls Tryz.prog 95 [jg s a,i64 at_] h λr h'=>r=XN (yh s at_)/\h'=h:=by
 refine zj Tryz.f95 [.tmp 4,.tmp 5] 24 rfl rfl rfl rfl rfl rfl (by decide) (⟨_,_,⟨rfl,rfl⟩,.refl⟩) λB=>?_
 simp only[go_sem,k.ones]
 refine zh (c69 _ _ _) ?_
 rintro _ b ⟨rfl,rfl⟩
 simp only[go_sem]
 refine zQ rfl [] 0 [(0,0,[]),(3,0,[]),(1,0,[]),(4,0,[]),(2,0,[4]),(5,0,[]),(6,0,[]),(7,0,[])] rfl (by decide) (by decide) ?_
 simp only[go_sem]
 refine zh (c69 _ _ _) ?_
 rintro _ b ⟨rfl,rfl⟩
 simp only[go_sem]
 refine zh (c69 _ _ _) ?_
 rintro _ b ⟨rfl,rfl⟩
 simp only[go_sem]
 refine zh (c17 _ _) ?_
 rintro _ b ⟨rfl,rfl⟩
 simp only[go_sem]
 refine zh (c17 _ _) ?_
 rintro _ b ⟨rfl,rfl⟩
 simp only[go_sem]
 refine zn ?_<;>(simp only[go_sem,yh,XN]<;>try rfl)
def wGa(l:List Int)(n:Int):Int:=match l.findIdx? (n== ·) with
 | some i=>(i:Int)
 | none=> -1
theorem zvb(h:List Ob)(x:AV)(l:List Int)(n:Int)(g:SlOf h x 1 (l.map qz))(C:l.length<1048576):
  ACalls Tryz.prog 224 [x,i64 n] h λr h'=>r=i64 (wGa l n)/\h'=h:=by
 refine zj Tryz.f224 [.tmp 4] 19 rfl rfl rfl rfl rfl rfl (by decide) (⟨_,_,⟨rfl,rfl⟩,.refl⟩) λB=>?_
 simp only[go_sem,g.rows,zb]
 refine zO (by decide) (λm T h'=>∃i:Nat,i<=l.length/\h'=h/\(∀j (d:j<l.length),j<i->(n==l[j])=false)/\T 0=x/\T 1=i64 n/\T 7=i64 l.length/\T 8=i64 i/\m=l.length - i) l.length
  ⟨0,by omega,rfl,λ_ _ q=>by omega,by simp only[go_sem],by simp only[go_sem],by(simp only[go_sem]<;>rfl),by(simp only[go_sem]<;>rfl),rfl⟩ ?_
 rintro m T h' ⟨i,hi,rfl,h0,t0,t1,v,t8,rfl⟩
 simp only[go_sem,v,t8]
 refine ways (λe=>?_) (λe=>?_)
 ·have c:=dlt e
  have a:=XE c
  have o:=g.at (i:=i) (by rw[zb];exact c)
  have k:=g.rows
  have p:(i:Int)<l.length:=by omega
  obtain⟨z,t⟩:∃z,z=l[i]:=⟨_,rfl⟩
  rw[<-t] at a
  simp only[go_sem,t0,t1,t8,o,k,a,p,zb,Int.toNat_natCast,zf]
  refine ways (λf=>?_) (λf=>?_)
  ·have b:wGa l n=i:=by
    unfold wGa
    rw[List.findIdx?_eq_some_iff_getElem.2 ⟨c,by rw[<-t];exact f,λj d=>by simp[h0 j (by omega) d]⟩]
   simp only[go_sem,t8]
   refine zn ?_<;>(simp only[go_sem,b]<;>try rfl)
  ·have f:(n==z)=false:=by simpa using f
   simp only[go_sem,t8]
   refine⟨l.length - (i+1),by omega,i+1,by omega,λj d q=>?_,t0,t1,v,qn (by omega) rfl,rfl⟩
   by_cases u:j=i
   ·subst u;rw[<-t];exact f
   ·exact h0 j d (by omega)
 ·have A:=xr e
  have s:i=l.length:=by omega
  subst s
  have b:wGa l n= -1:=by
   unfold wGa
   rw[List.findIdx?_eq_none_iff.2 (λy w=>by
    obtain⟨j,d,rfl⟩:=List.getElem_of_mem w
    exact h0 j d d)]
  simp only[go_sem]
  refine zn ?_<;>(simp only[go_sem,b]<;>try rfl)
theorem Wja(l:List Int)(n:Int):decide (wGa l n≥0)=l.any (n== ·):=by
 unfold wGa
 cases h:l.findIdx? (n== ·) with
 | none=>
   rw[List.findIdx?_eq_none_iff] at h
   have:l.any (n== ·)=false:=by rw[List.any_eq_false];intro y b;simp[h y b]
   rw[this];rfl
 | some i=>
   obtain⟨hi,a,_⟩:=List.findIdx?_eq_some_iff_getElem.1 h
   have:l.any (n== ·)=true:=List.any_eq_true.2 ⟨_,zx hi,a⟩
   rw[this]
   simp
theorem q1a(h:List Ob)(x:AV)(l:List Int)(n:Int)(a:SlOf h x 1 (l.map qz))(b:l.length<1048576):
  ACalls Tryz.prog 170 [x,i64 n] h λr h'=>r=bl (l.any (n== ·))/\h'=h:=by
 refine zj Tryz.f170 [.tmp 4] 9 rfl rfl rfl rfl rfl rfl (by decide) (⟨_,_,⟨rfl,rfl⟩,.refl⟩) λB=>?_
 simp only[go_sem]
 refine zh (zvb _ x l n a b) ?_
 rintro _ c ⟨rfl,rfl⟩
 simp only[go_sem,Wja]
 refine zn ?_<;>(simp only[go_sem]<;>try rfl)
theorem Qb:∀ {l:List Ev},Srt l->qu l=l
 | [],_=>rfl
 | x::l,⟨c,a⟩=>by
   rw[qu,Qb a]
   cases l with
   | nil=>rfl
   | cons y b=>rw[vF,c y (by simp)];rfl
theorem QBa(l:List Ev):qu (qu l)=qu l:=Qb (xY l)
theorem zDa{s:Setup}{l:List Ev}{w:Int}:qA s (XP s w l) w=qA s l w:=by
 have h:qu ((XP s w l).filter (ye s w))=qu (l.filter (ye s w)):=by
  rw[XKa, <-wi,QBa,List.filter_filter]
  congr 1
  refine List.filter_congr λe _=>?_
  unfold ye Ql
  by_cases a:e.worker=w
  ·simp[a]
  ·simp[a]
 unfold qA
 rw[jRa,jRa,h]
def ZZ(L:List Seg):Int:=(L.map λg=>g.to_ - g.from_).sum
theorem ySa{L:List Seg}(h:∀g∈L,g.from_<g.to_):0<=ZZ L/\(L≠[]->0<ZZ L):=by
 induction L with
 | nil=>simp[ZZ]
 | cons g L b=>
   have d:=b λx a=>h x (.tail _ a)
   have c:=h g (.head _)
   refine⟨?_,λ_=>?_⟩<;> · simp only[ZZ,List.map_cons,List.sum_cons] at *; omega
theorem kPa{p:Seg->Bool}{L:List Seg}(h:∀g∈L,g.from_<g.to_):ZZ (L.filter p)<=ZZ L:=by
 induction L with
 | nil=>simp
 | cons g L b=>
   have d:=b λx a=>h x (.tail _ a)
   have c:=h g (.head _)
   rw[List.filter_cons]
   split<;> · simp only[ZZ,List.map_cons,List.sum_cons] at *; omega
theorem yTa{hi:Int}:∀ {L:List Seg} {lo:Int},lo<=hi->(∀g∈L,lo<=g.from_/\g.from_<g.to_/\g.to_<=hi)->L.Pairwise (λa b=>a.to_<=b.from_)->ZZ L<=hi - lo
 | [],lo,h,_,_=>by simp[ZZ];omega
 | g::L,lo,h,e,c=>by
   rw[zR] at c
   have f:=e g (.head _)
   have:=yTa (L:=L) (lo:=g.to_) f.2.2 (λx d=>⟨c.1 x d,(e x (.tail _ d)).2⟩) c.2
   simp only[ZZ,List.map_cons,List.sum_cons] at*
   omega
theorem kQa{L:List Seg}(h:RiseTo L 32054400):ZZ L<=32054400:=by
 have:=yTa (hi:=32054400) (lo:=0) (by decide) h.each h.gap
 omega
theorem kRa:∀(L:List Seg) (n:Int),(∀g∈L,0<=g.from_/\g.from_<g.to_/\g.to_<=32054400)->0<=n->n+ZZ L<=4611686018427387904->L.foldl (λn g=>wr (n+wr (g.to_ - g.from_))) n=n+ZZ L
 | [],n,_,_,_=>by simp[ZZ]
 | g::L,n,b,h0,c=>by
   have f:=b g (.head _)
   have e:=(ySa (L:=L) λx a=>(b x (.tail _ a)).2.1).1
   have d:ZZ (g::L)=(g.to_ - g.from_)+ZZ L:=by simp[ZZ]
   rw[d] at c⊢
   rw[List.foldl_cons,qq (n:=g.to_ - g.from_) (by unfold Fit;omega),qq (n:=n+(g.to_ - g.from_)) (by unfold Fit;omega),kRa L _ (λx a=>b x (.tail _ a)) (by omega) (by omega)]
   omega
theorem X6a{L:List Seg}(h:RiseTo L 32054400)(k:Int):kva k L=ZZ (L.filter (jH k)):=by
 have c:=kQa h
 have b:=kPa (p:=jH k) λg a=>(h.each g a).2.1
 unfold kva VSa
 rw[kRa _ 0 (λg a=>h.each g (zL.1 a).1) (by decide) (by omega)]
 omega
theorem Jl(n:Int):0<=xS n/\xS n<53:=by
 unfold xS ofI qI
 have h0:0<=min (max n 0) 32054399/\min (max n 0) 32054399<=32054399:=by omega
 rw[Int.tdiv_eq_ediv_of_nonneg h0.1,qq (by unfold Fit;omega)]
 omega
theorem QCa{s:Setup}{l:List Ev}{w k:Int}(a:z6 s=true):(vz s l w k).eligible=ZZ ((qA s l w).1.filter (jH k)):=by
 obtain⟨b,_⟩:=yU (s:=s) (l:=l) (w:=w) a
 unfold vz
 rw[if_pos a,zDa,zra,XIa,X6a b]
theorem X7a{L:List Seg}(h:RiseTo L 32054400)(k:Int):(0<=ZZ (L.filter (jH k))/\ZZ (L.filter (jH k))<=32054400)/\decide (ZZ (L.filter (jH k))>0)=L.any (jH k):=by
 have h0:=ySa (L:=L.filter (jH k)) λg a=>(h.each g (zL.1 a).1).2.1
 have e:=kQa h
 have d:=kPa (p:=jH k) λg a=>(h.each g a).2.1
 refine⟨⟨h0.1,by omega⟩,?_⟩
 cases b:L.any (jH k)
 ·have:L.filter (jH k)=[]:=by
   rw[List.filter_eq_nil_iff]
   intro g a c
   rw[List.any_eq_false] at b
   exact b g a c
  rw[this];rfl
 ·obtain⟨g,a,c⟩:=List.any_eq_true.1 b
  have:L.filter (jH k)≠[]:=List.ne_nil_of_mem (zL.2 ⟨a,c⟩)
  simpa using h0.2 this
