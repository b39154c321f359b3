/-
  Joined.
-/
import Derived.Test.YtfmldcilgbbimaaGreatK38
import Derived.Lib.AppendZeros
import Derived.Test.YtfmldcilgbbimaaGreatK34
import Derived.Test.YtfmldcilgbbimaaGreatK30
import Derived.Test.YtfmldcilgbbimaaGreatK31
import Derived.Test.YtfmldcilgbbimaaGreatK27
set_option linter.unusedSimpArgs false
set_option linter.unusedVariables false
namespace Go.Proofs.YtfmldcilgbbimaaGreat.Ax
open Go Go.Proofs Go.RowKit Go.Lib
set_option maxRecDepth 100000
theorem vda:∃i,Tryz.prog.info? 3=some i/\i.zero=some (.int .i64 0)/\i.size=1/\i.bytes=8:=by
 have h:(Tryz.prog.info? 3).map (λi=>(i.zero,i.size,i.bytes))=some (some (.int .i64 0),1,8):=by kernel_rfl
 cases a:Tryz.prog.info? 3 with
 | none=>rw[a] at h;cases h
 | some i=>
   rw[a] at h
   injection h with h
   injection h with h1 h2
   injection h2 with h2 h3
   exact ⟨i,rfl,h1,h2,h3⟩
theorem JNa {N:Nat} {B:Bs} {w:World} {g:Gh} {h:List Ob} {a:Act} {T b:Env} (r:Rel N B w g h a T) (c:∀i,b i=T i∨b i= .bad):Rel N B w g h a b:=
 ⟨r.ok,r.hB,λi=>by
  rcases c i with e | e
  ·rw[e];exact r.t i
  ·rw[e];trivial,r.d,r.n⟩
theorem vea {P:Program} {N:Nat} {B:Bs} {φ:Nat->Ob} {ops:Array Oper} {o:Oper} {l:List Oper} {T:Env} {h h':List Ob} {x:AV} {w:World} {g:Gh} {a:Act} {Q:Exit->Act->World->Prop} (q:Upto φ h.length) (k:xq N o=true) (m:o.guard=none) (n:vH T o.op=none)
  (d:zt P T h o.op=some (x,h')) (r:Rel N B w g (fill φ h) a T) (next:∀g' w' c,ResK h h'->Rel N B w' g' (fill φ h') c (zZ T o.dst x)->Good B.b w g (fill φ h) w' g' (fill φ h')->wpListIn Fence.wide 0 P ops Q l c w'):wpListIn Fence.wide 0 P ops Q (o::l) a w:=by
 unfold wpListIn
 rw[if_pos (by simp[Region.wanted,m])]
 refine Vp (K:=λf e=>f=zZ T o.dst x/\e=h') 0 q k ?_ r ?_
 ·unfold Vo
  rw[n]
  unfold vg
  rw[d]
  exact ⟨rfl,rfl⟩
 ·rintro f e w' c ⟨rfl,rfl⟩ ⟨g',i,j,p⟩
  exact next g' w' c i j p
theorem jna (w:World) (b:Nat):(Instr.sliceAt 42 (.pointer (some ⟨b,0,none⟩)) none none none).run Tryz.prog w= .ok (.slice (some ⟨b,0,none⟩) 7 7) w:=by
 obtain ⟨i,a,d,f,e⟩:=vda
 have c:Tryz.prog.underlying 42=some (.array 7 3):=Tryz.underlying42
 simp[Instr.sliceAt,Instr.sureAddr,run_underlying c,Instr.sliceBounds,sizeOf,typeInfo,a,Addr.add_lit]
set_option maxHeartbeats 1000000 in
theorem JOa {N:Nat} {B:Bs} {T:Env} {h:List Ob} {Q:jv} {id i p q d E m d3:Nat} {ops:Array Oper} {O o1 o2 M:Oper} {rest:List Oper} (f:Nat->Int) (v:Int) (L:ops.toList=O::o1::o2::M::rest)
  (hd:ops.toList.all (xq N)=true) (e0:O.op= .slice 42 (.tmp p) none none none) (s0:O.dst=some d) (g0:O.guard=none)
  (e1:o1.op= .move (.tmp q)) (s1:o1.dst=some E) (g1:o1.guard=none)
  (e2:o2.op= .buildSlice 27 1 #[(0,.tmp E)]) (s2:o2.dst=some m) (g2:o2.guard=none)
  (e3:M.op= .call { callee:= .builtin .append,args:= #[.tmp d,.tmp m],argTypes:= #[27,27] }) (s3:M.dst=some d3) (g3:M.guard=none)
  (n01:E≠d) (n02:m≠d) (nq:q≠d)
  (hp:T p= .ptr i 0) (hb:h[i]? =some (.box 42 (vD f))) (hq:T q=i64 v)
  (k:wpR Tryz.prog ops (Q .normal) rest (upd (upd (upd (upd T d .bad) E (i64 v)) m (.tl h.length 0)) d3 (.tl (h.length+1) 0)) (h++[.row 3 1 [[i64 v]] 0]++[.row 3 1 ([f 0,f 1,f 2,f 3,f 4,f 5,f 6,v].map zz) 0])):
  AWp Tryz.prog N B (.region id ops false) Q T h:=λφ hu w g a r=>by
 refine (wpIn_wide (n:=0)).1 (wpIn_region ?_)
 rw[List.range_eq_range', <-Array.length_toList,wpOpsIn_eq_wpListIn ops.toList 0 (by simp),L]
 rw[L] at hd
 simp only[List.all_cons,Bool.and_eq_true] at hd
 obtain ⟨hd0,hd1,hd2,hd3,hdr⟩:=hd
 have o:=r.t p
 rw[hp] at o
 obtain ⟨Z,o⟩:=o
 have o:a.eval (.tmp p)= .pointer (some ⟨g.β i,0,none⟩):=o
 have c0:O.wpIn Fence.wide 0 Tryz.prog a w (wpListIn Fence.wide 0 Tryz.prog ops (λe R w'=>∃s h',Q e s h'/\Aft N B φ w g h s h' R w') (o1::o2::M::rest)) (λe R w'=>∃s h',Q e s h'/\Aft N B φ w g h s h' R w'):=by
  refine yF 0 ?_
  unfold Oper.wp
  have ξ:(execOp a.eval O).run Tryz.prog w= .ok (.value (.slice (some ⟨g.β i,0,none⟩) 7 7)) w:=by
   obtain ⟨dst,op,type,pos,after,guard⟩:=O
   simp only at e0
   subst e0
   have:=jna w (g.β i)
   simp only[execOp,o]
   simp[this]
  rw[ξ]
  show wpListIn Fence.wide 0 Tryz.prog ops _ (o1::o2::M::rest) (a.put O.dst (.slice (some ⟨g.β i,0,none⟩) 7 7)) w
  have r1:=kV (x:= .v (.slice (some ⟨g.β i,0,none⟩) 7 7)) (v:= .slice (some ⟨g.β i,0,none⟩) 7 7) r (Good.refl r.ok r.hB) rfl hd0
  rw[s0] at r1⊢
  obtain ⟨U,ο⟩:∃U,U=Value.slice (some ⟨g.β i,0,none⟩) 7 7:=⟨_,rfl⟩
  rw[<-ο] at r1⊢
  obtain ⟨X,I⟩:∃X,X=zZ T (some d) (.v U):=⟨_,rfl⟩
  rw[<-I] at r1
  have t1q:X q=i64 v:=by rw[I];show upd T d _ q=_;unfold upd;rw[if_neg nq];exact hq
  have t1d:X d= .v U:=by rw[I];show upd T d _ d=_;unfold upd;rw[if_pos rfl]
  refine vea (x:=i64 v) (h':=h) hu hd1 g1 (by rw[e1];rfl) (by rw[e1];simp only[zt,ev,t1q]) r1 ?_
  intro g2' w2 a2 q1 r2 k2
  rw[s1] at r2
  obtain ⟨V,K⟩:∃V,V=zZ X (some E) (i64 v):=⟨_,rfl⟩
  rw[<-K] at r2
  have t2d:V d= .v U:=by rw[K];show upd X E _ d=_;unfold upd;rw[if_neg (Ne.symm n01)];exact t1d
  have t2v:V E=i64 v:=by rw[K];show upd X E _ E=_;unfold upd;rw[if_pos rfl]
  refine vea (x:= .tl h.length 0) (h':=h++[.row 3 1 [[i64 v]] 0]) hu hd2 g2 (by rw[e2];rfl) (by rw[e2];simp only[zt,qy,go_sem,evs,ev,t2v]) r2 ?_
  intro F c a3 q2 D k3
  rw[s2] at D
  obtain ⟨T3,H⟩:∃T3,T3=zZ V (some m) (.tl h.length 0):=⟨_,rfl⟩
  rw[<-H] at D
  have t3d:T3 d= .v U:=by rw[H];show upd V m _ d=_;unfold upd;rw[if_neg (Ne.symm n02)];exact t2d
  have t3v:T3 m= .tl h.length 0:=by rw[H];show upd V m _ m=_;unfold upd;rw[if_pos rfl]
  obtain ⟨C,J⟩:∃C,C=h++[.row 3 1 [[i64 v]] 0]:=⟨_,rfl⟩
  rw[<-J] at D k3 q2 k
  have hl3:C.length=h.length+1:=by rw[J];simp
  have ρ:Upto φ C.length:=hu.mono (by omega)
  have hb3:C[i]? =some (.box 42 (vD f)):=by rw[J];exact zb hb
  have hr3:C[h.length]? =some (.row 3 1 [[i64 v]] 0):=by rw[J,zo rfl];rfl
  have kk:=k2.trans k3
  have hβ:F.β i=g.β i:=kk.le.β i Z
  have w0:a3.eval (.tmp d)=U:=by
   have:=D.t d
   rw[t3d] at this
   exact this
  have σ:=D.t m
  rw[t3v] at σ
  obtain ⟨_,_,ν⟩:=σ
  have S:=zN (φ:=φ) hr3 rfl
  have e4:a3.eval (.tmp m)=F.cur h.length:=(ν 0 (by simp[ctx,S,Ob.tok])).2 rfl
  obtain ⟨_,_,cells,c2,c3⟩:=D.ok.ok _ _ S
  obtain ⟨u,rr,z1,z2,z3⟩:=c3
  have z2:u= .int .i64 v:=z2
  have z3:rr=[]:=z3
  subst z1 z2 z3
  have Y:=(Vc D.ok (zN (φ:=φ) hb3 rfl)).vals
  obtain ⟨vs,v1,v2⟩:=Y
  rw[hβ] at v2
  have z:vs.length=7:=by rw[<-kC v1];rfl
  obtain ⟨ii,hi,hz,hs,hby⟩:=vda
  rcases c2.2 with ⟨_,e5⟩ | ⟨gg,cap,cur,e5,e6,e7,e8,e9,e10,e11⟩
  ·cases e5
  ·have e5:F.cur h.length= .slice (some ⟨gg,0,none⟩) 1 cap:=e5
   have A:=run_append_grow (P:=Tryz.prog) c 27 M.type 3 ii (.int .i64 0) Tryz.underlying27 hi hz ⟨g.β i,0,none⟩ 7 7 vs (by rw[hs,z]) v2 ⟨gg,0,none⟩ 1 cap [.int .i64 v] (by rw[hs];rfl) (λj x hx=>by
     have hj:j=0:=by
      cases j with
      | zero=>rfl
      | succ j=>simp at hx
     subst hj
     have hx:x= .int .i64 v:=by simpa using hx.symm
     subst hx
     have:cur[0]? =some (.int .i64 v):=by
      have:=congrArg (λl:List Value=>l[0]?) e11
      simpa [List.getElem?_take] using this
     simp[World.cell?,e7,Addr.add_lit,this]) (by omega) (by omega) (growslice_fits (by omega) (by rw[hby];omega))
   have ι:=grownCap_ge c 8 7 3
   have ζ:=grownCap_le_maxLen c 8 7 3 (by unfold maxLen;omega)
   obtain ⟨G,hG⟩:∃G,G=grownCap c (7+1) 7 3:=⟨_,rfl⟩
   have hG8:grownCap c 8 7 3=G:=hG.symm
   rw[hG8] at ι ζ
   rw[<-hG] at A
   obtain ⟨cs,W⟩:∃cs:Array Value,cs=vs.toArray++ #[Value.int .i64 v]++Builtin.zeroCells (Value.int .i64 0).cells (G - (7+1)):=⟨_,rfl⟩
   have η:(vs.toArray++[Value.int .i64 v].toArray++Builtin.zeroCells (Value.int .i64 0).cells (G - (7+1)))=cs:=W.symm
   rw[η] at A
   have hsz:cs.size=G*1:=by
    rw[W]
    simp only[Array.size_append,YK,List.size_toArray,z]
    simp[Value.cells];omega
   have htk:cs.toList.take (8*1)=vs++[.int .i64 v]:=by
    rw[W]
    simp only[Array.toList_append,List.toList_toArray]
    rw[List.take_append_of_le_length (by simp[z])]
    rw[List.take_of_length_le (by simp[z])]
   have μ:ARs (ctx c F (fill φ C)) ([f 0,f 1,f 2,f 3,f 4,f 5,f 6,v].map zz).flatten (vs++[.int .i64 v]):=by
    have:=vj v1 (show ARs (ctx c F (fill φ C)) [i64 v] [.int .i64 v] from ⟨_,_,rfl,rfl,rfl⟩)
    exact this
   have θ:Below c.heap.size c (c.drew.alloc (.cells cs 3)):=(show Below c.heap.size c c.drew from ⟨rfl,rfl,rfl,Nat.le_refl _,λ_ _=>rfl⟩).alloc (Nat.le_refl _) _
   obtain ⟨m1,m2⟩:=ZW D.ok D.hB (ty:=3) (e:=1) (by decide) (xs:=[f 0,f 1,f 2,f 3,f 4,f 5,f 6,v].map zz) (λx hx=>by
     obtain ⟨y,_,rfl⟩:=List.mem_map.1 hx
     rfl) (v':= .slice (some ⟨c.heap.size,0,none⟩) 8 G) 0 θ
    ⟨by rw[List.length_append,z];rfl,.inr ⟨c.heap.size,G,cs,rfl,D.hB,heap_alloc_new c.drew _,ι,ζ,hsz,htk⟩⟩ μ (λb hb=>by injection hb with hb;subst hb;exact Nat.le_refl _)
   have hfl:fill φ (C++[.row 3 1 ([f 0,f 1,f 2,f 3,f 4,f 5,f 6,v].map zz) 0])=fill φ C++[.row 3 1 ([f 0,f 1,f 2,f 3,f 4,f 5,f 6,v].map zz) 0]:=qR ρ
   rw[qm] at m1 m2
   rw[<-hfl] at m1 m2
   have c3:M.wpIn Fence.wide 0 Tryz.prog a3 c (wpListIn Fence.wide 0 Tryz.prog ops (λe R w'=>∃s h',Q e s h'/\Aft N B φ w g h s h' R w') rest) (λe R w'=>∃s h',Q e s h'/\Aft N B φ w g h s h' R w'):=by
    refine yF 0 (wp_append_run c (.tmp d) (.tmp m) 27 27 e3 U (.slice (some ⟨gg,0,none⟩) 1 cap) w0 (by rw[e4,e5]) (.slice (some ⟨c.heap.size,0,none⟩) 8 G) (c.drew.alloc (.cells cs 3)) (by rw[ο];exact A) ?_)
    have r4:=kV (x:= .tl C.length 0) (v:= .slice (some ⟨c.heap.size,0,none⟩) 8 G) D m1 m2 hd3
    rw[s3] at r4⊢
    have r5:Rel N B _ _ _ _ (upd (upd (upd (upd T d .bad) E (i64 v)) m (.tl h.length 0)) d3 (.tl (h.length+1) 0)):=JNa r4 (λj=>by
     rw[H,K,I,hl3]
     simp only[zZ,upd]
     by_cases j3:j=d3
     ·rw[if_pos j3,if_pos j3];exact .inl rfl
     ·rw[if_neg j3,if_neg j3]
      by_cases j2:j=m
      ·rw[if_pos j2,if_pos j2];exact .inl rfl
      ·rw[if_neg j2,if_neg j2]
       by_cases j1:j=E
       ·rw[if_pos j1,if_pos j1];exact .inl rfl
       ·rw[if_neg j1,if_neg j1]
        by_cases j0:j=d
        ·rw[if_pos j0];exact .inr rfl
        ·rw[if_neg j0,if_neg j0];exact .inl rfl)
    refine wx rest hdr (ρ.mono (by rw[List.length_append];omega)) (qCa _ k) r5 ?_
    intro s h' w' R q hq4
    refine ⟨s,h',q,hq4.trans ?_ ((k2.trans k3).trans m1)⟩
    exact (q1.trans q2).trans zR
   unfold wpListIn
   rw[if_pos (by simp[Region.wanted,g3])]
   exact c3
 unfold wpListIn
 rw[if_pos (by simp[Region.wanted,g0])]
 exact c0
end Go.Proofs.YtfmldcilgbbimaaGreat.Ax
namespace Go.Proofs.YtfmldcilgbbimaaGreat.Ax
open Go Go.Proofs
set_option maxRecDepth 100000
section
variable {P:Program} {N:Nat} {B:Bs} {Q:jv} {T:Env} {h:List Ob}
theorem j5 {c:Code} (k:AWp P N B c Q T h): @yk P N B ⟨(c,Q)⟩ T h:=k
theorem qc {c c':Code} (a:okC N c=true) (k:wpC P N B c (vO (λT h=> @yk P N B ⟨(c',Q)⟩ T h) Q) T h):AWp P N B (.seq c c') Q T h:=yj (zL _ a k)
theorem ZWa {c c':Code} (k:AWp P N B c (vO (λT h=> @yk P N B ⟨(c',Q)⟩ T h) Q) T h):AWp P N B (.seq c c') Q T h:=yj k
theorem vL {c c':Code} (S:Env->List Ob->Prop) (a:okC N c=true) (k1:wpC P N B c (vO S Q) T h) (k2:∀T h,S T h->AWp P N B c' Q T h):AWp P N B (.seq c c') Q T h:=
 yj ((zL _ a k1).mono λe T h q=>by cases e<;>first | exact k2 _ _ q | exact q)
end
def joa (s:Setup) (w:Nat):Int:=s.rates.getD w 0
def Qr (s:Setup) (w:Nat) (t:Nat->Int) (j:Nat):Int:=if j=0 then 0 else x4a (wr (jla (t j)*Wu s (joa s w) j)) 7200
def jpa (t:Nat->Int):Nat->Int
 | 0=>0
 | j+1=>if j=0 then 0 else wr (jpa t j+jla (t j))
def XVa (s:Setup) (i:Nat):Int:=(s.tiers.getD i (0,0)).2
def wV (s:Setup) (g tier:Int):Int:=if 0<=tier/\tier<s.tiers.length then x4a (wr (jla g*XVa s tier.toNat)) 3600 else 0
structure PayR where
 pays:Nat->Int
 extra:Int
 supp:Int
 total:Int
def JPa (s:Setup) (w:Nat) (t:Nat->Int) (g tier:Int):PayR:=
 let p:=Qr s w t
 let e:=wV s g tier
 let sum:=(Wv 0 [p 0,p 1,p 2,p 3,p 4,p 5,p 6,e]).1
 let least:=(upI (wr (jpa t 7*s.least)) 3600).1
 let supp:=max 0 (wr (least - sum))
 ⟨p,e,supp,wr (sum+supp)⟩
def JQa (p:PayR):AV:= .tup [.ag (vD p.pays),i64 p.extra,i64 p.supp,i64 p.total,i64 0]
structure PB (h h':List Ob) (s:Setup) (a:SA) (t u:Nat->Int):Prop where
 pre:Pre h h'
 set_:h'[h.length]? =some (.box 30 (zr s a))
 tot:h'[h.length+1]? =some (.box 42 (vD t))
 pay:h'[h.length+2]? =some (.box 42 (vD u))
theorem PB.app {h h':List Ob} {s:Setup} {a:SA} {t u:Nat->Int} (k:PB h h' s a t u) {M:List Ob} (b:NoRes M):PB h (h'++M) s a t u:=⟨k.pre.app b,zb k.set_,zb k.tot,zb k.pay⟩
theorem PB.put {h h':List Ob} {s:Setup} {a:SA} {t u b:Nat->Int} (k:PB h h' s a t u):PB h (h'.set (h.length+2) (.box 42 (vD b))) s a t b:=
 ⟨k.pre.set (by omega) rfl,by rw[List.getElem?_set_ne (by omega)];exact k.set_,by rw[List.getElem?_set_ne (by omega)];exact k.tot,zh k.pay⟩
theorem Y0a (h:List Ob) (s:Setup) (a:SA) (k:SIn h s a) (f:SFit s) (β:zw s=true) (w:Nat) (hw:w<s.rates.length) (t:Nat->Int) (g tier:Int):
  ACalls Tryz.prog 55 [z6 s a,i64 w,.ag (vD t),i64 g,i64 tier] h λr h'=>r=JQa (JPa s w t g tier)/\h'=h:=by
 have υ:=k.r.rows
 refine jm (N:=105) (rs:=[.cell 10 42,.tmp 11,.tmp 12,.tmp 13,.tmp 14]) (fn:=Tryz.f55) rfl rfl rfl rfl (Nat.le_of_ble_eq_true rfl) rfl (⟨_,_,⟨rfl,rfl⟩,.refl⟩) λB=>?_
 refine qc (by decide) ?_
 simp only[go_sem,k.ones]
 refine j5 (qc (by decide) ?_)
 simp only[go_sem,k.ones]
 refine zc (c16 _ s a (k.app _) f) ?_
 rintro _ J ⟨rfl,rfl⟩
 simp only[go_sem,β,zJ,Bool.not_true]
 refine j5 (qc (by decide) ?_)
 have S:decide ((w:Int)<0)=false:=by rw[decide_eq_false_iff_not];omega
 have R:decide ((w:Int)≥(s.rates.length:Int))=false:=by rw[decide_eq_false_iff_not];omega
 have ζ:∀M,zq (h++M) a.r=some (s.rates.map zz):=λM=>(k.app M).r.rows
 simp only[go_sem,S,zJ,ζ,R,List.length_map]
 refine j5 (qc (by decide) ?_)
 simp only[go_sem]
 refine j5 (qc (by decide) ?_)
 simp only[go_sem]
 refine zj (by decide) (λm T h'=>∃n:Nat,n<=7/\PB h h' s a t (λj=>if j<n then Qr s w t j else 0)/\T 1=i64 w/\T 3=i64 g/\T 4=i64 tier/\T 5= .ptr h.length 0/\T 7= .ptr (h.length+1) 0/\T 10= .ptr (h.length+2) 0/\T 11=i64 0/\T 15=i64 (jpa t n)/\T 34=i64 n/\m=7 - n) 7
  ⟨0,by omega,⟨⟨_,rfl,zg rfl (zg rfl (zi rfl))⟩,by rw[zo rfl];rfl,by rw[zm (k:=1) rfl];rfl,by rw[zm (k:=2) rfl];rfl⟩,by simp only[go_sem],by simp only[go_sem],by simp only[go_sem],by simp only[go_sem],by simp only[go_sem],by simp only[go_sem],by simp only[go_sem],by (simp only[go_sem]<;>rfl),by (simp only[go_sem]<;>rfl),rfl⟩ ?_
 rintro m T h' ⟨n,hn,u,t1,t3,t4,t5,V,t10,o,v,y,rfl⟩
 simp only[go_sem,y]
 refine ways (λe=>?_) (λe=>?_)
 ·have x:(n:Int)<7:=of_decide_eq_true e
  have l:n<7:=by omega
  simp only[go_sem,y]
  refine ways (λe0=>?_) (λe0=>?_)
  ·have D:n=0:=by simpa using e0
   subst D
   simp only[go_sem,y]
   have hu:(λj:Nat=>if j<0+1 then Qr s w t j else 0)=λj=>if j<0 then Qr s w t j else 0:=by
    funext j
    by_cases hj:j=0
    ·subst hj;rfl
    ·rw[if_neg (by omega),if_neg (by omega)]
   exact ⟨6,by omega,1,by omega,by rw[hu];exact u,t1,t3,t4,t5,V,t10,o,v,rfl,rfl⟩
  ·have D:¬ n=0:=by simpa using e0
   have δ:=u.tot
   have hg:=ZTa t l
   simp only[go_sem,V,y,δ,hg,x,l,Nat.mul_one,Nat.zero_add,Int.toNat_natCast,Int.natCast_nonneg]
   refine zc (jma _ _) ?_
   rintro _ z ⟨rfl,e2⟩
   rw[e2]
   simp only[go_sem,v]
   refine zn rfl [] 0 [(0,0,[]),(1,0,[]),(3,0,[]),(5,0,[]),(8,0,[]),(2,0,[]),(4,0,[]),(6,0,[]),(7,0,[]),(9,0,[]),(10,0,[]),(11,0,[]),(12,0,[]),(13,0,[])] rfl (by decide) (by decide) ?_
   have b:=u.set_
   have A:=u.pay
   have d:=((u.pre.sin k).r).rows
   have H:=((u.pre.sin k).r).at (i:=w) (by rw[List.length_map];exact hw)
   have c:(s.rates.map zz)[w]? =some [i64 (joa s w)]:=by
    rw[List.getElem?_map,List.getElem?_eq_getElem hw]
    simp[joa,List.getD,hw,zz]
   have F:(w:Int)<s.rates.length:=by omega
   have E:=jja (λj=>if j<n then Qr s w t j else 0) l (Qr s w t n)
   have X:(λj:Nat=>if j=n then Qr s w t n else if j<n then Qr s w t j else 0)=λj:Nat=>if j<n+1 then Qr s w t j else 0:=by
    funext j
    by_cases J:j=n
    ·subst J;rw[if_pos rfl,if_pos (by omega)]
    ·rw[if_neg J]
     by_cases z:j<n
     ·rw[if_pos z,if_pos (by omega)]
     ·rw[if_neg z,if_neg (by omega)]
   rw[X] at E
   simp only[go_sem,t1,t5,t10,y,b,A,d,H,c,F,x,l,List.length_map,Nat.mul_one,Nat.zero_add,Int.toNat_natCast,Int.natCast_nonneg]
   refine zc (KSa _ s a (u.pre.sin k) (joa s w) n (by omega)) ?_
   rintro _ h3 ⟨rfl,O⟩
   rw[O]
   simp only[go_sem,t1,t5,t10,y,b,A,d,H,c,F,x,l,List.length_map,Nat.mul_one,Nat.zero_add,Int.toNat_natCast,Int.natCast_nonneg]
   refine zc (XUa _ _ _) ?_
   rintro _ h4 ⟨rfl,Q⟩
   rw[Q]
   have θ:x4a (IntKind.wrap .i64 (jla (t n)*Wu s (joa s w) n)) 7200=Qr s w t n:=by unfold Qr;rw[if_neg D]
   rw[θ]
   simp only[go_sem,t1,t5,t10,y,b,A,d,H,c,F,E,x,l,List.length_map,Nat.mul_one,Nat.zero_add,Int.toNat_natCast,Int.natCast_nonneg]
   exact ⟨7 - (n+1),by omega,n+1,by omega,u.put,t3,t4,V,o,by rw[jpa,if_neg D],zx (by omega) rfl,rfl⟩
 ·have R:¬ (n:Int)<7:=of_decide_eq_false e
  have γ:n=7:=by omega
  subst γ
  simp only[go_sem]
  have ξ:(λj:Nat=>if j<7 then Qr s w t j else 0)=λj:Nat=>if j<7 then Qr s w t j else 0:=rfl
  refine j5 (vL (λP z=>PB h z s a t (λj=>if j<7 then Qr s w t j else 0)/\P 5= .ptr h.length 0/\P 10= .ptr (h.length+2) 0/\P 11=i64 (wV s g tier)/\P 15=i64 (jpa t 7)) (by decide) ?_ ?_)
  ·have b:=u.set_
   have d:=((u.pre.sin k).t).rows
   simp only[go_sem,t4,t5,b,d,List.length_map]
   cases K:decide (tier≥0)
   ·have J:¬ tier≥0:=of_decide_eq_false K
    have hex:wV s g tier=0:=by unfold wV;rw[if_neg (λq=>J q.1)]
    simp only[go_sem,K,zJ]
    rw[hex]
    exact ⟨u,t5,t10,o,v⟩
   ·have J:0<=tier:=of_decide_eq_true K
    cases W:decide (tier<s.tiers.length)
    ·have z:¬ tier<s.tiers.length:=of_decide_eq_false W
     have hex:wV s g tier=0:=by unfold wV;rw[if_neg (λq=>z q.2)]
     simp only[go_sem,K,W,zJ,t4,t5,b,d,List.length_map]
     rw[hex]
     exact ⟨u,t10,o,v⟩
    ·have z:tier<s.tiers.length:=of_decide_eq_true W
     simp only[go_sem,K,W,zJ,t4,t5,b,d,List.length_map]
     obtain ⟨C,Y⟩:∃C:Nat,(C:Int)=tier:=⟨tier.toNat,by omega⟩
     subst Y
     have x:C<s.tiers.length:=by omega
     have I:=((u.pre.sin k).t).at (i:=C) (by rw[List.length_map];exact x)
     have c:(s.tiers.map qz)[C]? =some [i64 (s.tiers.getD C (0,0)).1,i64 (s.tiers.getD C (0,0)).2]:=by
      rw[List.getElem?_map,List.getElem?_eq_getElem x]
      simp[List.getD,x,qz]
     have hex:wV s g C=x4a (wr (jla g*XVa s C)) 3600:=by unfold wV;rw[if_pos ⟨by omega,z⟩];rfl
     refine zn rfl [] 0 [(0,0,[]),(2,0,[]),(4,0,[]),(3,0,[]),(5,0,[]),(6,0,[]),(7,0,[]),(1,0,[3,5,7]),(8,0,[]),(9,0,[]),(10,0,[])] rfl (by decide) (by decide) ?_
     simp only[go_sem,t3,t4,t5,b,d,I,c,z,List.length_map,Int.toNat_natCast,Int.natCast_nonneg]
     refine zc (jma _ _) ?_
     rintro _ h3 ⟨rfl,O⟩
     rw[O]
     simp only[go_sem,t3,t4,t5,b,d,I,c,z,List.length_map,Int.toNat_natCast,Int.natCast_nonneg]
     refine zc (XUa _ _ _) ?_
     rintro _ h4 ⟨rfl,Q⟩
     rw[Q]
     rw[show x4a (IntKind.wrap .i64 (jla g*(s.tiers.getD C (0,0)).2)) 3600=wV s g C from hex.symm]
     simp only[go_sem,t3,t4,t5,b,d,I,c,z,List.length_map,Int.toNat_natCast,Int.natCast_nonneg]
     exact ⟨u,t10,v⟩
  ·clear t1 t3 t4 t5 V t10 o v y u
   rintro P z ⟨u,t5,t10,o,v⟩
   refine ZWa (JOa (λj=>if j<7 then Qr s w t j else 0) (wV s g tier) rfl (by decide) rfl rfl rfl rfl rfl rfl rfl rfl rfl rfl rfl rfl (by decide) (by decide) (by decide) t10 u.pay o ?_)
   simp only[go_sem]
   obtain ⟨p,hp⟩:∃p,p=Qr s w t:=⟨_,rfl⟩
   obtain ⟨e,Z⟩:∃e,e=wV s g tier:=⟨_,rfl⟩
   rw[<-hp, <-Z]
   refine zc (YZa _ (.tl (z.length+1) 0) [p 0,p 1,p 2,p 3,p 4,p 5,p 6,e] ⟨by rw[zX,zm (k:=1) rfl];rfl,λ_=>by rw[qE,zm (k:=1) rfl];rfl⟩ (by show 8<1048576;decide)) ?_
   rintro _ h3 ⟨rfl,O⟩
   rw[O]
   simp only[go_sem,Q4]
   refine j5 (qc (by decide) ?_)
   have G:=(u.app (M:=[.row 3 1 [[i64 e]] 0,.row 3 1 [zz (p 0),zz (p 1),zz (p 2),zz (p 3),zz (p 4),zz (p 5),zz (p 6),zz e] 0]) (zg rfl (zi rfl)))
   have b:=G.set_
   have A:(z++[.row 3 1 [[i64 e]] 0,.row 3 1 [zz (p 0),zz (p 1),zz (p 2),zz (p 3),zz (p 4),zz (p 5),zz (p 6),zz e] 0])[h.length+2]? =some (.box 42 (vD p)):=by
    have:=G.pay
    rw[show (vD λj=>if j<7 then Qr s w t j else 0)=vD p by rw[hp];rfl] at this
    exact this
   simp only[go_sem,t5,v,b]
   refine zc (cUp _ _ _) ?_
   rintro _ h4 ⟨rfl,Q⟩
   rw[Q]
   simp only[go_sem,Q4]
   refine j5 (zL _ (by decide) ?_)
   have hq:JPa s w t g tier=⟨p,e,max 0 (wr ((upI (wr (jpa t 7*s.least)) 3600).1 - (Wv 0 [p 0,p 1,p 2,p 3,p 4,p 5,p 6,e]).1)),wr ((Wv 0 [p 0,p 1,p 2,p 3,p 4,p 5,p 6,e]).1+max 0 (wr ((upI (wr (jpa t 7*s.least)) 3600).1 - (Wv 0 [p 0,p 1,p 2,p 3,p 4,p 5,p 6,e]).1)))⟩:=by rw[hp,Z];rfl
   rw[hq]
   obtain ⟨S0,τ⟩:∃S0,S0=(Wv 0 [p 0,p 1,p 2,p 3,p 4,p 5,p 6,e]).1:=⟨_,rfl⟩
   obtain ⟨U,hU⟩:∃U,U=(upI (wr (jpa t 7*s.least)) 3600).1:=⟨_,rfl⟩
   simp only[go_sem,t10,A]
   rw[zT A]
   obtain ⟨L,hL,hN⟩:=G.pre
   refine ⟨JQa _,?_,.inr ⟨h,L,hL,rfl,rfl,.refl,rfl,rfl⟩⟩
   rw[<-Z] at o
   simp only[go_sem,t10,o,A,JQa,Zk]
set_option maxRecDepth 100000
theorem YQ {c:Ctx}:∀ {xs:List AV} {x:AV} {us:List Value},ARs c (xs++[x]) us->∃b u,us=b++[u]/\ARs c xs b/\AR c x u
 | [],x,us,⟨u,r,f,e,d⟩=>by
   have d:r=[]:=d
   subst d
   exact ⟨[],u,f,rfl,e⟩
 | a::xs,x,us,⟨u,r,f,e,d⟩=>by
   obtain ⟨b,v,g,h,i⟩:=YQ d
   subst g
   exact ⟨u::b,v,f,⟨u,b,rfl,e,h⟩,i⟩
theorem W8 {P:Program} {f:FuncId} {ar:List AV} {h:List Ob} {cs:List AV} {e:Nat} {rows:List (List AV)} (m:0<e) (i:zG h.length cs=true) (A:zU h.length rows=true) (c:ACalls P f ar h λr h'=>∃L x,h'=h++L/\NoRes L/\r= .ag (cs++[x])/\New h e x rows L):ACalls P f ar h λr h'=>r= .ag (cs++[.sl e rows])/\h'=h:=by
 refine ⟨c.1,⟨_,_,⟨rfl,rfl⟩,.refl⟩,λφ l B w g vs k hB b=>?_⟩
 refine (c.2.2 φ l B w g vs k hB b).mono λC w' ⟨v,r,h',g',y,⟨L,x,p,_,t,n1⟩,_,d,j⟩=>?_
 subst p t
 rw[qR l] at d j
 have a:(fill φ h).length=h.length:=qm
 obtain ⟨us,rfl,q⟩:=j
 obtain ⟨o,u,n,s,z⟩:=YQ q
 refine ⟨_,_,h,g',y,⟨rfl,rfl⟩,.refl,d.drop rfl (by have:=k.ids;exact this),us,rfl,?_⟩
 rw[n]
 exact vj (ARs.less (xx w' g' (fill φ h) L) _ _ (by rw[qm];exact i) s) ⟨u,[],rfl,Qi d.ok m z (n1 _ a) (λid hid=>by rw[a];exact n1.root id hid) (by rw[a];exact A),rfl⟩
theorem zNa {n:Nat}:∀l:List Seg,zU n (l.map jo)=true
 | []=>rfl
 | s::l=>by
   rw[List.map_cons,zU,zNa l];rfl
theorem zOa {n:Nat}:∀l:List Flg,zU n (l.map xv)=true
 | []=>rfl
 | s::l=>by
   rw[List.map_cons,zU,zOa l];rfl
theorem vga (h:List Ob) (s:Setup) (a:SA) (k:SIn h s a) (f:SFit s) (x:AV) (l:List Ev) (w:Int) (c:SlOf h x 11 (l.map evC)) (b:l.length<1048576):
  ACalls Tryz.prog 22 [z6 s a,x,i64 w] h λr h'=>r= .tup [.sl 5 ((zM s l w).1.map jo),.sl 2 ((zM s l w).2.map xv)]/\h'=h:=
 q0a (by decide) (by decide) (zNa _) (zOa _) (c21 h s a k f x l w c b)
def xH (s:Setup) (w k:Int):Int:=if !zw s then 70 else if w<0∨(s.rates.length:Int)<=w then 80 else if k<0∨52<k then 212 else 0
theorem KVa (h:List Ob) (s:Setup) (a:SA) (k:SIn h s a) (f:SFit s) (w wk:Int):
  ACalls Tryz.prog 47 [z6 s a,i64 w,i64 wk] h λr h'=>r=i64 (xH s w wk)/\h'=h:=by
 have c:∀M,zq (h++M) a.r=some (s.rates.map zz):=λM=>(k.app M).r.rows
 refine zf Tryz.f47 [.tmp 6] 28 rfl rfl rfl rfl rfl rfl (by decide) (⟨_,_,⟨rfl,rfl⟩,.refl⟩) λB=>?_
 simp only[go_sem,k.ones]
 refine zc (c16 _ s a (k.app _) f) ?_
 rintro _ e ⟨rfl,rfl⟩
 cases b:zw s
 ·simp only[go_sem,b,zJ,Bool.not_false]
  (first | refine zd ?_ | refine ze ?_ (by rfl))<;>(simp only[go_sem,xH,b]<;>try rfl)
 ·simp only[go_sem,b,zJ,Bool.not_true]
  cases d:decide (w<0)
  ·have e:¬ w<0:=of_decide_eq_false d
   cases g:decide (w≥(s.rates.length:Int))
   ·have i:¬ (s.rates.length:Int)<=w:=of_decide_eq_false g
    cases j:decide (wk<0)
    ·have m:¬ wk<0:=of_decide_eq_false j
     cases l:decide (wk>52)
     ·have n:¬ 52<wk:=of_decide_eq_false l
      simp only[go_sem,d,g,j,l,zJ,c,List.length_map]
      (first | refine zd ?_ | refine ze ?_ (by rfl))<;>(simp only[go_sem,xH,b,e,i,m,n]<;>try rfl)
     ·have n:52<wk:=of_decide_eq_true l
      simp only[go_sem,d,g,j,l,zJ,c,List.length_map]
      (first | refine zd ?_ | refine ze ?_ (by rfl))<;>(simp only[go_sem,xH,b,e,i,m,n]<;>try rfl)
    ·have m:wk<0:=of_decide_eq_true j
     simp only[go_sem,d,g,j,zJ,c,List.length_map]
     (first | refine zd ?_ | refine ze ?_ (by rfl))<;>(simp only[go_sem,xH,b,e,i,m]<;>try rfl)
   ·have i:(s.rates.length:Int)<=w:=of_decide_eq_true g
    simp only[go_sem,d,g,zJ,c,List.length_map]
    (first | refine zd ?_ | refine ze ?_ (by rfl))<;>(simp only[go_sem,xH,b,e,i]<;>try rfl)
  ·have e:w<0:=of_decide_eq_true d
   simp only[go_sem,d,zJ]
   (first | refine zd ?_ | refine ze ?_ (by rfl))<;>(simp only[go_sem,xH,b,e]<;>try rfl)
def xW (s:Setup) (w:Int) (e:Ev):Bool:=e.worker != w || !ko s e
theorem WGa (h:List Ob) (s:Setup) (a:SA) (k:SIn h s a) (i j:Nat) (w:Int) (d:h[i]? =some (.box 30 (zr s a))) (f:h[j]? =some (.box 3 [i64 w])) (e:Ev):
  ACalls Tryz.prog 50 [evV e,.ptr j 0,.ptr i 0] h λr h'=>r=bl (xW s w e)/\h'=h:=by
 have b:∀M,(h++M)[i]? =some (.box 30 (zr s a)):=λM=>zb d
 have c:∀M,(h++M)[j]? =some (.box 3 [i64 w]):=λM=>zb f
 refine zf Tryz.f50 [.tmp 4] 15 rfl rfl rfl rfl rfl rfl (by decide) (⟨_,_,⟨rfl,rfl⟩,.refl⟩) λB=>?_
 simp only[go_sem,b,c,k.ones]
 cases q:e.worker != w
 ·simp only[go_sem,q,zJ,b]
  refine zc (c14 _ s a (k.app _) e) ?_
  rintro _ g ⟨rfl,rfl⟩
  simp only[go_sem]
  (first | refine zd ?_ | refine ze ?_ (by rfl))<;>(simp only[go_sem,xW,q]<;>try rfl)
 ·simp only[go_sem,q,zJ]
  (first | refine zd ?_ | refine ze ?_ (by rfl))<;>(simp only[go_sem,xW,q]<;>try rfl)
theorem WHa (h:List Ob) (j:Nat) (f:Flg) (b:h[j]? =some (.box 97 (xv f))) (e:Ev):
  ACalls Tryz.prog 57 [evV e,.ptr j 0] h λr h'=>r=bl (e.id==f.id)/\h'=h:=by
 have a:∀M,(h++M)[j]? =some (.box 97 [i64 f.id,i64 f.kind]):=λM=>zb b
 refine zf Tryz.f57 [.tmp 3] 9 rfl rfl rfl rfl rfl rfl (by decide) (⟨_,_,⟨rfl,rfl⟩,.refl⟩) λB=>?_
 simp only[go_sem,a]
 (first | refine zd ?_ | refine ze ?_ (by rfl))<;>(simp only[go_sem]<;>try rfl)
set_option maxRecDepth 100000
def RowsK (h h':List Ob):Prop:=∀(id ty e:Nat) (xs:List (List AV)) (st:Nat),h[id]? =some (.row ty e xs st)->h'[id]? =some (.row ty e xs st)
theorem jta {o:Option Ob} {e:Nat} (h:eTl o=some e):∃ty xs st,o=some (.row ty e xs st):=by
 unfold eTl at h
 split at h
 ·injection h with h
  subst h
  exact ⟨_,_,_,rfl⟩
 ·cases h
theorem jua {o:Option Ob} {st:Nat} {xs:List (List AV)} (h:Ys o st=some xs):∃ty e,o=some (.row ty e xs st):=by
 unfold Ys at h
 split at h
 ·split at h
  ·rename_i a
   injection h with h
   subst a h
   exact ⟨_,_,rfl⟩
  ·cases h
 ·cases h
theorem Wx {h h':List Ob} (k:RowsK h h'):∀(a:AV) {e:Nat},eOf h a=some e->eOf h' a=some e
 | .sl _ _,_,b=>b
 | .tl id st,e,b=>by
   rw[qE] at b⊢
   obtain ⟨ty,xs,st',d⟩:=jta b
   rw[k _ _ _ _ _ d];rfl
 | .vw a f i n,e,b=>by
   rw[Ze] at b⊢
   cases c:eOf h a with
   | none=>rw[c] at b;cases b
   | some ys=>
     rw[c] at b
     rw[Wx k a c]
     exact b
 | .v _,_,b | .em,_,b | .ptr _ _,_,b | .ep _ _ _ _,_,b | .mp _,_,b | .ag _,_,b | .tup _,_,b | .fn _ _ _,_,b | .bad,_,b=>by cases b
theorem KI {h h':List Ob} (k:RowsK h h'):∀(a:AV) {xs:List (List AV)},zq h a=some xs->zq h' a=some xs
 | .sl _ _,_,b=>b
 | .em,_,b=>b
 | .tl id st,xs,b=>by
   rw[zX] at b⊢
   obtain ⟨ty,e,f⟩:=jua b
   rw[k _ _ _ _ _ f,jV,if_pos rfl]
 | .vw a e i n,xs,b=>by
   rw[xy] at b⊢
   cases c:zq h a with
   | none=>rw[c] at b;cases b
   | some ys=>
     rw[c] at b
     rw[KI k a c]
     simp only[Option.bind_some] at b⊢
     split at b
     ·rename_i d
      rw[if_pos ⟨d.1,d.2.imp id (Wx k a)⟩]
      exact b
     ·cases b
 | .v x,_,b=>by rw[<-qHa (h:=h)];exact b
 | .ptr _ _,_,b | .ep _ _ _ _,_,b | .mp _,_,b | .ag _,_,b | .tup _,_,b | .fn _ _ _,_,b | .bad,_,b=>by cases b
theorem SlOf.keep {h h':List Ob} (k:RowsK h h') {a:AV} {e:Nat} {xs:List (List AV)} (q:SlOf h a e xs):SlOf h' a e xs:=⟨KI k a q.rows,λb=>Wx k a (q.ee b)⟩
theorem RowsK.setB {h:List Ob} {i:Nat} {t:TypeId} {cs:List AV} {o:Ob} (a:h[i]? =some (.box t cs)):RowsK h (h.set i o):=λid ty e xs st q=>by
 have:i≠id:=λe=>by rw[e,q] at a;cases a
 rw[List.getElem?_set_ne this];exact q
structure RowV where
 worker:Int
 week:Int
 err:Int
 tot:Nat->Int
 pays:Nat->Int
 earned:zF
 perf:zF
 elig:Int
 tier:Int
 extra:Int
 supp:Int
 total:Int
def Qu (r:RowV):List AV:=[i64 r.worker,i64 r.week,i64 r.err,i64 (r.tot 0),i64 (r.tot 1),i64 (r.tot 2),i64 (r.tot 3),i64 (r.tot 4),i64 (r.tot 5),i64 (r.tot 6),i64 (r.pays 0),i64 (r.pays 1),i64 (r.pays 2),i64 (r.pays 3),i64 (r.pays 4),i64 (r.pays 5),i64 (r.pays 6),i64 r.earned.1,i64 r.earned.2,i64 r.perf.1,i64 r.perf.2,i64 r.elig,i64 r.tier,i64 r.extra,i64 r.supp,i64 r.total]
abbrev xM (r:RowV) (a:AV):List AV:=[i64 r.worker,i64 r.week,i64 r.err,i64 (r.tot 0),i64 (r.tot 1),i64 (r.tot 2),i64 (r.tot 3),i64 (r.tot 4),i64 (r.tot 5),i64 (r.tot 6),i64 (r.pays 0),i64 (r.pays 1),i64 (r.pays 2),i64 (r.pays 3),i64 (r.pays 4),i64 (r.pays 5),i64 (r.pays 6),i64 r.earned.1,i64 r.earned.2,i64 r.perf.1,i64 r.perf.2,i64 r.elig,i64 r.tier,i64 r.extra,i64 r.supp,i64 r.total,a]
theorem kba {a b:List Pt} (h:a.Perm b) (k:Int):(vX a k).Perm (vX b k):=(h.filter _).map _
theorem wFa {a b:List Pt} (h:a.Perm b) (k:Int):ZP a k=ZP b k:=by
 unfold ZP
 rw[VR λt _ _=>Xe (kba h k) t]
theorem wGa (s:Setup) (L:List Seg) (w:Int) (h:L.length<=3001):(vd s L w).length<1048576:=by
 have l:=jfa s L
 have i:=jga s L
 have m:(qo (xV s L) w).length<=(zE (xV s L)).length+1:=yQ _ _ _
 have k:=zy (xV s L)
 have f:=jia s (vc s L) w
 obtain ⟨o,a⟩:∃o,o=Qq s (vc s L) w:=⟨_,rfl⟩
 rw[<-a] at f
 have key:∀j,(yB (qx (oj o j) (q8 s (oj o j))) (1+j)).length+(yB (q8 s (oj o j)) (4+j)).length<=3*(oj o j).length+1485:=λj=>by
  have a1:=jd (oj o j) (q8 s (oj o j))
  have a2:=zy (oj o j)
  have a3:=zy (q8 s (oj o j))
  have a4:=X5 s (oj o j)
  rw[vW,vW];omega
 have k0:=key 0
 have k1:=key 1
 have k2:=key 2
 have b:oj o 0=o.1:=rfl
 have c:oj o 1=o.2.1:=rfl
 have d:oj o 2=o.2.2:=rfl
 have e:vd s L w=JC s o (qo (xV s L) w) 3:=by rw[a];rfl
 rw[e,JC,JC,JC,JC]
 simp only[List.length_append]
 have g:=vW (qo (xV s L) w) 0
 rw[b] at k0;rw[c] at k1;rw[d] at k2
 rw[b,c,d]
 omega
def evR (s:Setup) (w:Int) (l:List Ev):List Ev:=(zD l).filter λe=> !xW s w e
theorem vha (s:Setup) (w:Int) (l:List Ev):(evR s w l).length<=l.length:=by
 have a:=List.length_filter_le (λe=> !xW s w e) (zD l)
 have b:=(jJ l).length_eq
 unfold evR;omega
def ZH (own:List Ev) (f:Flg):Int:=jX (((own.find? λe=>e.id==f.id).map (·.at_)).getD 0)
def jva (w wk e:Int):RowV:=⟨w,wk,e,λ_=>0,λ_=>0,(0,0),(0,0),0, -1,0,0,0⟩
def J0a (s:Setup) (own:List Ev) (w:Nat) (wk:Int):RowV:=
 let P:=wR s own w wk
 let tot:=λj:Nat=>ZP (vd s (zM s own w).1 wk) j
 let tier:=if P.err=0/\0<P.eligible then ku s P.perf else -1
 let p:=JPa s w tot P.eligible tier
 ⟨w,wk,P.err,tot,p.pays,P.earned,P.perf,P.eligible,tier,p.extra,p.supp,p.total⟩
def qG (own:List Ev) (a:List Flg) (wk:Int):List Flg:=a.filter λf=>ZH own f==wk
def zW (s:Setup) (l:List Ev) (w wk:Int):RowV × List Flg:=
 if xH s w wk≠0 then (jva w wk (xH s w wk),[]) else (J0a s (evR s w l) w.toNat wk,qG (evR s w l) (zM s (evR s w l) w).2 wk)
structure RB (h h':List Ob) (s:Setup) (a:SA) (w:Int) (y:AV) (own:List Ev) (r:RowV) (fl:AV):Prop where
 pre:Pre h h'
 b0:h'[h.length]? =some (.box 30 (zr s a))
 b1:h'[h.length+1]? =some (.box 3 [i64 w])
 b2:h'[h.length+2]? =some (.box 45 (xM ⟨0,0,0,λ_=>0,λ_=>0,(0,0),(0,0),0,0,0,0,0⟩ (.v (.slice none 0 0))))
 b3:h'[h.length+3]? =some (.box 45 (xM r fl))
 sl:SlOf h' y 11 (own.map evC)
theorem RB.put {h h':List Ob} {s:Setup} {a:SA} {w:Int} {y:AV} {own:List Ev} {r:RowV} {d:AV} (k:RB h h' s a w y own r d) (c:RowV) (b:AV):RB h (h'.set (h.length+3) (.box 45 (xM c b))) s a w y own c b:=
 ⟨k.pre.set (by omega) rfl,by rw[List.getElem?_set_ne (by omega)];exact k.b0,by rw[List.getElem?_set_ne (by omega)];exact k.b1,by rw[List.getElem?_set_ne (by omega)];exact k.b2,zh k.b3,k.sl.keep (.setB k.b3)⟩
theorem RB.app {h h':List Ob} {s:Setup} {a:SA} {w:Int} {y:AV} {own:List Ev} {r:RowV} {b:AV} (k:RB h h' s a w y own r b) {M:List Ob} (c:NoRes M):RB h (h'++M) s a w y own r b:=
 ⟨k.pre.app c,zb k.b0,zb k.b1,zb k.b2,zb k.b3,k.sl.app M⟩
theorem XWa {h:List Ob} {id ty:Nat} {xs:List (List AV)} {st:Nat} {o:Ob} (d:h[id]? =some (.row ty 2 xs st)):∀(a:AV) {rows:List (List AV)},eOf h a=some 11->zq h a=some rows->eOf (h.set id o) a=some 11/\zq (h.set id o) a=some rows
 | .sl _ _,_,b,c=>⟨b,c⟩
 | .tl i s,rows,b,c=>by
   rw[qE] at b⊢
   rw[zX] at c⊢
   obtain ⟨m,xs',st',l⟩:=jta b
   have g:id≠i:=λq=>by rw[q,l] at d;injection d with d;injection d with _ d;cases d
   rw[List.getElem?_set_ne g]
   exact ⟨b,c⟩
 | .vw a e i n,rows,b,c=>by
   rw[Ze] at b⊢
   rw[xy] at c⊢
   cases f:eOf h a with
   | none=>rw[f] at b;cases b
   | some p=>
     rw[f] at b
     simp only[Option.bind_some] at b
     split at b
     ·rename_i k
      injection b with b
      subst k
      subst b
      cases j:zq h a with
      | none=>rw[j] at c;cases c
      | some ys=>
        obtain ⟨k1,k2⟩:=XWa d a f j
        rw[k1,k2]
        rw[f,j] at c
        exact ⟨by simp,c⟩
     ·cases b
 | .v x,_,b,_=>by cases b
 | .em,_,b,_ | .ptr _ _,_,b,_ | .ep _ _ _ _,_,b,_ | .mp _,_,b,_ | .ag _,_,b,_ | .tup _,_,b,_ | .fn _ _ _,_,b,_ | .bad,_,b,_=>by cases b
theorem RB.setR {h h':List Ob} {s:Setup} {a:SA} {w:Int} {y:AV} {own:List Ev} {r:RowV} {d:AV} (k:RB h h' s a w y own r d) (c:own≠[]) {id ty:Nat} {xs:List (List AV)} {st:Nat} {o:Ob} (hid:h.length<=id) (b:h'[id]? =some (.row ty 2 xs st)) (e:o.isRes=false):RB h (h'.set id o) s a w y own r d:=by
 obtain ⟨k1,k2⟩:=XWa (o:=o) b y (k.sl.ee (by simpa using c)) k.sl.rows
 exact ⟨k.pre.set hid e,ve (h0:=h) k.b0 b,ve (h0:=h) k.b1 b,ve (h0:=h) k.b2 b,ve (h0:=h) k.b3 b,k2,λ_=>k1⟩
theorem KJ {s:Setup} {l:List Ev} {w:Int}:(zM s l w).2.length<=3*l.length+1:=by
 have c:=qT l
 have b:szT (goP s w (zD l))<=szT ⟨none,[],[]⟩+3*(zD l).length:=xIa (zD l)
 have a:szT ⟨none,[],[]⟩=0:=rfl
 have d:=Xc (s:=s) (t:=goP s w (zD l)) (at_:=32054400)
 unfold zM
 split
 ·simp only[szT] at d b a⊢
  omega
 ·simp
theorem W9 {own:List Ev} {F:List Flg} {wk:Int} {n:Nat} (h:n<F.length):qG own (F.take (n+1)) wk=if ZH own F[n]==wk then qG own (F.take n) wk++[F[n]] else qG own (F.take n) wk:=by
 unfold qG
 rw[show F.take (n+1)=F.take n++[F[n]] from (List.take_append_getElem h).symm,List.filter_append]
 cases a:ZH own F[n]==wk<;>simp[a]
theorem via {l:List Flg} {i:Nat} (h:i<l.length):(l.map xv)[i]? =some (xv l[i]):=by rw[List.getElem?_map,List.getElem?_eq_getElem h];rfl
theorem WIa (h:List Ob) (s:Setup) (a:SA) (k:SIn h s a) (f:SFit s) (x:AV) (l:List Ev) (w wk:Int) (hx:SlOf h x 11 (l.map evC)) (hl:l.length<=1000):
  ACalls Tryz.prog 18 [z6 s a,x,i64 w,i64 wk] h λr h'=>∃L y,h'=h++L/\NoRes L/\r= .ag (Qu (zW s l w wk).1++[y])/\New h 2 y ((zW s l w wk).2.map xv) L:=by
 have hex:∃r h',(∃L y,h'=h++L/\NoRes L/\r=AV.ag (Qu (zW s l w wk).1++[y])/\New h 2 y ((zW s l w wk).2.map xv) L)/\ResK h h':=
  ⟨_,_,⟨[],.sl 2 _,rfl,qh,rfl,λ_ _=>⟨rfl,λ_=>rfl⟩⟩,zR⟩
 refine jm (N:=116) (rs:=[.cell 8 45]) (fn:=Tryz.f18) rfl rfl rfl rfl (Nat.le_of_ble_eq_true rfl) rfl (hex) λB=>?_
 refine qc (by decide) ?_
 simp only[go_sem,k.ones]
 refine j5 (qc (by decide) ?_)
 simp only[go_sem]
 refine j5 (qc (by decide) ?_)
 simp only[go_sem,k.ones]
 refine zc (KVa _ s a (k.app _) f w wk) ?_
 rintro _ h1 ⟨rfl,rfl⟩
 simp only[go_sem]
 cases q0:xH s w wk != 0
 rotate_left
 ·have ο:xH s w wk≠0:=by simpa using q0
  have b:zW s l w wk=(jva w wk (xH s w wk),[]):=by unfold zW;rw[if_pos ο]
  rw[b]
  simp only[go_sem,zJ]
  refine ⟨.ag (Qu (jva w wk (xH s w wk))++[.v (.slice none 0 0)]),?_,.inl ⟨_,.v (.slice none 0 0),rfl,?_,rfl,?_⟩⟩
  ·simp only[go_sem]
   rfl
  ·exact zg rfl (zg rfl (zg rfl (zi rfl)))
  ·exact λh2 _=>⟨rfl,λh=>absurd rfl h⟩
 ·have W:xH s w wk=0:=by simpa using q0
  have b:zW s l w wk=(J0a s (evR s w l) w.toNat wk,qG (evR s w l) (zM s (evR s w l) w).2 wk):=by unfold zW;rw[if_neg (by rw[W];simp)]
  rw[b]
  simp only[go_sem,zJ,W]
  obtain ⟨κ,hw0,hw1⟩:zw s=true/\0<=w/\w<s.rates.length:=by
   unfold xH at W
   split at W
   ·cases W
   ·rename_i h1
    split at W
    ·cases W
    ·rename_i h2
     exact ⟨by simpa using h1,by omega,by omega⟩
  clear hex b
  have hol:=vha s w l
  obtain ⟨own,Q⟩:∃own,own=evR s w l:=⟨_,rfl⟩
  rw[<-Q] at hol⊢
  refine j5 (vL (λt h'=>Pre h h'/\h'[h.length]? =some (.box 30 (zr s a))/\h'[h.length+1]? =some (.box 3 [i64 w])/\h'[h.length+2]? =some (.box 45 (xM ⟨0,0,0,λ_=>0,λ_=>0,(0,0),(0,0),0,0,0,0,0⟩ (.v (.slice none 0 0))))/\h'[h.length+3]? =some (.box 45 (xM (jva w wk 0) (.v (.slice none 0 0))))/\
    SlOf h' (t 10) 11 (own.map evC)/\t 3=i64 wk/\t 4= .ptr h.length 0/\t 6= .ptr (h.length+1) 0/\t 8= .ptr (h.length+2) 0/\t 9= .ptr (h.length+3) 0) (by decide) ?_ ?_)
  ·simp only[go_sem]
   refine zc (c57 _ x l (hx.app _) (by omega)) ?_
   rintro r h1 hr
   rcases hr with ⟨rfl,rfl,rfl⟩ | ⟨rfl,rfl⟩
   ·simp only[go_sem]
    refine zc (Wya _ _ _) ?_
    rintro _ h1 ⟨rfl,rfl⟩
    simp only[go_sem]
    exact ⟨⟨_,rfl,zg rfl (zg rfl (zg rfl (zi rfl)))⟩,rfl,by rw[Q];exact ⟨rfl,λh=>absurd rfl h⟩⟩
   ·simp only[go_sem]
    refine zc (c73 _ (h.length+4) 1 (zD l) 50 [.ptr (h.length+1) 0,.ptr h.length 0] (xW s w) (by rw[zm (k:=4) rfl];rfl) (by have:=(jJ l).length_eq;omega) (λe _ o L=>WGa _ s a (by
      rw[List.set_append_right _ _ (by omega)]
      exact (k.app _).app _) h.length (h.length+1) w (zb (by rw[List.getElem?_set_ne (by omega),zo rfl];rfl)) (zb (by rw[List.getElem?_set_ne (by omega),zm (k:=1) rfl];rfl)) e)) ?_
    rintro r h1 ⟨l2,rfl,hr,hsl⟩
    simp only[go_sem]
    rw[List.set_append_right _ _ (by omega),show h.length+4 - h.length=4 by omega] at hsl
    exact ⟨⟨_,rfl,zg rfl (zg rfl (zg rfl (zg rfl (zi rfl))))⟩,rfl,by rw[Q];exact hsl⟩
  ·rintro T h' ⟨K,b0,b1,b2,b3,hy,t3,t4,t6,t8,t9⟩
   obtain ⟨y,t10⟩:∃y,T 10=y:=⟨_,rfl⟩
   rw[t10] at hy
   have hk:=K.sin k
   have hsl3:=Qt (s:=s) (l:=own) (w:=w)
   refine qc (by decide) ?_
   simp only[go_sem,t4,t6,t10,b0,b1]
   refine zc (vga _ s a hk f y own w hy (by omega)) ?_
   rintro _ h2 ⟨rfl,e2⟩
   rw[e2]
   simp only[go_sem]
   refine j5 (qc (by decide) ?_)
   simp only[go_sem,t3,t4,b0]
   refine zc (KQa _ s a hk f κ _ (zM s own w).1 wk ⟨rfl,λ_=>rfl⟩ (by omega)) ?_
   rintro _ h3 ⟨⟨q,hq,rfl⟩,e3⟩
   rw[e3]
   have hql:q.length<1048576:=by
    rw[hq.length_eq]
    exact wGa s _ wk (by omega)
   simp only[go_sem]
   refine zc (JMa _ _ q ⟨rfl,λ_=>rfl⟩ hql) ?_
   rintro _ h4 ⟨rfl,e4⟩
   rw[e4]
   have υ:(λj:Nat=>ZP q j)=λj:Nat=>ZP (vd s (zM s own w).1 wk) j:=by funext j;exact wFa hq j
   obtain ⟨tot,htt⟩:∃tot,tot=λj:Nat=>ZP (vd s (zM s own w).1 wk) j:=⟨_,rfl⟩
   rw[υ, <-htt]
   simp only[go_sem,t9,b3,jva,vD]
   have kb:=RB.put ⟨K,b0,b1,b2,b3,hy⟩ ⟨w,wk,0,tot,λ_=>0,(0,0),(0,0),0, -1,0,0,0⟩ (.v (.slice none 0 0))
   generalize hH:h'.set (h.length+3) (.box 45 (xM ⟨w,wk,0,tot,λ_=>0,(0,0),(0,0),0, -1,0,0,0⟩ (.v (.slice none 0 0))))=H at kb
   clear hH b0 b1 b2 b3 hy K hk
   have d0:=kb.b0
   have d1:=kb.b1
   have C:=kb.b3
   refine j5 (qc (by decide) ?_)
   simp only[go_sem,t3,t4,t6,t10,d0,d1]
   refine zc (c15 _ s a (kb.pre.sin k) f y own w wk kb.sl (by omega)) ?_
   rintro _ h5 ⟨rfl,e5⟩
   rw[e5]
   obtain ⟨P,hP⟩:∃P,P=wR s own w wk:=⟨_,rfl⟩
   rw[<-hP]
   have G:∀o,(H.set (h.length+3) o)[h.length+3]? =some o:=λo=>zh C
   simp only[go_sem,t9,C,G,List.set_set]
   have kc:=kb.put ⟨w,wk,P.err,tot,λ_=>0,P.earned,P.perf,P.eligible, -1,0,0,0⟩ (.v (.slice none 0 0))
   generalize hH:H.set (h.length+3) (.box 45 (xM ⟨w,wk,P.err,tot,λ_=>0,P.earned,P.perf,P.eligible, -1,0,0,0⟩ (.v (.slice none 0 0))))=H2 at kc
   clear hH kb d0 d1 C G
   refine j5 (vL (λt h2=>∃U,U=(if P.err=0/\0<P.eligible then ku s P.perf else -1)/\RB h h2 s a w y own ⟨w,wk,P.err,tot,λ_=>0,P.earned,P.perf,P.eligible,U,0,0,0⟩ (.v (.slice none 0 0))/\t 3=i64 wk/\t 4= .ptr h.length 0/\t 6= .ptr (h.length+1) 0/\t 8= .ptr (h.length+2) 0/\t 9= .ptr (h.length+3) 0/\t 10=y/\t 12= .sl 2 ((zM s own w).2.map xv)) (by decide) ?_ ?_)
   ·have d0:=kc.b0
    have C:=kc.b3
    cases q1:decide (P.err=0)
    ·have p1:¬ P.err=0:=of_decide_eq_false q1
     have Y:(P.err==0)=false:=by simpa using p1
     simp only[go_sem,t9,C,Y,zJ]
     exact ⟨-1,by rw[if_neg (λq=>p1 q.1)],kc,t3,t4,t6,t8,t10⟩
    ·have p1:P.err=0:=of_decide_eq_true q1
     have Y:(P.err==0)=true:=by simpa using p1
     cases q2:decide (P.eligible>0)
     ·have p2:¬ 0<P.eligible:=of_decide_eq_false q2
      simp only[go_sem,t9,C,Y,q2,zJ]
      exact ⟨-1,by rw[if_neg (λq=>p2 q.2)],kc,t3,t4,t6,t8,t10⟩
     ·have p2:0<P.eligible:=of_decide_eq_true q2
      have hfit:qj P.perf:=by
       have:=(JBa (w:=w) (k:=wk) (l:=own) κ (by omega) (by rw[<-hP];exact p1)).2
       rw[<-hP] at this
       exact KMa this
      simp only[go_sem,t9,C,Y,q2,zJ,t4,d0]
      refine zc (c26 _ s a (kc.pre.sin k) f P.perf hfit) ?_
      rintro _ h6 ⟨rfl,e6⟩
      rw[e6]
      simp only[go_sem,t9,C]
      exact ⟨ku s P.perf,by rw[if_pos ⟨p1,p2⟩],kc.put ⟨w,wk,P.err,tot,λ_=>0,P.earned,P.perf,P.eligible,ku s P.perf,0,0,0⟩ _,t3,t4,t6,t8,t10⟩
   ·clear kc t3 t4 t6 t8 t9 t10
    rintro T h2 ⟨U,htr,kd,t3,t4,t6,t8,t9,t10,X⟩
    have d0:=kd.b0
    have d1:=kd.b1
    have C:=kd.b3
    obtain ⟨D,hwn⟩:∃D:Nat,(D:Int)=w:=⟨w.toNat,by omega⟩
    subst hwn
    refine qc (by decide) ?_
    simp only[go_sem,t3,t4,t6,t9,d0,d1,C]
    refine zc (Y0a _ s a (kd.pre.sin k) f κ D (by omega) tot P.eligible U) ?_
    rintro _ h7 ⟨rfl,e7⟩
    rw[e7]
    obtain ⟨p,hp⟩:∃p,p=JPa s D tot P.eligible U:=⟨_,rfl⟩
    rw[<-hp]
    have G:∀o,(h2.set (h.length+3) o)[h.length+3]? =some o:=λo=>zh C
    simp only[go_sem,JQa,t9,C,G,List.set_set,vD]
    have ke:=kd.put ⟨D,wk,P.err,tot,p.pays,P.earned,P.perf,P.eligible,U,p.extra,p.supp,p.total⟩ (.v (.slice none 0 0))
    have b:J0a s own D wk=⟨D,wk,P.err,tot,p.pays,P.earned,P.perf,P.eligible,U,p.extra,p.supp,p.total⟩:=by
     rw[hp,htr,hP,htt];rfl
    rw[Int.toNat_natCast,b]
    generalize hH:h2.set (h.length+3) (.box 45 (xM ⟨D,wk,P.err,tot,p.pays,P.earned,P.perf,P.eligible,U,p.extra,p.supp,p.total⟩ (.v (.slice none 0 0))))=H3 at ke
    obtain ⟨R,hR⟩:∃R:RowV,R=⟨D,wk,P.err,tot,p.pays,P.earned,P.perf,P.eligible,U,p.extra,p.supp,p.total⟩:=⟨_,rfl⟩
    rw[<-hR] at ke⊢
    clear hH kd d0 d1 C G b
    have ω:= @XQ s own D
    obtain ⟨F,hF⟩:∃F,F=(zM s own D).2:=⟨_,rfl⟩
    have hFl:F.length<1048576:=by have:=KJ (s:=s) (l:=own) (w:=D);rw[hF];omega
    rw[<-hF] at ω X⊢
    have hgo:qG own F wk=qG own (F.take F.length) wk:=by rw[List.take_length]
    rw[hgo]
    refine j5 (qc (by decide) ?_)
    simp only[go_sem,X,List.length_map]
    refine zj (by decide) (λm T h'=>∃(n:Nat) (u:AV),n<=F.length/\RB h h' s a D y own R u/\OwnS h h' 97 2 u ((qG own (F.take n) wk).map xv)/\T 3=i64 wk/\T 8= .ptr (h.length+2) 0/\T 9= .ptr (h.length+3) 0/\T 10=y/\T 91= .sl 2 (F.map xv)/\T 92=i64 F.length/\T 93=i64 n/\m=F.length - n) F.length
     ⟨0,_,by omega,ke,.inl ⟨rfl,rfl⟩,by simp only[go_sem,t3],by simp only[go_sem,t8],by simp only[go_sem,t9],by simp only[go_sem,t10],by simp only[go_sem,X],by (simp only[go_sem]<;>rfl),by (simp only[go_sem]<;>rfl),rfl⟩ ?_
    clear ke t3 t4 t6 t8 t9 t10 X
    rintro m T h' ⟨n,u,hn,kf,ho,t3,t8,t9,t10,S,α,E,rfl⟩
    simp only[go_sem,α,E]
    refine ways (λe=>?_) (λe=>?_)
    ·have μ:=dlt e
     have b:=via μ
     have hkl:(n:Int)<F.length:=by omega
     have c:=W9 (own:=own) (wk:=wk) μ
     obtain ⟨g,hg⟩:∃g,g=F[n]:=⟨_,rfl⟩
     obtain ⟨ev,hev1,β⟩:=ω F[n] (List.getElem_mem μ)
     rw[<-hg] at b c β
     simp only[go_sem,S,E,b,hkl,t10,List.length_map,Int.toNat_natCast,Int.natCast_nonneg]
     have Z:=kf.app (M:=[.box 97 [i64 g.id,i64 g.kind]]) (zi rfl)
     have θ:=ho.app [Ob.box 97 [i64 g.id,i64 g.kind]]
     have O:(h'++[Ob.box 97 [i64 g.id,i64 g.kind]])[h'.length]? =some (.box 97 [i64 g.id,i64 g.kind]):=by rw[zo rfl];rfl
     generalize hJ:h'++[Ob.box 97 [i64 g.id,i64 g.kind]]=J at Z θ O
     have hJl:h'.length<J.length:=by rw[<-hJ];simp
     refine zc (c42 _ y 57 [.ptr h'.length 0] (own.map evC) (λr=>(KB r).id==g.id) (by rw[List.length_map];omega) (λr hr=>by obtain ⟨e,_,rfl⟩:=List.mem_map.1 hr;rfl) Z.sl (λrow b L=>by
      obtain ⟨e,_,rfl⟩:=List.mem_map.1 b
      exact WHa _ h'.length g (zb O) e)) ?_
     rintro _ h8 ⟨rfl,e8⟩
     rw[e8]
     rcases Ql (λe=>e.id==g.id) own with ⟨_,q2⟩ | ⟨A,z,R2,q1,q2,q3,q4⟩
     ·have:=q2 ev hev1
      simp[β] at this
     ·rw[q2]
      have ξ:A.length<own.length:=by rw[q1];simp
      have hfw:ZH own g=jX z.at_:=by
       unfold ZH
       have:own.find? (λe=>e.id==g.id)=some z:=by
        rw[q1,List.find?_append]
        rw[List.find?_eq_none.2 (λe W=>by simp[q4 e W])]
        simp[q3]
       rw[this];rfl
      have hrz:(own.map evC)[A.length]? =some (evC z):=by rw[q1];simp
      have hee:=Z.sl.at (i:=A.length) (by rw[List.length_map];exact ξ)
      have hrr:=Z.sl.rows
      have hkl2:(A.length:Int)<own.length:=by omega
      simp only[go_sem,t3,t10,hrr,hee,hrz,hkl2,List.length_map,Int.toNat_natCast,Int.natCast_nonneg]
      refine zc (c17 z.at_ _) ?_
      rintro _ h9 ⟨rfl,e9⟩
      rw[e9]
      rw[hfw] at c
      simp only[go_sem,t3]
      refine ways (λe3=>?_) (λe3=>?_)
      ·rw[if_pos e3] at c
       have ο:own≠[]:=λq=>by rw[q] at ξ;cases ξ
       have I:=Z.b3
       have d:∀M,(J++M)[h.length+3]? =some (.box 45 (xM R u)):=λM=>zb I
       have hgfM:∀M,(J++M)[h'.length]? =some (.box 97 [i64 g.id,i64 g.kind]):=λM=>zb O
       rcases θ with ⟨rfl,hnil⟩ | ⟨id,st,u1,rfl,u3⟩
       ·simp only[go_sem,t9,E,I,d,O]
        refine ⟨F.length - (n+1),by omega,n+1,.tl (J.length+1) 0,by omega,(Z.app (zg rfl (zi rfl))).put R _,?_,t3,t8,t10,S,α,zx (by omega) rfl,rfl⟩
        refine OwnS.setB (.inr ⟨_,0,?_,rfl,?_⟩) (d _)
        ·have:=Z.pre.len;omega
        ·rw[c,List.map_append,hnil,zm (k:=1) rfl];rfl
       ·have V:∀M,(J++M)[id]? =some (.row 97 2 ((qG own (F.take n) wk).map xv) st):=λM=>zb u3
        have φ:(((qG own (F.take n) wk).map xv).length+1)*17<=140737488355328:=by
         have:=List.length_filter_le (λf=>ZH own f==wk) (F.take n)
         rw[List.length_take] at this
         rw[List.length_map]
         unfold qG
         omega
        have γ:∀M o',((J++M).set id o')[h.length+3]? =some (.box 45 (xM R (.tl id st))):=λM o'=>ve (h0:=h) (d M) (V M)
        simp only[go_sem,t9,E,I,d,O,V,φ,γ]
        refine ⟨F.length - (n+1),by omega,n+1,.tl id (st+1),by omega,RB.put ((Z.app (zi rfl)).setR ο u1 (V _) rfl) R _,?_,t3,t8,t10,S,α,zx (by omega) rfl,rfl⟩
        refine OwnS.setB (.inr ⟨id,st+1,u1,rfl,?_⟩) (γ _ _)
        rw[c,List.map_append]
        exact zh (V _)
      ·have e3':(jX z.at_==wk)=false:=by simpa using e3
       rw[e3'] at c
       simp only[Bool.false_eq_true,if_false] at c
       simp only[go_sem,E]
       exact ⟨F.length - (n+1),by omega,n+1,u,by omega,Z,by rw[c];exact θ,t3,t8,t9,t10,S,α,zx (by omega) rfl,rfl⟩
    ·have hge:=qU e
     have hn2:n=F.length:=by omega
     subst hn2
     simp only[go_sem]
     refine j5 (zL _ (by decide) ?_)
     have ι:=kf.b2
     have I:=kf.b3
     have hxo:=ho.rows.one
     simp only[go_sem,t8,t9,ι,I,hxo]
     have χ:=ho.setB (o:= .box 45 (xM R u)) ι
     have hp2:Pre h (h'.set (h.length+2) (.box 45 (xM R u))):=kf.pre.set (by omega) rfl
     have hb4:(h'.set (h.length+2) (.box 45 (xM R u)))[h.length+2]? =some (.box 45 (xM R u)):=zh ι
     refine ⟨.ag (Qu R++[u]),?_,.inl ?_⟩
     ·have hb5:(h'.set (h.length+2) (.box 45 [i64 R.worker,i64 R.week,i64 R.err,i64 (R.tot 0),i64 (R.tot 1),i64 (R.tot 2),i64 (R.tot 3),i64 (R.tot 4),i64 (R.tot 5),i64 (R.tot 6),i64 (R.pays 0),i64 (R.pays 1),i64 (R.pays 2),i64 (R.pays 3),i64 (R.pays 4),i64 (R.pays 5),i64 (R.pays 6),i64 R.earned.1,i64 R.earned.2,i64 R.perf.1,i64 R.perf.2,i64 R.elig,i64 R.tier,i64 R.extra,i64 R.supp,i64 R.total,u]))[h.length+2]? =some (.box 45 (xM R u)):=hb4
      simp only[go_sem,t8,hb5]
      rfl
     ·obtain ⟨L,hL,hN⟩:=hp2
      refine ⟨L,u,hL,hN,rfl,?_⟩
      rw[hL] at χ
      exact χ.new (Nat.le_refl _)
theorem WJa (h:List Ob) (s:Setup) (a:SA) (k:SIn h s a) (f:SFit s) (x:AV) (l:List Ev) (w wk:Int) (c:SlOf h x 11 (l.map evC)) (b:l.length<=1000):
  ACalls Tryz.prog 18 [z6 s a,x,i64 w,i64 wk] h λr h'=>r= .ag (Qu (zW s l w wk).1++[.sl 2 ((zW s l w wk).2.map xv)])/\h'=h:=
 W8 (by decide) rfl (zOa _) (WIa h s a k f x l w wk c b)
end Go.Proofs.YtfmldcilgbbimaaGreat.Ax
