import Derived.Test.YtigdlmpjijhpaaaGreatKA
import Derived.Test.YtigdlmpjijhpaaaGreatK37
import Derived.Lib.AppendZeros
import Derived.Test.YtigdlmpjijhpaaaGreatK34
import Derived.Test.YtigdlmpjijhpaaaGreatK30
import Derived.Test.YtigdlmpjijhpaaaGreatK31
import Derived.Test.YtigdlmpjijhpaaaGreatK27
import Derived.Test.YtigdlmpjijhpaaaGreatK32
import Derived.Test.YtigdlmpjijhpaaaGreatK23
set_option linter.all false
namespace Go.Proofs.YtigdlmpjijhpaaaGreat.Ax
open Go Go.Proofs Go.RowKit Go.Lib
set_option maxRecDepth 100000
theorem ySa:∃i,Tryz.prog.info? 3=some i/\i.zero=some (.int .i64 0)/\i.size=1/\i.bytes=8:=by
 have h:(Tryz.prog.info? 3).map (λi=>(i.zero,i.size,i.bytes))=some (some (.int .i64 0),1,8):=by kernel_rfl
 cases hi:Tryz.prog.info? 3 with
 | none=>rw[hi] at h;cases h
 | some i=>
   rw[hi] at h
   injection h with h
   injection h with h1 h2
   injection h2 with h2 h3
   exact⟨i,rfl,h1,h2,h3⟩
theorem Wka{N:Nat}{B:Bs}{w:World}{g:Gh}{h:List Ob}{a:Act}{T b:Env}(r:Rel N B w g h a T)(c:∀i,b i=T i∨b i= .bad):Rel N B w g h a b:=
 ⟨r.ok,r.hB,λi=>by
  rcases c i with e|e
  ·rw[e];exact r.t i
  ·rw[e];trivial,r.d,r.n⟩
theorem yTa{P:Program}{N:Nat}{B:Bs}{φ:Nat->Ob}{ops:Array Oper}{o:Oper}{l:List Oper}{T:Env}{h h':List Ob}{x:AV}{w:World}{g:Gh}{a:Act}{Q:Exit->Act->World->Prop}(n:Upto φ h.length)(j:vv N o=true)(p:o.guard=none)(k:yM T o.op=none)
  (d:qh P T h o.op=some (x,h')) (r:Rel N B w g (fill φ h) a T) (next:∀g' w' c,ResK h h'->Rel N B w' g' (fill φ h') c (jc T o.dst x)->Good B.b w g (fill φ h) w' g' (fill φ h')->wpListIn Fence.wide 0 P ops Q l c w'):wpListIn Fence.wide 0 P ops Q (o::l) a w:=by
 unfold wpListIn
 rw[if_pos (by simp[Region.wanted,p])]
 refine Yv (K:=λe f=>e=jc T o.dst x/\f=h') 0 n j ?_ r ?_
 ·unfold Yu
  rw[k]
  unfold yl
  rw[d]
  exact⟨rfl,rfl⟩
 ·rintro e f w' c ⟨rfl,rfl⟩ ⟨g',q,i,m⟩
  exact next g' w' c q i m
theorem kKa(w:World)(b:Nat):(Instr.sliceAt 42 (.pointer (some ⟨b,0,none⟩)) none none none).run Tryz.prog w= .ok (.slice (some ⟨b,0,none⟩) 7 7) w:=by
 obtain⟨i,hi,e,d,c⟩:=ySa
 have a:Tryz.prog.underlying 42=some (.array 7 3):=Tryz.underlying42
 simp[Instr.sliceAt,Instr.sureAddr,run_underlying a,Instr.sliceBounds,sizeOf,typeInfo,hi,Addr.add_lit]
set_option maxHeartbeats 1000000 in
theorem Wla{N:Nat}{B:Bs}{T:Env}{h:List Ob}{Q:xV}{id i p q d A m d3:Nat}{ops:Array Oper}{U o1 o2 O:Oper}{rest:List Oper}(f:Nat->Int)(v:Int)(L:ops.toList=U::o1::o2::O::rest)
  (hd:ops.toList.all (vv N)=true) (e0:U.op= .slice 42 (.tmp p) none none none) (s0:U.dst=some d) (g0:U.guard=none)
  (e1:o1.op= .move (.tmp q)) (s1:o1.dst=some A) (g1:o1.guard=none)
  (e2:o2.op= .buildSlice 27 1 #[(0,.tmp A)]) (s2:o2.dst=some m) (g2:o2.guard=none)
  (e3:O.op= .call { callee:= .builtin .append,args:= #[.tmp d,.tmp m],argTypes:= #[27,27] }) (s3:O.dst=some d3) (g3:O.guard=none)
  (n01:A≠d) (n02:m≠d) (nq:q≠d)
  (hp:T p= .ptr i 0) (hb:h[i]? =some (.box 42 (yH f))) (hq:T q=i64 v)
  (k:wpR Tryz.prog ops (Q .normal) rest (upd (upd (upd (upd T d .bad) A (i64 v)) m (.tl h.length 0)) d3 (.tl (h.length+1) 0)) (h++[.row 3 1 [[i64 v]] 0]++[.row 3 1 ([f 0,f 1,f 2,f 3,f 4,f 5,f 6,v].map qn) 0])):
  AWp Tryz.prog N B (.region id ops false) Q T h:=λφ hu w g a r=>by
 refine(wpIn_wide (n:=0)).1 (wpIn_region ?_)
 rw[List.range_eq_range', <-qF,wpOpsIn_eq_wpListIn ops.toList 0 (by simp),L]
 rw[L] at hd
 simp only[List.all_cons,zq] at hd
 obtain⟨hd0,hd1,hd2,hd3,hdr⟩:=hd
 have s:=r.t p
 rw[hp] at s
 obtain⟨Z,s⟩:=s
 have s:a.eval (.tmp p)= .pointer (some ⟨g.β i,0,none⟩):=s
 have c0:U.wpIn Fence.wide 0 Tryz.prog a w (wpListIn Fence.wide 0 Tryz.prog ops (λe S w'=>∃o h',Q e o h'/\Aft N B φ w g h o h' S w') (o1::o2::O::rest)) (λe S w'=>∃o h',Q e o h'/\Aft N B φ w g h o h' S w'):=by
  refine Qv 0 ?_
  unfold Oper.wp
  have σ:(execOp a.eval U).run Tryz.prog w= .ok (.value (.slice (some ⟨g.β i,0,none⟩) 7 7)) w:=by
   obtain⟨dst,op,type,pos,after,guard⟩:=U
   simp only at e0
   subst e0
   have:=kKa w (g.β i)
   simp only[execOp,s]
   simp[this]
  rw[σ]
  show wpListIn Fence.wide 0 Tryz.prog ops _ (o1::o2::O::rest) (a.put U.dst (.slice (some ⟨g.β i,0,none⟩) 7 7)) w
  have r1:=wV (x:= .v (.slice (some ⟨g.β i,0,none⟩) 7 7)) (v:= .slice (some ⟨g.β i,0,none⟩) 7 7) r (Good.refl r.ok r.hB) rfl hd0
  rw[s0] at r1⊢
  obtain⟨M,η⟩:∃M,M=Value.slice (some ⟨g.β i,0,none⟩) 7 7:=⟨_,rfl⟩
  rw[<-η] at r1⊢
  obtain⟨V,H⟩:∃V,V=jc T (some d) (.v M):=⟨_,rfl⟩
  rw[<-H] at r1
  have t1q:V q=i64 v:=by rw[H];show upd T d _ q=_;unfold upd;rw[if_neg nq];exact hq
  have t1d:V d= .v M:=by rw[H];show upd T d _ d=_;unfold upd;rw[if_pos rfl]
  refine yTa (x:=i64 v) (h':=h) hu hd1 g1 (by rw[e1];rfl) (by rw[e1];simp only[qh,ev,t1q]) r1 ?_
  intro g2' w2 a2 q1 r2 k2
  rw[s1] at r2
  obtain⟨W,I⟩:∃W,W=jc V (some A) (i64 v):=⟨_,rfl⟩
  rw[<-I] at r2
  have t2d:W d= .v M:=by rw[I];show upd V A _ d=_;unfold upd;rw[if_neg (Ne.symm n01)];exact t1d
  have t2v:W A=i64 v:=by rw[I];show upd V A _ A=_;unfold upd;rw[if_pos rfl]
  refine yTa (x:= .tl h.length 0) (h':=h++[.row 3 1 [[i64 v]] 0]) hu hd2 g2 (by rw[e2];rfl) (by rw[e2];simp only[qh,jG,go_sem,evs,ev,t2v]) r2 ?_
  intro z c a3 q2 E k3
  rw[s2] at E
  obtain⟨T3,K⟩:∃T3,T3=jc W (some m) (.tl h.length 0):=⟨_,rfl⟩
  rw[<-K] at E
  have t3d:T3 d= .v M:=by rw[K];show upd W m _ d=_;unfold upd;rw[if_neg (Ne.symm n02)];exact t2d
  have t3v:T3 m= .tl h.length 0:=by rw[K];show upd W m _ m=_;unfold upd;rw[if_pos rfl]
  obtain⟨C,J⟩:∃C,C=h++[.row 3 1 [[i64 v]] 0]:=⟨_,rfl⟩
  rw[<-J] at E k3 q2 k
  have hl3:C.length=h.length+1:=by rw[J];simp
  have κ:Upto φ C.length:=hu.mono (by omega)
  have hb3:C[i]? =some (.box 42 (yH f)):=by rw[J];exact ze hb
  have hr3:C[h.length]? =some (.row 3 1 [[i64 v]] 0):=by rw[J,zM rfl];rfl
  have kk:=k2.trans k3
  have hβ:z.β i=g.β i:=kk.le.β i Z
  have w0:a3.eval (.tmp d)=M:=by
   have:=E.t d
   rw[t3d] at this
   exact this
  have θ:=E.t m
  rw[t3v] at θ
  obtain⟨_,_,ρ⟩:=θ
  have R:=qL (φ:=φ) hr3 rfl
  have e4:a3.eval (.tmp m)=z.cur h.length:=(ρ 0 (by simp[ctx,R,Ob.tok])).2 rfl
  obtain⟨_,_,cells,c2,c3⟩:=E.ok.ok _ _ R
  obtain⟨u,rr,z1,z2,z3⟩:=c3
  have z2:u= .int .i64 v:=z2
  have z3:rr=[]:=z3
  subst z1 z2 z3
  have X:=(Yi E.ok (qL (φ:=φ) hb3 rfl)).vals
  obtain⟨vs,v1,v2⟩:=X
  rw[hβ] at v2
  have F:vs.length=7:=by rw[<-wA v1];rfl
  obtain⟨ii,hi,hz,hs,hby⟩:=ySa
  rcases c2.2 with⟨_,e5⟩|⟨gg,cap,cur,e5,e6,e7,e8,e9,e10,e11⟩
  ·cases e5
  ·have e5:z.cur h.length= .slice (some ⟨gg,0,none⟩) 1 cap:=e5
   have D:=run_append_grow (P:=Tryz.prog) c 27 O.type 3 ii (.int .i64 0) Tryz.underlying27 hi hz ⟨g.β i,0,none⟩ 7 7 vs (by rw[hs,F]) v2 ⟨gg,0,none⟩ 1 cap [.int .i64 v] (by rw[hs];rfl) (λj x hx=>by
     have hj:j=0:=by
      cases j with
      | zero=>rfl
      | succ j=>simp at hx
     subst hj
     have hx:x= .int .i64 v:=by simpa using hx.symm
     subst hx
     have:cur[0]? =some (.int .i64 v):=by
      have:=congrArg (λl:List Value=>l[0]?) e11
      simpa [qY] using this
     simp[World.cell?,e7,Addr.add_lit,this]) (by omega) (by omega) (growslice_fits (by omega) (by rw[hby];omega))
   have ν:=grownCap_ge c 8 7 3
   have ι:=grownCap_le_maxLen c 8 7 3 (by unfold maxLen;omega)
   obtain⟨G,hG⟩:∃G,G=grownCap c (7+1) 7 3:=⟨_,rfl⟩
   have hG8:grownCap c 8 7 3=G:=hG.symm
   rw[hG8] at ν ι
   rw[<-hG] at D
   obtain⟨cs,Y⟩:∃cs:Array Value,cs=vs.toArray++ #[Value.int .i64 v]++Builtin.zeroCells (Value.int .i64 0).cells (G - (7+1)):=⟨_,rfl⟩
   have ο:(vs.toArray++[Value.int .i64 v].toArray++Builtin.zeroCells (Value.int .i64 0).cells (G - (7+1)))=cs:=Y.symm
   rw[ο] at D
   have hsz:cs.size=G*1:=by
    rw[Y]
    simp only[Array.size_append,qYa,List.size_toArray,F]
    simp[Value.cells];omega
   have htk:cs.toList.take (8*1)=vs++[.int .i64 v]:=by
    rw[Y]
    simp only[Array.toList_append,List.toList_toArray]
    rw[qE (by simp[F])]
    rw[List.take_of_length_le (by simp[F])]
   have ζ:ARs (ctx c z (fill φ C)) ([f 0,f 1,f 2,f 3,f 4,f 5,f 6,v].map qn).flatten (vs++[.int .i64 v]):=by
    have:=vT v1 (show ARs (ctx c z (fill φ C)) [i64 v] [.int .i64 v] from⟨_,_,rfl,rfl,rfl⟩)
    exact this
   have μ:Below c.heap.size c (c.drew.alloc (.cells cs 3)):=(show Below c.heap.size c c.drew from⟨rfl,rfl,rfl,zo _,λ_ _=>rfl⟩).alloc (zo _) _
   obtain⟨m1,m2⟩:=JO E.ok E.hB (ty:=3) (e:=1) (by decide) (xs:=[f 0,f 1,f 2,f 3,f 4,f 5,f 6,v].map qn) (λx hx=>by
     obtain⟨y,_,rfl⟩:=zr.1 hx
     rfl) (v':= .slice (some ⟨c.heap.size,0,none⟩) 8 G) 0 μ
    ⟨by rw[zf,F];rfl,.inr ⟨c.heap.size,G,cs,rfl,E.hB,heap_alloc_new c.drew _,ν,ι,hsz,htk⟩⟩ ζ (λb hb=>by injection hb with hb;subst hb;exact zo _)
   have hfl:fill φ (C++[.row 3 1 ([f 0,f 1,f 2,f 3,f 4,f 5,f 6,v].map qn) 0])=fill φ C++[.row 3 1 ([f 0,f 1,f 2,f 3,f 4,f 5,f 6,v].map qn) 0]:=jW κ
   rw[jo] at m1 m2
   rw[<-hfl] at m1 m2
   have c3:O.wpIn Fence.wide 0 Tryz.prog a3 c (wpListIn Fence.wide 0 Tryz.prog ops (λe S w'=>∃o h',Q e o h'/\Aft N B φ w g h o h' S w') rest) (λe S w'=>∃o h',Q e o h'/\Aft N B φ w g h o h' S w'):=by
    refine Qv 0 (wp_append_run c (.tmp d) (.tmp m) 27 27 e3 M (.slice (some ⟨gg,0,none⟩) 1 cap) w0 (by rw[e4,e5]) (.slice (some ⟨c.heap.size,0,none⟩) 8 G) (c.drew.alloc (.cells cs 3)) (by rw[η];exact D) ?_)
    have r4:=wV (x:= .tl C.length 0) (v:= .slice (some ⟨c.heap.size,0,none⟩) 8 G) E m1 m2 hd3
    rw[s3] at r4⊢
    have r5:Rel N B _ _ _ _ (upd (upd (upd (upd T d .bad) A (i64 v)) m (.tl h.length 0)) d3 (.tl (h.length+1) 0)):=Wka r4 (λj=>by
     rw[K,I,H,hl3]
     simp only[jc,upd]
     by_cases j3:j=d3
     ·rw[if_pos j3,if_pos j3];exact .inl rfl
     ·rw[if_neg j3,if_neg j3]
      by_cases j2:j=m
      ·rw[if_pos j2,if_pos j2];exact .inl rfl
      ·rw[if_neg j2,if_neg j2]
       by_cases j1:j=A
       ·rw[if_pos j1,if_pos j1];exact .inl rfl
       ·rw[if_neg j1,if_neg j1]
        by_cases j0:j=d
        ·rw[if_pos j0];exact .inr rfl
        ·rw[if_neg j0,if_neg j0];exact .inl rfl)
    refine Zu rest hdr (κ.mono (by rw[zf];omega)) (xYa _ k) r5 ?_
    intro o h' w' S q hq4
    refine⟨o,h',q,hq4.trans ?_ ((k2.trans k3).trans m1)⟩
    exact(q1.trans q2).trans resK_app
   unfold wpListIn
   rw[if_pos (by simp[Region.wanted,g3])]
   exact c3
 unfold wpListIn
 rw[if_pos (by simp[Region.wanted,g0])]
 exact c0
end Go.Proofs.YtigdlmpjijhpaaaGreat.Ax
namespace Go.Proofs.YtigdlmpjijhpaaaGreat.Ax
open Go Go.Proofs
set_option maxRecDepth 100000
section
variable {P:Program} {N:Nat} {B:Bs} {Q:xV} {T:Env} {h:List Ob}
theorem jS{c:Code}(k:AWp P N B c Q T h): @Z7 P N B ⟨(c,Q)⟩ T h:=k
theorem qG{c c':Code}(a:okC N c=true)(k:wpC P N B c (yS (λT h=> @Z7 P N B ⟨(c',Q)⟩ T h) Q) T h):AWp P N B (.seq c c') Q T h:=Z6 (qD _ a k)
theorem X6a{c c':Code}(k:AWp P N B c (yS (λT h=> @Z7 P N B ⟨(c',Q)⟩ T h) Q) T h):AWp P N B (.seq c c') Q T h:=Z6 k
theorem xr{c c':Code}(S:Env->List Ob->Prop)(a:okC N c=true)(k1:wpC P N B c (yS S Q) T h)(k2:∀T h,S T h->AWp P N B c' Q T h):AWp P N B (.seq c c') Q T h:=
 Z6 ((qD _ a k1).mono λe T h q=>by cases e<;>first|exact k2 _ _ q|exact q)
end
def Xf(s:Setup)(w:Nat):Int:=s.rates.getD w 0
def vM(s:Setup)(w:Nat)(t:Nat->Int)(j:Nat):Int:=if j=0 then 0 else qka (wr (Jm (t j)*ZQ s (Xf s w) j)) 7200
def JH(t:Nat->Int):Nat->Int
 | 0=>0
 | j+1=>if j=0 then 0 else wr (JH t j+Jm (t j))
def WI(s:Setup)(i:Nat):Int:=(s.tiers.getD i (0,0)).2
def vN(s:Setup)(g tier:Int):Int:=if 0<=tier/\tier<s.tiers.length then qka (wr (Jm g*WI s tier.toNat)) 3600 else 0
structure PayR where
 pays:Nat->Int
 extra:Int
 supp:Int
 total:Int
def j4a(s:Setup)(w:Nat)(t:Nat->Int)(g tier:Int):PayR:=
 let p:=vM s w t
 let e:=vN s g tier
 let sum:=(Ku 0 [p 0,p 1,p 2,p 3,p 4,p 5,p 6,e]).1
 let least:=(upI (wr (JH t 7*s.least)) 3600).1
 let supp:=max 0 (wr (least - sum))
 ⟨p,e,supp,wr (sum+supp)⟩
def Wma(p:PayR):AV:= .tup [.ag (yH p.pays),i64 p.extra,i64 p.supp,i64 p.total,i64 0]
structure PB (h h':List Ob) (s:Setup) (a:SA) (t u:Nat->Int):Prop where
 pre:Pre h h'
 set_:h'[h.length]? =some (.box 30 (qg s a))
 tot:h'[h.length+1]? =some (.box 42 (yH t))
 pay:h'[h.length+2]? =some (.box 42 (yH u))
theorem PB.app{h h':List Ob}{s:Setup}{a:SA}{t u:Nat->Int}(k:PB h h' s a t u){M:List Ob}(b:NoRes M):PB h (h'++M) s a t u:=⟨k.pre.app b,ze k.set_,ze k.tot,ze k.pay⟩
theorem PB.put{h h':List Ob}{s:Setup}{a:SA}{t u b:Nat->Int}(k:PB h h' s a t u):PB h (h'.set (h.length+2) (.box 42 (yH b))) s a t b:=
 ⟨k.pre.set (by omega) rfl,by rw[zc (by omega)];exact k.set_,by rw[zc (by omega)];exact k.tot,zm k.pay⟩
theorem kgb(h:List Ob)(s:Setup)(a:SA)(k:SIn h s a)(f:SFit s)(θ:z6 s=true)(w:Nat)(hw:w<s.rates.length)(t:Nat->Int)(g tier:Int):
  ACalls Tryz.prog 60 [je s a,i64 w,.ag (yH t),i64 g,i64 tier] h λr h'=>r=Wma (j4a s w t g tier)/\h'=h:=by
 have φ:=k.r.rows
 refine jN (N:=105) (rs:=[.cell 10 42,.tmp 11,.tmp 12,.tmp 13,.tmp 14]) (fn:=Tryz.f60) rfl rfl rfl rfl (qo rfl) rfl (⟨_,_,⟨rfl,rfl⟩,.refl⟩) λB=>?_
 refine qG (by decide) ?_
 simp only[go_sem,k.ones]
 refine jS (qG (by decide) ?_)
 simp only[go_sem,k.ones]
 refine zg (c16 _ s a (k.app _) f) ?_
 rintro _ J ⟨rfl,rfl⟩
 simp only[go_sem,θ,qt,Bool.not_true]
 refine jS (qG (by decide) ?_)
 have R:decide ((w:Int)<0)=false:=by rw[decide_eq_false_iff_not];omega
 have K:decide ((w:Int)≥(s.rates.length:Int))=false:=by rw[decide_eq_false_iff_not];omega
 have Z:∀M,qa (h++M) a.r=some (s.rates.map qn):=λM=>(k.app M).r.rows
 simp only[go_sem,R,qt,Z,K,zb]
 refine jS (qG (by decide) ?_)
 simp only[go_sem]
 refine jS (qG (by decide) ?_)
 simp only[go_sem]
 refine zI (by decide) (λm T h'=>∃n:Nat,n<=7/\PB h h' s a t (λj=>if j<n then vM s w t j else 0)/\T 1=i64 w/\T 3=i64 g/\T 4=i64 tier/\T 5= .ptr h.length 0/\T 7= .ptr (h.length+1) 0/\T 10= .ptr (h.length+2) 0/\T 11=i64 0/\T 15=i64 (JH t n)/\T 34=i64 n/\m=7 - n) 7
  ⟨0,by omega,⟨⟨_,rfl,zl rfl (zl rfl (zD rfl))⟩,by rw[zM rfl];rfl,by rw[zG (k:=1) rfl];rfl,by rw[zG (k:=2) rfl];rfl⟩,by simp only[go_sem],by simp only[go_sem],by simp only[go_sem],by simp only[go_sem],by simp only[go_sem],by simp only[go_sem],by simp only[go_sem],by(simp only[go_sem]<;>rfl),by(simp only[go_sem]<;>rfl),rfl⟩ ?_
 rintro m T h' ⟨n,hn,u,t1,t3,t4,t5,V,t10,o,v,x,rfl⟩
 simp only[go_sem,x]
 refine ways (λe=>?_) (λe=>?_)
 ·have y:(n:Int)<7:=of_decide_eq_true e
  have l:n<7:=by omega
  simp only[go_sem,x]
  refine ways (λe0=>?_) (λe0=>?_)
  ·have D:n=0:=by simpa using e0
   subst D
   simp only[go_sem,x]
   have hu:(λj:Nat=>if j<0+1 then vM s w t j else 0)=λj=>if j<0 then vM s w t j else 0:=by
    funext j
    by_cases hj:j=0
    ·subst hj;rfl
    ·rw[if_neg (by omega),if_neg (by omega)]
   exact⟨6,by omega,1,by omega,by rw[hu];exact u,t1,t3,t4,t5,V,t10,o,v,rfl,rfl⟩
  ·have D:¬ n=0:=by simpa using e0
   have ε:=u.tot
   have hg:=X3a t l
   simp only[go_sem,V,x,ε,hg,y,l,Nat.mul_one,Nat.zero_add,Int.toNat_natCast,zh]
   refine zg (kJa _ _) ?_
   rintro _ A ⟨rfl,e2⟩
   rw[e2]
   simp only[go_sem,v]
   refine zL rfl [] 0 [(0,0,[]),(1,0,[]),(3,0,[]),(5,0,[]),(8,0,[]),(2,0,[]),(4,0,[]),(6,0,[]),(7,0,[]),(9,0,[]),(10,0,[]),(11,0,[]),(12,0,[]),(13,0,[])] rfl (by decide) (by decide) ?_
   have b:=u.set_
   have z:=u.pay
   have d:=((u.pre.sin k).r).rows
   have I:=((u.pre.sin k).r).at (i:=w) (by rw[zb];exact hw)
   have c:(s.rates.map qn)[w]? =some [i64 (Xf s w)]:=by
    rw[zz,zj hw]
    simp[Xf,List.getD,hw,qn]
   have H:(w:Int)<s.rates.length:=by omega
   have E:=kHa (λj=>if j<n then vM s w t j else 0) l (vM s w t n)
   have β:(λj:Nat=>if j=n then vM s w t n else if j<n then vM s w t j else 0)=λj:Nat=>if j<n+1 then vM s w t j else 0:=by
    funext j
    by_cases J:j=n
    ·subst J;rw[if_pos rfl,if_pos (by omega)]
    ·rw[if_neg J]
     by_cases A:j<n
     ·rw[if_pos A,if_pos (by omega)]
     ·rw[if_neg A,if_neg (by omega)]
   rw[β] at E
   simp only[go_sem,t1,t5,t10,x,b,z,d,I,c,H,y,l,zb,Nat.mul_one,Nat.zero_add,Int.toNat_natCast,zh]
   refine zg (zCb _ s a (u.pre.sin k) (Xf s w) n (by omega)) ?_
   rintro _ h3 ⟨rfl,S⟩
   rw[S]
   simp only[go_sem,t1,t5,t10,x,b,z,d,I,c,H,y,l,zb,Nat.mul_one,Nat.zero_add,Int.toNat_natCast,zh]
   refine zg (YGa _ _ _) ?_
   rintro _ h4 ⟨rfl,O⟩
   rw[O]
   have X:qka (IntKind.wrap .i64 (Jm (t n)*ZQ s (Xf s w) n)) 7200=vM s w t n:=by unfold vM;rw[if_neg D]
   rw[X]
   simp only[go_sem,t1,t5,t10,x,b,z,d,I,c,H,E,y,l,zb,Nat.mul_one,Nat.zero_add,Int.toNat_natCast,zh]
   exact⟨7 - (n+1),by omega,n+1,by omega,u.put,t3,t4,V,o,by rw[JH,if_neg D],qf (by omega) rfl,rfl⟩
 ·have K:¬ (n:Int)<7:=of_decide_eq_false e
  have ζ:n=7:=by omega
  subst ζ
  simp only[go_sem]
  have χ:(λj:Nat=>if j<7 then vM s w t j else 0)=λj:Nat=>if j<7 then vM s w t j else 0:=rfl
  refine jS (xr (λQ A=>PB h A s a t (λj=>if j<7 then vM s w t j else 0)/\Q 5= .ptr h.length 0/\Q 10= .ptr (h.length+2) 0/\Q 11=i64 (vN s g tier)/\Q 15=i64 (JH t 7)) (by decide) ?_ ?_)
  ·have b:=u.set_
   have d:=((u.pre.sin k).t).rows
   simp only[go_sem,t4,t5,b,d,zb]
   cases P:decide (tier≥0)
   ·have J:¬ tier≥0:=of_decide_eq_false P
    have hex:vN s g tier=0:=by unfold vN;rw[if_neg (λq=>J q.1)]
    simp only[go_sem,P,qt]
    rw[hex]
    exact⟨u,t5,t10,o,v⟩
   ·have J:0<=tier:=of_decide_eq_true P
    cases W:decide (tier<s.tiers.length)
    ·have A:¬ tier<s.tiers.length:=of_decide_eq_false W
     have hex:vN s g tier=0:=by unfold vN;rw[if_neg (λq=>A q.2)]
     simp only[go_sem,P,W,qt,t4,t5,b,d,zb]
     rw[hex]
     exact⟨u,t10,o,v⟩
    ·have A:tier<s.tiers.length:=of_decide_eq_true W
     simp only[go_sem,P,W,qt,t4,t5,b,d,zb]
     obtain⟨C,γ⟩:∃C:Nat,(C:Int)=tier:=⟨tier.toNat,by omega⟩
     subst γ
     have y:C<s.tiers.length:=by omega
     have F:=((u.pre.sin k).t).at (i:=C) (by rw[zb];exact y)
     have c:(s.tiers.map jH)[C]? =some [i64 (s.tiers.getD C (0,0)).1,i64 (s.tiers.getD C (0,0)).2]:=by
      rw[zz,zj y]
      simp[List.getD,y,jH]
     have hex:vN s g C=qka (wr (Jm g*WI s C)) 3600:=by unfold vN;rw[if_pos ⟨by omega,A⟩];rfl
     refine zL rfl [] 0 [(0,0,[]),(2,0,[]),(4,0,[]),(3,0,[]),(5,0,[]),(6,0,[]),(7,0,[]),(1,0,[3,5,7]),(8,0,[]),(9,0,[]),(10,0,[])] rfl (by decide) (by decide) ?_
     simp only[go_sem,t3,t4,t5,b,d,F,c,A,zb,Int.toNat_natCast,zh]
     refine zg (kJa _ _) ?_
     rintro _ h3 ⟨rfl,S⟩
     rw[S]
     simp only[go_sem,t3,t4,t5,b,d,F,c,A,zb,Int.toNat_natCast,zh]
     refine zg (YGa _ _ _) ?_
     rintro _ h4 ⟨rfl,O⟩
     rw[O]
     rw[show qka (IntKind.wrap .i64 (Jm g*(s.tiers.getD C (0,0)).2)) 3600=vN s g C from hex.symm]
     simp only[go_sem,t3,t4,t5,b,d,F,c,A,zb,Int.toNat_natCast,zh]
     exact⟨u,t10,v⟩
  ·clear t1 t3 t4 t5 V t10 o v x u
   rintro Q A ⟨u,t5,t10,o,v⟩
   refine X6a (Wla (λj=>if j<7 then vM s w t j else 0) (vN s g tier) rfl (by decide) rfl rfl rfl rfl rfl rfl rfl rfl rfl rfl rfl rfl (by decide) (by decide) (by decide) t10 u.pay o ?_)
   simp only[go_sem]
   obtain⟨p,hp⟩:∃p,p=vM s w t:=⟨_,rfl⟩
   obtain⟨e,Y⟩:∃e,e=vN s g tier:=⟨_,rfl⟩
   rw[<-hp, <-Y]
   refine zg (kfb _ (.tl (A.length+1) 0) [p 0,p 1,p 2,p 3,p 4,p 5,p 6,e] ⟨by rw[qZ,zG (k:=1) rfl];rfl,λ_=>by rw[jP,zG (k:=1) rfl];rfl⟩ (by show 8<1048576;decide)) ?_
   rintro _ h3 ⟨rfl,S⟩
   rw[S]
   simp only[go_sem,XO]
   refine jS (qG (by decide) ?_)
   have G:=(u.app (M:=[.row 3 1 [[i64 e]] 0,.row 3 1 [qn (p 0),qn (p 1),qn (p 2),qn (p 3),qn (p 4),qn (p 5),qn (p 6),qn e] 0]) (zl rfl (zD rfl)))
   have b:=G.set_
   have z:(A++[.row 3 1 [[i64 e]] 0,.row 3 1 [qn (p 0),qn (p 1),qn (p 2),qn (p 3),qn (p 4),qn (p 5),qn (p 6),qn e] 0])[h.length+2]? =some (.box 42 (yH p)):=by
    have:=G.pay
    rw[show(yH λj=>if j<7 then vM s w t j else 0)=yH p by rw[hp];rfl] at this
    exact this
   simp only[go_sem,t5,v,b]
   refine zg (cUp _ _ _) ?_
   rintro _ h4 ⟨rfl,O⟩
   rw[O]
   simp only[go_sem,XO]
   refine jS (qD _ (by decide) ?_)
   have hq:j4a s w t g tier=⟨p,e,max 0 (wr ((upI (wr (JH t 7*s.least)) 3600).1 - (Ku 0 [p 0,p 1,p 2,p 3,p 4,p 5,p 6,e]).1)),wr ((Ku 0 [p 0,p 1,p 2,p 3,p 4,p 5,p 6,e]).1+max 0 (wr ((upI (wr (JH t 7*s.least)) 3600).1 - (Ku 0 [p 0,p 1,p 2,p 3,p 4,p 5,p 6,e]).1)))⟩:=by rw[hp,Y];rfl
   rw[hq]
   obtain⟨S0,σ⟩:∃S0,S0=(Ku 0 [p 0,p 1,p 2,p 3,p 4,p 5,p 6,e]).1:=⟨_,rfl⟩
   obtain⟨U,hU⟩:∃U,U=(upI (wr (JH t 7*s.least)) 3600).1:=⟨_,rfl⟩
   simp only[go_sem,t10,z]
   rw[qS z]
   obtain⟨L,hL,hN⟩:=G.pre
   refine⟨Wma _,?_,.inr ⟨h,L,hL,rfl,rfl,.refl,rfl,rfl⟩⟩
   rw[<-Y] at o
   simp only[go_sem,t10,o,z,Wma,Q8]
theorem q4a{c:Ctx}:∀ {xs:List AV} {x:AV} {us:List Value},ARs c (xs++[x]) us->∃b u,us=b++[u]/\ARs c xs b/\AR c x u
 | [],x,us,⟨u,r,f,e,d⟩=>by
   have d:r=[]:=d
   subst d
   exact⟨[],u,f,rfl,e⟩
 | a::xs,x,us,⟨u,r,f,e,d⟩=>by
   obtain⟨b,v,h,g,i⟩:=q4a d
   subst h
   exact⟨u::b,v,f,⟨u,b,rfl,e,g⟩,i⟩
theorem X0{P:Program}{f:FuncId}{ar:List AV}{h:List Ob}{cs:List AV}{e:Nat}{rows:List (List AV)}(y:0<e)(d:qy h.length cs=true)(n:qM h.length rows=true)(c:ACalls P f ar h λr h'=>∃L x,h'=h++L/\NoRes L/\r= .ag (cs++[x])/\New h e x rows L):ACalls P f ar h λr h'=>r= .ag (cs++[.sl e rows])/\h'=h:=by
 refine⟨c.1,⟨_,_,⟨rfl,rfl⟩,.refl⟩,λφ k B w g vs j hB b=>?_⟩
 refine(c.2.2 φ k B w g vs j hB b).mono λC w' ⟨v,r,h',g',z,⟨L,x,t,_,m,n1⟩,_,i,l⟩=>?_
 subst t m
 rw[jW k] at i l
 have a:(fill φ h).length=h.length:=jo
 obtain⟨us,rfl,q⟩:=l
 obtain⟨o,u,A,p,s⟩:=q4a q
 refine⟨_,_,h,g',z,⟨rfl,rfl⟩,.refl,i.drop rfl (by have:=j.ids;exact this),us,rfl,?_⟩
 rw[A]
 exact vT (ARs.less (kU w' g' (fill φ h) L) _ _ (by rw[jo];exact d) p) ⟨u,[],rfl,Jg i.ok y s (n1 _ a) (λid hid=>by rw[a];exact n1.root id hid) (by rw[a];exact n),rfl⟩
theorem zDa{n:Nat}:∀l:List Seg,qM n (l.map xT)=true
 | []=>rfl
 | s::l=>by
   rw[List.map_cons,qM,zDa l];rfl
theorem V6{n:Nat}:∀l:List Flg,qM n (l.map km)=true
 | []=>rfl
 | s::l=>by
   rw[List.map_cons,qM,V6 l];rfl
theorem yVa(h:List Ob)(s:Setup)(a:SA)(k:SIn h s a)(f:SFit s)(x:AV)(l:List Ev)(w:Int)(b:SlOf h x 11 (l.map evC))(c:l.length<1048576):
  ACalls Tryz.prog 21 [je s a,x,i64 w] h λr h'=>r= .tup [.sl 5 ((qA s l w).1.map xT),.sl 2 ((qA s l w).2.map km)]/\h'=h:=
 kma (by decide) (by decide) (zDa _) (V6 _) (c21 h s a k f x l w b c)
def kn(s:Setup)(w k:Int):Int:=if !z6 s then 70 else if w<0∨(s.rates.length:Int)<=w then 80 else if k<0∨52<k then 212 else 0
theorem zFb(h:List Ob)(s:Setup)(a:SA)(k:SIn h s a)(f:SFit s)(w wk:Int):
  ACalls Tryz.prog 51 [je s a,i64 w,i64 wk] h λr h'=>r=i64 (kn s w wk)/\h'=h:=by
 have c:∀M,qa (h++M) a.r=some (s.rates.map qn):=λM=>(k.app M).r.rows
 refine zi Tryz.f51 [.tmp 6] 28 rfl rfl rfl rfl rfl rfl (by decide) (⟨_,_,⟨rfl,rfl⟩,.refl⟩) λB=>?_
 simp only[go_sem,k.ones]
 refine zg (c16 _ s a (k.app _) f) ?_
 rintro _ d ⟨rfl,rfl⟩
 cases b:z6 s
 ·simp only[go_sem,b,qt,Bool.not_false]
  refine zn ?_<;>(simp only[go_sem,kn,b]<;>try rfl)
 ·simp only[go_sem,b,qt,Bool.not_true]
  cases e:decide (w<0)
  ·have d:¬ w<0:=of_decide_eq_false e
   cases g:decide (w≥(s.rates.length:Int))
   ·have j:¬ (s.rates.length:Int)<=w:=of_decide_eq_false g
    cases i:decide (wk<0)
    ·have m:¬ wk<0:=of_decide_eq_false i
     cases l:decide (wk>52)
     ·have n:¬ 52<wk:=of_decide_eq_false l
      simp only[go_sem,e,g,i,l,qt,c,zb]
      refine zn ?_<;>(simp only[go_sem,kn,b,d,j,m,n]<;>try rfl)
     ·have n:52<wk:=of_decide_eq_true l
      simp only[go_sem,e,g,i,l,qt,c,zb]
      refine zn ?_<;>(simp only[go_sem,kn,b,d,j,m,n]<;>try rfl)
    ·have m:wk<0:=of_decide_eq_true i
     simp only[go_sem,e,g,i,qt,c,zb]
     refine zn ?_<;>(simp only[go_sem,kn,b,d,j,m]<;>try rfl)
   ·have j:(s.rates.length:Int)<=w:=of_decide_eq_true g
    simp only[go_sem,e,g,qt,c,zb]
    refine zn ?_<;>(simp only[go_sem,kn,b,d,j]<;>try rfl)
  ·have d:w<0:=of_decide_eq_true e
   simp only[go_sem,e,qt]
   refine zn ?_<;>(simp only[go_sem,kn,b,d]<;>try rfl)
def vO(s:Setup)(w:Int)(e:Ev):Bool:=e.worker != w || !vK s e
theorem jKb(h:List Ob)(s:Setup)(a:SA)(k:SIn h s a)(i j:Nat)(w:Int)(hi:h[i]? =some (.box 30 (qg s a)))(d:h[j]? =some (.box 3 [i64 w]))(e:Ev):
  ACalls Tryz.prog 54 [evV e,.ptr j 0,.ptr i 0] h λr h'=>r=bl (vO s w e)/\h'=h:=by
 have b:∀M,(h++M)[i]? =some (.box 30 (qg s a)):=λM=>ze hi
 have c:∀M,(h++M)[j]? =some (.box 3 [i64 w]):=λM=>ze d
 refine zi Tryz.f54 [.tmp 4] 15 rfl rfl rfl rfl rfl rfl (by decide) (⟨_,_,⟨rfl,rfl⟩,.refl⟩) λB=>?_
 simp only[go_sem,b,c,k.ones]
 cases q:e.worker != w
 ·simp only[go_sem,q,qt,b]
  refine zg (c14 _ s a (k.app _) e) ?_
  rintro _ f ⟨rfl,rfl⟩
  simp only[go_sem]
  refine zn ?_<;>(simp only[go_sem,vO,q]<;>try rfl)
 ·simp only[go_sem,q,qt]
  refine zn ?_<;>(simp only[go_sem,vO,q]<;>try rfl)
theorem jLb(h:List Ob)(j:Nat)(f:Flg)(b:h[j]? =some (.box 105 (km f)))(e:Ev):
  ACalls Tryz.prog 62 [evV e,.ptr j 0] h λr h'=>r=bl (e.id==f.id)/\h'=h:=by
 have a:∀M,(h++M)[j]? =some (.box 105 [i64 f.id,i64 f.kind]):=λM=>ze b
 refine zi Tryz.f62 [.tmp 3] 9 rfl rfl rfl rfl rfl rfl (by decide) (⟨_,_,⟨rfl,rfl⟩,.refl⟩) λB=>?_
 simp only[go_sem,a]
 refine zn ?_<;>(simp only[go_sem]<;>try rfl)
def RowsK(h h':List Ob):Prop:=∀(id ty e:Nat) (xs:List (List AV)) (st:Nat),h[id]? =some (.row ty e xs st)->h'[id]? =some (.row ty e xs st)
theorem kOa{o:Option Ob}{e:Nat}(h:eTl o=some e):∃ty xs st,o=some (.row ty e xs st):=by
 unfold eTl at h
 split at h
 ·injection h with h
  subst h
  exact⟨_,_,_,rfl⟩
 ·cases h
theorem kPa{o:Option Ob}{st:Nat}{xs:List (List AV)}(h:qGa o st=some xs):∃ty e,o=some (.row ty e xs st):=by
 unfold qGa at h
 split at h
 ·split at h
  ·rename_i a
   injection h with h
   subst a h
   exact⟨_,_,rfl⟩
  ·cases h
 ·cases h
theorem zEa{h h':List Ob}(k:RowsK h h'):∀(a:AV) {e:Nat},eOf h a=some e->eOf h' a=some e
 | .sl _ _,_,b=>b
 | .tl id st,e,b=>by
   rw[jP] at b⊢
   obtain⟨ty,xs,st',d⟩:=kOa b
   rw[k _ _ _ _ _ d];rfl
 | .vw a f i n,e,b=>by
   rw[Q3] at b⊢
   cases c:eOf h a with
   | none=>rw[c] at b;cases b
   | some ys=>
     rw[c] at b
     rw[zEa k a c]
     exact b
 | .v _,_,b | .em,_,b | .ptr _ _,_,b | .ep _ _ _ _,_,b | .mp _,_,b | .ag _,_,b | .tup _,_,b | .fn _ _ _,_,b | .bad,_,b=>by cases b
theorem WK{h h':List Ob}(k:RowsK h h'):∀(a:AV) {xs:List (List AV)},qa h a=some xs->qa h' a=some xs
 | .sl _ _,_,b=>b
 | .em,_,b=>b
 | .tl id st,xs,b=>by
   rw[qZ] at b⊢
   obtain⟨ty,e,f⟩:=kPa b
   rw[k _ _ _ _ _ f,kY,if_pos rfl]
 | .vw a e i n,xs,b=>by
   rw[vD] at b⊢
   cases c:qa h a with
   | none=>rw[c] at b;cases b
   | some ys=>
     rw[c] at b
     rw[WK k a c]
     simp only[Option.bind_some] at b⊢
     split at b
     ·rename_i d
      rw[if_pos ⟨d.1,d.2.imp id (zEa k a)⟩]
      exact b
     ·cases b
 | .v x,_,b=>by rw[<-x3a (h:=h)];exact b
 | .ptr _ _,_,b | .ep _ _ _ _,_,b | .mp _,_,b | .ag _,_,b | .tup _,_,b | .fn _ _ _,_,b | .bad,_,b=>by cases b
theorem SlOf.keep{h h':List Ob}(k:RowsK h h'){a:AV}{e:Nat}{xs:List (List AV)}(q:SlOf h a e xs):SlOf h' a e xs:=⟨WK k a q.rows,λb=>zEa k a (q.ee b)⟩
theorem RowsK.setB{h:List Ob}{i:Nat}{t:TypeId}{cs:List AV}{o:Ob}(hi:h[i]? =some (.box t cs)):RowsK h (h.set i o):=λid ty e xs st q=>by
 have:i≠id:=λe=>by rw[e,q] at hi;cases hi
 rw[zc this];exact q
structure RowV where
 worker:Int
 week:Int
 err:Int
 tot:Nat->Int
 pays:Nat->Int
 earned:qx
 perf:qx
 elig:Int
 tier:Int
 extra:Int
 supp:Int
 total:Int
def ve(r:RowV):List AV:=[i64 r.worker,i64 r.week,i64 r.err,i64 (r.tot 0),i64 (r.tot 1),i64 (r.tot 2),i64 (r.tot 3),i64 (r.tot 4),i64 (r.tot 5),i64 (r.tot 6),i64 (r.pays 0),i64 (r.pays 1),i64 (r.pays 2),i64 (r.pays 3),i64 (r.pays 4),i64 (r.pays 5),i64 (r.pays 6),i64 r.earned.1,i64 r.earned.2,i64 r.perf.1,i64 r.perf.2,i64 r.elig,i64 r.tier,i64 r.extra,i64 r.supp,i64 r.total]
abbrev vB(r:RowV)(fl:AV):List AV:=[i64 r.worker,i64 r.week,i64 r.err,i64 (r.tot 0),i64 (r.tot 1),i64 (r.tot 2),i64 (r.tot 3),i64 (r.tot 4),i64 (r.tot 5),i64 (r.tot 6),i64 (r.pays 0),i64 (r.pays 1),i64 (r.pays 2),i64 (r.pays 3),i64 (r.pays 4),i64 (r.pays 5),i64 (r.pays 6),i64 r.earned.1,i64 r.earned.2,i64 r.perf.1,i64 r.perf.2,i64 r.elig,i64 r.tier,i64 r.extra,i64 r.supp,i64 r.total,fl]
theorem wGa{a b:List Pt}(h:a.Perm b)(k:Int):(yo a k).Perm (yo b k):=(h.filter _).map _
theorem QCa{a b:List Pt}(h:a.Perm b)(k:Int):ZZ a k=ZZ b k:=by
 unfold ZZ
 rw[YX λt _ _=>Vb (wGa h k) t]
theorem QDa(s:Setup)(L:List Seg)(w:Int)(h:L.length<=3001):(vt s L w).length<1048576:=by
 have m:=kDa s L
 have l:=kEa s L
 have k:(jr (we s L) w).length<=(qz (we s L)).length+1:=QG _ _ _
 have g:=qj (we s L)
 have f:=kGa s (yh s L) w
 obtain⟨o,a⟩:∃o,o=JA s (yh s L) w:=⟨_,rfl⟩
 rw[<-a] at f
 have key:∀j,(ZY (jD (oj o j) (xc s (oj o j))) (1+j)).length+(ZY (xc s (oj o j)) (4+j)).length<=3*(oj o j).length+1485:=λj=>by
  have a1:=xz (oj o j) (xc s (oj o j))
  have a2:=qj (oj o j)
  have a3:=qj (xc s (oj o j))
  have a4:=V3 s (oj o j)
  rw[yY,yY];omega
 have k0:=key 0
 have k1:=key 1
 have k2:=key 2
 have b:oj o 0=o.1:=rfl
 have d:oj o 1=o.2.1:=rfl
 have c:oj o 2=o.2.2:=rfl
 have e:vt s L w=XR s o (jr (we s L) w) 3:=by rw[a];rfl
 rw[e,XR,XR,XR,XR]
 simp only[zf]
 have i:=yY (jr (we s L) w) 0
 rw[b] at k0;rw[d] at k1;rw[c] at k2
 rw[b,d,c]
 omega
def evR(s:Setup)(w:Int)(l:List Ev):List Ev:=(qv l).filter λe=> !vO s w e
theorem j5a(s:Setup)(w:Int)(l:List Ev):(evR s w l).length<=l.length:=by
 have a:=qw (λe=> !vO s w e) (qv l)
 have b:=(xL l).length_eq
 unfold evR;omega
def QM(own:List Ev)(f:Flg):Int:=xW (((own.find? λe=>e.id==f.id).map (·.at_)).getD 0)
def kQa(w wk e:Int):RowV:=⟨w,wk,e,λ_=>0,λ_=>0,(0,0),(0,0),0, -1,0,0,0⟩
def QEa(s:Setup)(own:List Ev)(w:Nat)(wk:Int):RowV:=
 let P:=vA s own w wk
 let tot:=λj:Nat=>ZZ (vt s (qA s own w).1 wk) j
 let tier:=if P.err=0/\0<P.eligible then vl s P.perf else -1
 let p:=j4a s w tot P.eligible tier
 ⟨w,wk,P.err,tot,p.pays,P.earned,P.perf,P.eligible,tier,p.extra,p.supp,p.total⟩
def jE(own:List Ev)(fl:List Flg)(wk:Int):List Flg:=fl.filter λf=>QM own f==wk
def qm(s:Setup)(l:List Ev)(w wk:Int):RowV × List Flg:=
 if kn s w wk≠0 then(kQa w wk (kn s w wk),[]) else(QEa s (evR s w l) w.toNat wk,jE (evR s w l) (qA s (evR s w l) w).2 wk)
structure RB (h h':List Ob) (s:Setup) (a:SA) (w:Int) (y:AV) (own:List Ev) (r:RowV) (fl:AV):Prop where
 pre:Pre h h'
 b0:h'[h.length]? =some (.box 30 (qg s a))
 b1:h'[h.length+1]? =some (.box 3 [i64 w])
 b2:h'[h.length+2]? =some (.box 45 (vB ⟨0,0,0,λ_=>0,λ_=>0,(0,0),(0,0),0,0,0,0,0⟩ (.v (.slice none 0 0))))
 b3:h'[h.length+3]? =some (.box 45 (vB r fl))
 sl:SlOf h' y 11 (own.map evC)
theorem RB.put{h h':List Ob}{s:Setup}{a:SA}{w:Int}{y:AV}{own:List Ev}{r:RowV}{fl:AV}(k:RB h h' s a w y own r fl)(c:RowV)(b:AV):RB h (h'.set (h.length+3) (.box 45 (vB c b))) s a w y own c b:=
 ⟨k.pre.set (by omega) rfl,by rw[zc (by omega)];exact k.b0,by rw[zc (by omega)];exact k.b1,by rw[zc (by omega)];exact k.b2,zm k.b3,k.sl.keep (.setB k.b3)⟩
theorem RB.app{h h':List Ob}{s:Setup}{a:SA}{w:Int}{y:AV}{own:List Ev}{r:RowV}{fl:AV}(k:RB h h' s a w y own r fl){M:List Ob}(b:NoRes M):RB h (h'++M) s a w y own r fl:=
 ⟨k.pre.app b,ze k.b0,ze k.b1,ze k.b2,ze k.b3,k.sl.app M⟩
theorem YHa{h:List Ob}{id ty:Nat}{xs:List (List AV)}{st:Nat}{o:Ob}(d:h[id]? =some (.row ty 2 xs st)):∀(a:AV) {rows:List (List AV)},eOf h a=some 11->qa h a=some rows->eOf (h.set id o) a=some 11/\qa (h.set id o) a=some rows
 | .sl _ _,_,b,c=>⟨b,c⟩
 | .tl i s,rows,b,c=>by
   rw[jP] at b⊢
   rw[qZ] at c⊢
   obtain⟨l,xs',st',k⟩:=kOa b
   have j:id≠i:=λq=>by rw[q,k] at d;injection d with d;injection d with _ d;cases d
   rw[zc j]
   exact⟨b,c⟩
 | .vw a e i n,rows,b,c=>by
   rw[Q3] at b⊢
   rw[vD] at c⊢
   cases f:eOf h a with
   | none=>rw[f] at b;cases b
   | some p=>
     rw[f] at b
     simp only[Option.bind_some] at b
     split at b
     ·rename_i m
      injection b with b
      subst m
      subst b
      cases g:qa h a with
      | none=>rw[g] at c;cases c
      | some ys=>
        obtain⟨k1,k2⟩:=YHa d a f g
        rw[k1,k2]
        rw[f,g] at c
        exact⟨by simp,c⟩
     ·cases b
 | .v x,_,b,_=>by cases b
 | .em,_,b,_ | .ptr _ _,_,b,_ | .ep _ _ _ _,_,b,_ | .mp _,_,b,_ | .ag _,_,b,_ | .tup _,_,b,_ | .fn _ _ _,_,b,_ | .bad,_,b,_=>by cases b
theorem RB.setR{h h':List Ob}{s:Setup}{a:SA}{w:Int}{y:AV}{own:List Ev}{r:RowV}{fl:AV}(k:RB h h' s a w y own r fl)(c:own≠[]){id ty:Nat}{xs:List (List AV)}{st:Nat}{o:Ob}(hid:h.length<=id)(b:h'[id]? =some (.row ty 2 xs st))(d:o.isRes=false):RB h (h'.set id o) s a w y own r fl:=by
 obtain⟨k1,k2⟩:=YHa (o:=o) b y (k.sl.ee (by simpa using c)) k.sl.rows
 exact⟨k.pre.set hid d,xq (h0:=h) k.b0 b,xq (h0:=h) k.b1 b,xq (h0:=h) k.b2 b,xq (h0:=h) k.b3 b,k2,λ_=>k1⟩
theorem WL{s:Setup}{l:List Ev}{w:Int}:(qA s l w).2.length<=3*l.length+1:=by
 have c:=xl l
 have b:szT (goP s w (qv l))<=szT ⟨none,[],[]⟩+3*(qv l).length:=wea (qv l)
 have a:szT ⟨none,[],[]⟩=0:=rfl
 have d:=K9 (s:=s) (t:=goP s w (qv l)) (at_:=32054400)
 unfold qA
 split
 ·simp only[szT] at d b a⊢
  omega
 ·simp
theorem qma{own:List Ev}{F:List Flg}{wk:Int}{n:Nat}(h:n<F.length):jE own (F.take (n+1)) wk=if QM own F[n]==wk then jE own (F.take n) wk++[F[n]] else jE own (F.take n) wk:=by
 unfold jE
 rw[show F.take (n+1)=F.take n++[F[n]] from(zE h).symm,qu]
 cases a:QM own F[n]==wk<;>simp[a]
theorem yWa{l:List Flg}{i:Nat}(h:i<l.length):(l.map km)[i]? =some (km l[i]):=by rw[zz,zj h];rfl
theorem jMb(h:List Ob)(s:Setup)(a:SA)(k:SIn h s a)(f:SFit s)(x:AV)(l:List Ev)(w wk:Int)(hx:SlOf h x 11 (l.map evC))(hl:l.length<=1000):
  ACalls Tryz.prog 17 [je s a,x,i64 w,i64 wk] h λr h'=>∃L y,h'=h++L/\NoRes L/\r= .ag (ve (qm s l w wk).1++[y])/\New h 2 y ((qm s l w wk).2.map km) L:=by
 have hex:∃r h',(∃L y,h'=h++L/\NoRes L/\r=AV.ag (ve (qm s l w wk).1++[y])/\New h 2 y ((qm s l w wk).2.map km) L)/\ResK h h':=
  ⟨_,_,⟨[],.sl 2 _,rfl,jh,rfl,λ_ _=>⟨rfl,λ_=>rfl⟩⟩,resK_app⟩
 refine jN (N:=116) (rs:=[.cell 8 45]) (fn:=Tryz.f17) rfl rfl rfl rfl (qo rfl) rfl (hex) λB=>?_
 refine qG (by decide) ?_
 simp only[go_sem,k.ones]
 refine jS (qG (by decide) ?_)
 simp only[go_sem]
 refine jS (qG (by decide) ?_)
 simp only[go_sem,k.ones]
 refine zg (zFb _ s a (k.app _) f w wk) ?_
 rintro _ h1 ⟨rfl,rfl⟩
 simp only[go_sem]
 cases q0:kn s w wk != 0
 rotate_left
 ·have η:kn s w wk≠0:=by simpa using q0
  have b:qm s l w wk=(kQa w wk (kn s w wk),[]):=by unfold qm;rw[if_pos η]
  rw[b]
  simp only[go_sem,qt]
  refine⟨.ag (ve (kQa w wk (kn s w wk))++[.v (.slice none 0 0)]),?_,.inl ⟨_,.v (.slice none 0 0),rfl,?_,rfl,?_⟩⟩
  ·simp only[go_sem]
   rfl
  ·exact zl rfl (zl rfl (zl rfl (zD rfl)))
  ·exact λh2 _=>⟨rfl,λh=>absurd rfl h⟩
 ·have S:kn s w wk=0:=by simpa using q0
  have b:qm s l w wk=(QEa s (evR s w l) w.toNat wk,jE (evR s w l) (qA s (evR s w l) w).2 wk):=by unfold qm;rw[if_neg (by rw[S];simp)]
  rw[b]
  simp only[go_sem,qt,S]
  obtain⟨ι,hw0,hw1⟩:z6 s=true/\0<=w/\w<s.rates.length:=by
   unfold kn at S
   split at S
   ·cases S
   ·rename_i h1
    split at S
    ·cases S
    ·rename_i h2
     exact⟨by simpa using h1,by omega,by omega⟩
  clear hex b
  have hol:=j5a s w l
  obtain⟨own,E⟩:∃own,own=evR s w l:=⟨_,rfl⟩
  rw[<-E] at hol⊢
  refine jS (xr (λt h'=>Pre h h'/\h'[h.length]? =some (.box 30 (qg s a))/\h'[h.length+1]? =some (.box 3 [i64 w])/\h'[h.length+2]? =some (.box 45 (vB ⟨0,0,0,λ_=>0,λ_=>0,(0,0),(0,0),0,0,0,0,0⟩ (.v (.slice none 0 0))))/\h'[h.length+3]? =some (.box 45 (vB (kQa w wk 0) (.v (.slice none 0 0))))/\
    SlOf h' (t 10) 11 (own.map evC)/\t 3=i64 wk/\t 4= .ptr h.length 0/\t 6= .ptr (h.length+1) 0/\t 8= .ptr (h.length+2) 0/\t 9= .ptr (h.length+3) 0) (by decide) ?_ ?_)
  ·simp only[go_sem]
   refine zg (c57 _ x l (hx.app _) (by omega)) ?_
   rintro r h1 hr
   rcases hr with⟨rfl,rfl,rfl⟩|⟨rfl,rfl⟩
   ·simp only[go_sem]
    refine zg (jCb _ _ _) ?_
    rintro _ h1 ⟨rfl,rfl⟩
    simp only[go_sem]
    exact⟨⟨_,rfl,zl rfl (zl rfl (zl rfl (zD rfl)))⟩,rfl,by rw[E];exact⟨rfl,λh=>absurd rfl h⟩⟩
   ·simp only[go_sem]
    refine zg (c73 _ (h.length+4) 1 (qv l) 54 [.ptr (h.length+1) 0,.ptr h.length 0] (vO s w) (by rw[zG (k:=4) rfl];rfl) (by have:=(xL l).length_eq;omega) (λe _ o L=>jKb _ s a (by
      rw[zU _ _ (by omega)]
      exact(k.app _).app _) h.length (h.length+1) w (ze (by rw[zc (by omega),zM rfl];rfl)) (ze (by rw[zc (by omega),zG (k:=1) rfl];rfl)) e)) ?_
    rintro r h1 ⟨l2,rfl,hr,ω⟩
    simp only[go_sem]
    rw[zU _ _ (by omega),show h.length+4 - h.length=4 by omega] at ω
    exact⟨⟨_,rfl,zl rfl (zl rfl (zl rfl (zl rfl (zD rfl))))⟩,rfl,by rw[E];exact ω⟩
  ·rintro T h' ⟨O,b0,b1,b2,b3,hy,t3,t4,t6,t8,t9⟩
   obtain⟨y,t10⟩:∃y,T 10=y:=⟨_,rfl⟩
   rw[t10] at hy
   have hk:=O.sin k
   have hsl3:=Xg (s:=s) (l:=own) (w:=w)
   refine qG (by decide) ?_
   simp only[go_sem,t4,t6,t10,b0,b1]
   refine zg (yVa _ s a hk f y own w hy (by omega)) ?_
   rintro _ h2 ⟨rfl,e2⟩
   rw[e2]
   simp only[go_sem]
   refine jS (qG (by decide) ?_)
   simp only[go_sem,t3,t4,b0]
   refine zg (zAb _ s a hk f ι _ (qA s own w).1 wk ⟨rfl,λ_=>rfl⟩ (by omega)) ?_
   rintro _ h3 ⟨⟨q,hq,rfl⟩,e3⟩
   rw[e3]
   have hql:q.length<1048576:=by
    rw[hq.length_eq]
    exact QDa s _ wk (by omega)
   simp only[go_sem]
   refine zg (Wja _ _ q ⟨rfl,λ_=>rfl⟩ hql) ?_
   rintro _ h4 ⟨rfl,e4⟩
   rw[e4]
   have φ:(λj:Nat=>ZZ q j)=λj:Nat=>ZZ (vt s (qA s own w).1 wk) j:=by funext j;exact QCa hq j
   obtain⟨tot,htt⟩:∃tot,tot=λj:Nat=>ZZ (vt s (qA s own w).1 wk) j:=⟨_,rfl⟩
   rw[φ, <-htt]
   simp only[go_sem,t9,b3,kQa,yH]
   have kb:=RB.put ⟨O,b0,b1,b2,b3,hy⟩ ⟨w,wk,0,tot,λ_=>0,(0,0),(0,0),0, -1,0,0,0⟩ (.v (.slice none 0 0))
   generalize hH:h'.set (h.length+3) (.box 45 (vB ⟨w,wk,0,tot,λ_=>0,(0,0),(0,0),0, -1,0,0,0⟩ (.v (.slice none 0 0))))=H at kb
   clear hH b0 b1 b2 b3 hy O hk
   have d0:=kb.b0
   have d1:=kb.b1
   have u:=kb.b3
   refine jS (qG (by decide) ?_)
   simp only[go_sem,t3,t4,t6,t10,d0,d1]
   refine zg (c15 _ s a (kb.pre.sin k) f y own w wk kb.sl (by omega)) ?_
   rintro _ h5 ⟨rfl,e5⟩
   rw[e5]
   obtain⟨P,hP⟩:∃P,P=vA s own w wk:=⟨_,rfl⟩
   rw[<-hP]
   have K:∀o,(H.set (h.length+3) o)[h.length+3]? =some o:=λo=>zm u
   simp only[go_sem,t9,u,K,qd]
   have kc:=kb.put ⟨w,wk,P.err,tot,λ_=>0,P.earned,P.perf,P.eligible, -1,0,0,0⟩ (.v (.slice none 0 0))
   generalize hH:H.set (h.length+3) (.box 45 (vB ⟨w,wk,P.err,tot,λ_=>0,P.earned,P.perf,P.eligible, -1,0,0,0⟩ (.v (.slice none 0 0))))=H2 at kc
   clear hH kb d0 d1 u K
   refine jS (xr (λt h2=>∃X,X=(if P.err=0/\0<P.eligible then vl s P.perf else -1)/\RB h h2 s a w y own ⟨w,wk,P.err,tot,λ_=>0,P.earned,P.perf,P.eligible,X,0,0,0⟩ (.v (.slice none 0 0))/\t 3=i64 wk/\t 4= .ptr h.length 0/\t 6= .ptr (h.length+1) 0/\t 8= .ptr (h.length+2) 0/\t 9= .ptr (h.length+3) 0/\t 10=y/\t 12= .sl 2 ((qA s own w).2.map km)) (by decide) ?_ ?_)
   ·have d0:=kc.b0
    have u:=kc.b3
    cases q1:decide (P.err=0)
    ·have p1:¬ P.err=0:=of_decide_eq_false q1
     have Y:(P.err==0)=false:=by simpa using p1
     simp only[go_sem,t9,u,Y,qt]
     exact⟨-1,by rw[if_neg (λq=>p1 q.1)],kc,t3,t4,t6,t8,t10⟩
    ·have p1:P.err=0:=of_decide_eq_true q1
     have Y:(P.err==0)=true:=by simpa using p1
     cases q2:decide (P.eligible>0)
     ·have p2:¬ 0<P.eligible:=of_decide_eq_false q2
      simp only[go_sem,t9,u,Y,q2,qt]
      exact⟨-1,by rw[if_neg (λq=>p2 q.2)],kc,t3,t4,t6,t8,t10⟩
     ·have p2:0<P.eligible:=of_decide_eq_true q2
      have hfit:jq P.perf:=by
       have:=(V8a (w:=w) (k:=wk) (l:=own) ι (by omega) (by rw[<-hP];exact p1)).2
       rw[<-hP] at this
       exact zwb this
      simp only[go_sem,t9,u,Y,q2,qt,t4,d0]
      refine zg (c26 _ s a (kc.pre.sin k) f P.perf hfit) ?_
      rintro _ h6 ⟨rfl,e6⟩
      rw[e6]
      simp only[go_sem,t9,u]
      exact⟨vl s P.perf,by rw[if_pos ⟨p1,p2⟩],kc.put ⟨w,wk,P.err,tot,λ_=>0,P.earned,P.perf,P.eligible,vl s P.perf,0,0,0⟩ _,t3,t4,t6,t8,t10⟩
   ·clear kc t3 t4 t6 t8 t9 t10
    rintro T h2 ⟨X,htr,kd,t3,t4,t6,t8,t9,t10,U⟩
    have d0:=kd.b0
    have d1:=kd.b1
    have u:=kd.b3
    obtain⟨C,hwn⟩:∃C:Nat,(C:Int)=w:=⟨w.toNat,by omega⟩
    subst hwn
    refine qG (by decide) ?_
    simp only[go_sem,t3,t4,t6,t9,d0,d1,u]
    refine zg (kgb _ s a (kd.pre.sin k) f ι C (by omega) tot P.eligible X) ?_
    rintro _ h7 ⟨rfl,e7⟩
    rw[e7]
    obtain⟨p,hp⟩:∃p,p=j4a s C tot P.eligible X:=⟨_,rfl⟩
    rw[<-hp]
    have K:∀o,(h2.set (h.length+3) o)[h.length+3]? =some o:=λo=>zm u
    simp only[go_sem,Wma,t9,u,K,qd,yH]
    have ke:=kd.put ⟨C,wk,P.err,tot,p.pays,P.earned,P.perf,P.eligible,X,p.extra,p.supp,p.total⟩ (.v (.slice none 0 0))
    have b:QEa s own C wk=⟨C,wk,P.err,tot,p.pays,P.earned,P.perf,P.eligible,X,p.extra,p.supp,p.total⟩:=by
     rw[hp,htr,hP,htt];rfl
    rw[Int.toNat_natCast,b]
    generalize hH:h2.set (h.length+3) (.box 45 (vB ⟨C,wk,P.err,tot,p.pays,P.earned,P.perf,P.eligible,X,p.extra,p.supp,p.total⟩ (.v (.slice none 0 0))))=H3 at ke
    obtain⟨R,hR⟩:∃R:RowV,R=⟨C,wk,P.err,tot,p.pays,P.earned,P.perf,P.eligible,X,p.extra,p.supp,p.total⟩:=⟨_,rfl⟩
    rw[<-hR] at ke⊢
    clear hH kd d0 d1 u K b
    have υ:= @XE s own C
    obtain⟨F,hF⟩:∃F,F=(qA s own C).2:=⟨_,rfl⟩
    have hFl:F.length<1048576:=by have:=WL (s:=s) (l:=own) (w:=C);rw[hF];omega
    rw[<-hF] at υ U⊢
    have hgo:jE own F wk=jE own (F.take F.length) wk:=by rw[zP]
    rw[hgo]
    refine jS (qG (by decide) ?_)
    simp only[go_sem,U,zb]
    refine zI (by decide) (λm T h'=>∃(n:Nat) (D:AV),n<=F.length/\RB h h' s a C y own R D/\OwnS h h' 105 2 D ((jE own (F.take n) wk).map km)/\T 3=i64 wk/\T 8= .ptr (h.length+2) 0/\T 9= .ptr (h.length+3) 0/\T 10=y/\T 91= .sl 2 (F.map km)/\T 92=i64 F.length/\T 93=i64 n/\m=F.length - n) F.length
     ⟨0,_,by omega,ke,.inl ⟨rfl,rfl⟩,by simp only[go_sem,t3],by simp only[go_sem,t8],by simp only[go_sem,t9],by simp only[go_sem,t10],by simp only[go_sem,U],by(simp only[go_sem]<;>rfl),by(simp only[go_sem]<;>rfl),rfl⟩ ?_
    clear ke t3 t4 t6 t8 t9 t10 U
    rintro m T h' ⟨n,D,hn,kf,ho,t3,t8,t9,t10,V,α,I,rfl⟩
    simp only[go_sem,α,I]
    refine ways (λe=>?_) (λe=>?_)
    ·have ν:=dlt e
     have b:=yWa ν
     have hkl:(n:Int)<F.length:=by omega
     have c:=qma (own:=own) (wk:=wk) ν
     obtain⟨g,hg⟩:∃g,g=F[n]:=⟨_,rfl⟩
     obtain⟨ev,hev1,ζ⟩:=υ F[n] (zy ν)
     rw[<-hg] at b c ζ
     simp only[go_sem,V,I,b,hkl,t10,zb,Int.toNat_natCast,zh]
     have W:=kf.app (M:=[.box 105 [i64 g.id,i64 g.kind]]) (zD rfl)
     have θ:=ho.app [Ob.box 105 [i64 g.id,i64 g.kind]]
     have Q:(h'++[Ob.box 105 [i64 g.id,i64 g.kind]])[h'.length]? =some (.box 105 [i64 g.id,i64 g.kind]):=by rw[zM rfl];rfl
     generalize hJ:h'++[Ob.box 105 [i64 g.id,i64 g.kind]]=J at W θ Q
     have hJl:h'.length<J.length:=by rw[<-hJ];simp
     refine zg (c42 _ y 62 [.ptr h'.length 0] (own.map evC) (λr=>(WA r).id==g.id) (by rw[zb];omega) (λr hr=>by obtain⟨e,_,rfl⟩:=zr.1 hr;rfl) W.sl (λrow b L=>by
      obtain⟨e,_,rfl⟩:=zr.1 b
      exact jLb _ h'.length g (ze Q) e)) ?_
     rintro _ h8 ⟨rfl,e8⟩
     rw[e8]
     rcases Xa (λe=>e.id==g.id) own with⟨_,q2⟩|⟨A,z,R2,q1,q2,q3,q4⟩
     ·have:=q2 ev hev1
      simp[ζ] at this
     ·rw[q2]
      have ξ:A.length<own.length:=by rw[q1];simp
      have hfw:QM own g=xW z.at_:=by
       unfold QM
       have:own.find? (λe=>e.id==g.id)=some z:=by
        rw[q1,List.find?_append]
        rw[List.find?_eq_none.2 (λe S=>by simp[q4 e S])]
        simp[q3]
       rw[this];rfl
      have hrz:(own.map evC)[A.length]? =some (evC z):=by rw[q1];simp
      have hee:=W.sl.at (i:=A.length) (by rw[zb];exact ξ)
      have hrr:=W.sl.rows
      have hkl2:(A.length:Int)<own.length:=by omega
      simp only[go_sem,t3,t10,hrr,hee,hrz,hkl2,zb,Int.toNat_natCast,zh]
      refine zg (c17 z.at_ _) ?_
      rintro _ h9 ⟨rfl,e9⟩
      rw[e9]
      rw[hfw] at c
      simp only[go_sem,t3]
      refine ways (λe3=>?_) (λe3=>?_)
      ·rw[if_pos e3] at c
       have η:own≠[]:=λq=>by rw[q] at ξ;cases ξ
       have G:=W.b3
       have d:∀M,(J++M)[h.length+3]? =some (.box 45 (vB R D)):=λM=>ze G
       have hgfM:∀M,(J++M)[h'.length]? =some (.box 105 [i64 g.id,i64 g.kind]):=λM=>ze Q
       rcases θ with⟨rfl,hnil⟩|⟨id,st,u1,rfl,u3⟩
       ·simp only[go_sem,t9,I,G,d,Q]
        refine⟨F.length - (n+1),by omega,n+1,.tl (J.length+1) 0,by omega,(W.app (zl rfl (zD rfl))).put R _,?_,t3,t8,t10,V,α,qf (by omega) rfl,rfl⟩
        refine OwnS.setB (.inr ⟨_,0,?_,rfl,?_⟩) (d _)
        ·have:=W.pre.len;omega
        ·rw[c,zw,hnil,zG (k:=1) rfl];rfl
       ·have Z:∀M,(J++M)[id]? =some (.row 105 2 ((jE own (F.take n) wk).map km) st):=λM=>ze u3
        have hcap:(((jE own (F.take n) wk).map km).length+1)*17<=140737488355328:=by
         have:=qw (λf=>QM own f==wk) (F.take n)
         rw[zJ] at this
         rw[zb]
         unfold jE
         omega
        have δ:∀M o',((J++M).set id o')[h.length+3]? =some (.box 45 (vB R (.tl id st))):=λM o'=>xq (h0:=h) (d M) (Z M)
        simp only[go_sem,t9,I,G,d,Q,Z,hcap,δ]
        refine⟨F.length - (n+1),by omega,n+1,.tl id (st+1),by omega,RB.put ((W.app (zD rfl)).setR η u1 (Z _) rfl) R _,?_,t3,t8,t10,V,α,qf (by omega) rfl,rfl⟩
        refine OwnS.setB (.inr ⟨id,st+1,u1,rfl,?_⟩) (δ _ _)
        rw[c,zw]
        exact zm (Z _)
      ·have e3':(xW z.at_==wk)=false:=by simpa using e3
       rw[e3'] at c
       simp only[Bool.false_eq_true,if_false] at c
       simp only[go_sem,I]
       exact⟨F.length - (n+1),by omega,n+1,D,by omega,W,by rw[c];exact θ,t3,t8,t9,t10,V,α,qf (by omega) rfl,rfl⟩
    ·have hge:=j9 e
     have hn2:n=F.length:=by omega
     subst hn2
     simp only[go_sem]
     refine jS (qD _ (by decide) ?_)
     have κ:=kf.b2
     have G:=kf.b3
     have hxo:=ho.rows.one
     simp only[go_sem,t8,t9,κ,G,hxo]
     have ψ:=ho.setB (o:= .box 45 (vB R D)) κ
     have hp2:Pre h (h'.set (h.length+2) (.box 45 (vB R D))):=kf.pre.set (by omega) rfl
     have hb4:(h'.set (h.length+2) (.box 45 (vB R D)))[h.length+2]? =some (.box 45 (vB R D)):=zm κ
     refine⟨.ag (ve R++[D]),?_,.inl ?_⟩
     ·have hb5:(h'.set (h.length+2) (.box 45 [i64 R.worker,i64 R.week,i64 R.err,i64 (R.tot 0),i64 (R.tot 1),i64 (R.tot 2),i64 (R.tot 3),i64 (R.tot 4),i64 (R.tot 5),i64 (R.tot 6),i64 (R.pays 0),i64 (R.pays 1),i64 (R.pays 2),i64 (R.pays 3),i64 (R.pays 4),i64 (R.pays 5),i64 (R.pays 6),i64 R.earned.1,i64 R.earned.2,i64 R.perf.1,i64 R.perf.2,i64 R.elig,i64 R.tier,i64 R.extra,i64 R.supp,i64 R.total,D]))[h.length+2]? =some (.box 45 (vB R D)):=hb4
      simp only[go_sem,t8,hb5]
      rfl
     ·obtain⟨L,hL,hN⟩:=hp2
      refine⟨L,D,hL,hN,rfl,?_⟩
      rw[hL] at ψ
      exact ψ.new (zo _)
theorem zGb(h:List Ob)(s:Setup)(a:SA)(k:SIn h s a)(f:SFit s)(x:AV)(l:List Ev)(w wk:Int)(b:SlOf h x 11 (l.map evC))(c:l.length<=1000):
  ACalls Tryz.prog 17 [je s a,x,i64 w,i64 wk] h λr h'=>r= .ag (ve (qm s l w wk).1++[.sl 2 ((qm s l w wk).2.map km)])/\h'=h:=
 X0 (by decide) rfl (V6 _) (jMb h s a k f x l w wk b c)
theorem QFa(h:List Ob)(x:AV)(rows:List (List AV))(b:SlOf h x 3 rows)(o:rows.length<1099511627776)(j:(rows.all λr=>r.length==3 && r.all AV.one)=true):
  ACalls Tryz.prog 156 [x] h λr h'=>(rows=[]/\h'=h/\r= .v (.slice none 0 0))∨(h'=h++[.row 225 3 rows 1]/\r= .tl h.length 1):=by
 refine jN (N:=8) (rs:=[.tmp 2]) (fn:=Tryz.f156) rfl rfl rfl rfl (qo rfl) rfl (⟨_,_,.inr ⟨rfl,rfl⟩,resK_app⟩) λB=>?_
 cases rows with
 | nil=>
   refine Zo 0 rfl b.rows (λm=>?_) ?_
   ·refine qD _ (by decide) ?_;simp only[go_sem]
    exact⟨.v (.slice none 0 0),by simp only[go_sem],.inl (.inl ⟨rfl,rfl⟩)⟩
   ·refine qD _ (by decide) ?_;simp only[go_sem]
    exact⟨.tl h.length 1,by simp only[go_sem],.inl (.inr ⟨rfl,rfl⟩)⟩
 | cons y l=>
   have k:=b.at (i:=0) (by simp)
   have g:=b.rows
   have f:xZ x=false:=by
    rcases yb g with⟨e,xs,rfl⟩|⟨i,s,rfl⟩|⟨a,e,i,n,rfl⟩<;>rfl
   unfold xZ at f
   have c:∀L,qa (h++L) x=some (y::l):=λL=>(b.app L).rows
   have d:(y::l).length*25<=140737488355328:=by omega
   rw[List.length_cons] at d
   refine qD _ (by decide) ?_;simp only[go_sem,g,k,f,c,j,d,Bool.or_true,decide_true]
   exact⟨.tl h.length 1,by simp only[go_sem],.inl (.inr ⟨rfl,rfl⟩)⟩
theorem wHa(h:List Ob)(x:AV)(rows:List (List AV))(b:SlOf h x 3 rows)(c:rows.length<1099511627776)(d:(rows.all λr=>r.length==3 && r.all AV.one)=true)(a:qM h.length rows=true):
  ACalls Tryz.prog 156 [x] h λr h'=>r= .sl 3 rows/\h'=h:=
 jX (by decide) a ((QFa h x rows b c d).mono λr h' q=>by
  rcases q with⟨rfl,rfl,rfl⟩|⟨rfl,rfl⟩
  ·exact⟨[],by simp,jh,λe _=>⟨rfl,λh=>absurd rfl h⟩⟩
  ·exact⟨_,rfl,zD rfl,OwnS.new (h0:=h) (ty:=225) (.inr ⟨h.length,1,zo _,rfl,by rw[zM rfl];rfl⟩) (zo _)⟩)
theorem QGa(h:List Ob)(x:AV)(rows:List (List AV))(b:SlOf h x 4 rows)(o:rows.length<1099511627776)(j:(rows.all λr=>r.length==4 && r.all AV.one)=true):
  ACalls Tryz.prog 157 [x] h λr h'=>(rows=[]/\h'=h/\r= .v (.slice none 0 0))∨(h'=h++[.row 183 4 rows 1]/\r= .tl h.length 1):=by
 refine jN (N:=8) (rs:=[.tmp 2]) (fn:=Tryz.f157) rfl rfl rfl rfl (qo rfl) rfl (⟨_,_,.inr ⟨rfl,rfl⟩,resK_app⟩) λB=>?_
 cases rows with
 | nil=>
   refine Zo 0 rfl b.rows (λm=>?_) ?_
   ·refine qD _ (by decide) ?_;simp only[go_sem]
    exact⟨.v (.slice none 0 0),by simp only[go_sem],.inl (.inl ⟨rfl,rfl⟩)⟩
   ·refine qD _ (by decide) ?_;simp only[go_sem]
    exact⟨.tl h.length 1,by simp only[go_sem],.inl (.inr ⟨rfl,rfl⟩)⟩
 | cons y l=>
   have k:=b.at (i:=0) (by simp)
   have g:=b.rows
   have f:xZ x=false:=by
    rcases yb g with⟨e,xs,rfl⟩|⟨i,s,rfl⟩|⟨a,e,i,n,rfl⟩<;>rfl
   unfold xZ at f
   have c:∀L,qa (h++L) x=some (y::l):=λL=>(b.app L).rows
   have d:(y::l).length*33<=140737488355328:=by omega
   rw[List.length_cons] at d
   refine qD _ (by decide) ?_;simp only[go_sem,g,k,f,c,j,d,Bool.or_true,decide_true]
   exact⟨.tl h.length 1,by simp only[go_sem],.inl (.inr ⟨rfl,rfl⟩)⟩
theorem wIa(h:List Ob)(x:AV)(rows:List (List AV))(b:SlOf h x 4 rows)(c:rows.length<1099511627776)(d:(rows.all λr=>r.length==4 && r.all AV.one)=true)(a:qM h.length rows=true):
  ACalls Tryz.prog 157 [x] h λr h'=>r= .sl 4 rows/\h'=h:=
 jX (by decide) a ((QGa h x rows b c d).mono λr h' q=>by
  rcases q with⟨rfl,rfl,rfl⟩|⟨rfl,rfl⟩
  ·exact⟨[],by simp,jh,λe _=>⟨rfl,λh=>absurd rfl h⟩⟩
  ·exact⟨_,rfl,zD rfl,OwnS.new (h0:=h) (ty:=183) (.inr ⟨h.length,1,zo _,rfl,by rw[zM rfl];rfl⟩) (zo _)⟩)
theorem QHa(h:List Ob)(x:AV)(rows:List (List AV))(b:SlOf h x 2 rows)(o:rows.length<1099511627776)(j:(rows.all λr=>r.length==2 && r.all AV.one)=true):
  ACalls Tryz.prog 158 [x] h λr h'=>(rows=[]/\h'=h/\r= .v (.slice none 0 0))∨(h'=h++[.row 24 2 rows 1]/\r= .tl h.length 1):=by
 refine jN (N:=8) (rs:=[.tmp 2]) (fn:=Tryz.f158) rfl rfl rfl rfl (qo rfl) rfl (⟨_,_,.inr ⟨rfl,rfl⟩,resK_app⟩) λB=>?_
 cases rows with
 | nil=>
   refine Zo 0 rfl b.rows (λm=>?_) ?_
   ·refine qD _ (by decide) ?_;simp only[go_sem]
    exact⟨.v (.slice none 0 0),by simp only[go_sem],.inl (.inl ⟨rfl,rfl⟩)⟩
   ·refine qD _ (by decide) ?_;simp only[go_sem]
    exact⟨.tl h.length 1,by simp only[go_sem],.inl (.inr ⟨rfl,rfl⟩)⟩
 | cons y l=>
   have k:=b.at (i:=0) (by simp)
   have g:=b.rows
   have f:xZ x=false:=by
    rcases yb g with⟨e,xs,rfl⟩|⟨i,s,rfl⟩|⟨a,e,i,n,rfl⟩<;>rfl
   unfold xZ at f
   have c:∀L,qa (h++L) x=some (y::l):=λL=>(b.app L).rows
   have d:(y::l).length*17<=140737488355328:=by omega
   rw[List.length_cons] at d
   refine qD _ (by decide) ?_;simp only[go_sem,g,k,f,c,j,d,Bool.or_true,decide_true]
   exact⟨.tl h.length 1,by simp only[go_sem],.inl (.inr ⟨rfl,rfl⟩)⟩
theorem zFa(h:List Ob)(x:AV)(rows:List (List AV))(b:SlOf h x 2 rows)(c:rows.length<1099511627776)(d:(rows.all λr=>r.length==2 && r.all AV.one)=true)(a:qM h.length rows=true):
  ACalls Tryz.prog 158 [x] h λr h'=>r= .sl 2 rows/\h'=h:=
 jX (by decide) a ((QHa h x rows b c d).mono λr h' q=>by
  rcases q with⟨rfl,rfl,rfl⟩|⟨rfl,rfl⟩
  ·exact⟨[],by simp,jh,λe _=>⟨rfl,λh=>absurd rfl h⟩⟩
  ·exact⟨_,rfl,zD rfl,OwnS.new (h0:=h) (ty:=24) (.inr ⟨h.length,1,zo _,rfl,by rw[zM rfl];rfl⟩) (zo _)⟩)
theorem V7(h:List Ob)(x:AV)(rows:List (List AV))(b:SlOf h x 1 rows)(o:rows.length<1099511627776)(j:(rows.all λr=>r.length==1 && r.all AV.one)=true):
  ACalls Tryz.prog 159 [x] h λr h'=>(rows=[]/\h'=h/\r= .v (.slice none 0 0))∨(h'=h++[.row 3 1 rows 1]/\r= .tl h.length 1):=by
 refine jN (N:=8) (rs:=[.tmp 2]) (fn:=Tryz.f159) rfl rfl rfl rfl (qo rfl) rfl (⟨_,_,.inr ⟨rfl,rfl⟩,resK_app⟩) λB=>?_
 cases rows with
 | nil=>
   refine Zo 0 rfl b.rows (λm=>?_) ?_
   ·refine qD _ (by decide) ?_;simp only[go_sem]
    exact⟨.v (.slice none 0 0),by simp only[go_sem],.inl (.inl ⟨rfl,rfl⟩)⟩
   ·refine qD _ (by decide) ?_;simp only[go_sem]
    exact⟨.tl h.length 1,by simp only[go_sem],.inl (.inr ⟨rfl,rfl⟩)⟩
 | cons y l=>
   have k:=b.at (i:=0) (by simp)
   have g:=b.rows
   have f:xZ x=false:=by
    rcases yb g with⟨e,xs,rfl⟩|⟨i,s,rfl⟩|⟨a,e,i,n,rfl⟩<;>rfl
   unfold xZ at f
   have c:∀L,qa (h++L) x=some (y::l):=λL=>(b.app L).rows
   have d:(y::l).length*9<=140737488355328:=by omega
   rw[List.length_cons] at d
   refine qD _ (by decide) ?_;simp only[go_sem,g,k,f,c,j,d,Bool.or_true,decide_true]
   exact⟨.tl h.length 1,by simp only[go_sem],.inl (.inr ⟨rfl,rfl⟩)⟩
theorem wJa(h:List Ob)(x:AV)(rows:List (List AV))(b:SlOf h x 1 rows)(c:rows.length<1099511627776)(d:(rows.all λr=>r.length==1 && r.all AV.one)=true)(a:qM h.length rows=true):
  ACalls Tryz.prog 159 [x] h λr h'=>r= .sl 1 rows/\h'=h:=
 jX (by decide) a ((V7 h x rows b c d).mono λr h' q=>by
  rcases q with⟨rfl,rfl,rfl⟩|⟨rfl,rfl⟩
  ·exact⟨[],by simp,jh,λe _=>⟨rfl,λh=>absurd rfl h⟩⟩
  ·exact⟨_,rfl,zD rfl,OwnS.new (h0:=h) (ty:=3) (.inr ⟨h.length,1,zo _,rfl,by rw[zM rfl];rfl⟩) (zo _)⟩)
theorem wKa(h:List Ob)(x:AV)(rows:List (List AV))(b:SlOf h x 2 rows)(o:rows.length<1099511627776)(j:(rows.all λr=>r.length==2 && r.all AV.one)=true):
  ACalls Tryz.prog 160 [x] h λr h'=>(rows=[]/\h'=h/\r= .v (.slice none 0 0))∨(h'=h++[.row 185 2 rows 1]/\r= .tl h.length 1):=by
 refine jN (N:=8) (rs:=[.tmp 2]) (fn:=Tryz.f160) rfl rfl rfl rfl (qo rfl) rfl (⟨_,_,.inr ⟨rfl,rfl⟩,resK_app⟩) λB=>?_
 cases rows with
 | nil=>
   refine Zo 0 rfl b.rows (λm=>?_) ?_
   ·refine qD _ (by decide) ?_;simp only[go_sem]
    exact⟨.v (.slice none 0 0),by simp only[go_sem],.inl (.inl ⟨rfl,rfl⟩)⟩
   ·refine qD _ (by decide) ?_;simp only[go_sem]
    exact⟨.tl h.length 1,by simp only[go_sem],.inl (.inr ⟨rfl,rfl⟩)⟩
 | cons y l=>
   have k:=b.at (i:=0) (by simp)
   have g:=b.rows
   have f:xZ x=false:=by
    rcases yb g with⟨e,xs,rfl⟩|⟨i,s,rfl⟩|⟨a,e,i,n,rfl⟩<;>rfl
   unfold xZ at f
   have c:∀L,qa (h++L) x=some (y::l):=λL=>(b.app L).rows
   have d:(y::l).length*17<=140737488355328:=by omega
   rw[List.length_cons] at d
   refine qD _ (by decide) ?_;simp only[go_sem,g,k,f,c,j,d,Bool.or_true,decide_true]
   exact⟨.tl h.length 1,by simp only[go_sem],.inl (.inr ⟨rfl,rfl⟩)⟩
theorem kRa(h:List Ob)(x:AV)(rows:List (List AV))(b:SlOf h x 2 rows)(c:rows.length<1099511627776)(d:(rows.all λr=>r.length==2 && r.all AV.one)=true)(a:qM h.length rows=true):
  ACalls Tryz.prog 160 [x] h λr h'=>r= .sl 2 rows/\h'=h:=
 jX (by decide) a ((wKa h x rows b c d).mono λr h' q=>by
  rcases q with⟨rfl,rfl,rfl⟩|⟨rfl,rfl⟩
  ·exact⟨[],by simp,jh,λe _=>⟨rfl,λh=>absurd rfl h⟩⟩
  ·exact⟨_,rfl,zD rfl,OwnS.new (h0:=h) (ty:=185) (.inr ⟨h.length,1,zo _,rfl,by rw[zM rfl];rfl⟩) (zo _)⟩)
theorem wLa(h:List Ob)(x:AV)(rows:List (List AV))(b:SlOf h x 1 rows)(o:rows.length<1099511627776)(j:(rows.all λr=>r.length==1 && r.all AV.one)=true):
  ACalls Tryz.prog 73 [x] h λr h'=>(rows=[]/\h'=h/\r= .v (.slice none 0 0))∨(h'=h++[.row 5 1 rows 1]/\r= .tl h.length 1):=by
 refine jN (N:=8) (rs:=[.tmp 2]) (fn:=Tryz.f73) rfl rfl rfl rfl (qo rfl) rfl (⟨_,_,.inr ⟨rfl,rfl⟩,resK_app⟩) λB=>?_
 cases rows with
 | nil=>
   refine Zo 0 rfl b.rows (λm=>?_) ?_
   ·refine qD _ (by decide) ?_;simp only[go_sem]
    exact⟨.v (.slice none 0 0),by simp only[go_sem],.inl (.inl ⟨rfl,rfl⟩)⟩
   ·refine qD _ (by decide) ?_;simp only[go_sem]
    exact⟨.tl h.length 1,by simp only[go_sem],.inl (.inr ⟨rfl,rfl⟩)⟩
 | cons y l=>
   have k:=b.at (i:=0) (by simp)
   have g:=b.rows
   have f:xZ x=false:=by
    rcases yb g with⟨e,xs,rfl⟩|⟨i,s,rfl⟩|⟨a,e,i,n,rfl⟩<;>rfl
   unfold xZ at f
   have c:∀L,qa (h++L) x=some (y::l):=λL=>(b.app L).rows
   have d:(y::l).length*2<=140737488355328:=by omega
   rw[List.length_cons] at d
   refine qD _ (by decide) ?_;simp only[go_sem,g,k,f,c,j,d,Bool.or_true,decide_true]
   exact⟨.tl h.length 1,by simp only[go_sem],.inl (.inr ⟨rfl,rfl⟩)⟩
structure Fx where
 op:Int
 ev:Ev
abbrev fxC(x:Fx):List AV:=[i64 x.op,i64 x.ev.id,i64 x.ev.worker,i64 x.ev.at_,i64 x.ev.kind,i64 x.ev.from_,i64 x.ev.to_,i64 x.ev.element,i64 x.ev.units,i64 x.ev.class_,i64 x.ev.gear,i64 x.ev.code]
def xY(x:Fx):Bool:=x.op==1 || x.op==3
def xh(x:Fx):Bool:=x.op==2 || x.op==3
theorem YIa(x:Fx):xA Tryz.prog 98 [.ag (fxC x)] (bl (xY x)):=λh=>by
 refine zi Tryz.f98 [.tmp 2] 11 rfl rfl rfl rfl rfl rfl (by decide) (⟨_,_,⟨rfl,rfl⟩,.refl⟩) λB=>?_
 simp only[go_sem]
 cases a:x.op==1
 ·simp only[go_sem,a,qt]
  refine zn ?_<;>(simp only[go_sem,xY,a]<;>try rfl)
 ·simp only[go_sem,a,qt]
  refine zn ?_<;>(simp only[go_sem,xY,a]<;>try rfl)
theorem Kea(x:Fx):xA Tryz.prog 97 [.ag (fxC x)] (bl (xh x)):=λh=>by
 refine zi Tryz.f97 [.tmp 2] 11 rfl rfl rfl rfl rfl rfl (by decide) (⟨_,_,⟨rfl,rfl⟩,.refl⟩) λB=>?_
 simp only[go_sem]
 cases a:x.op==2
 ·simp only[go_sem,a,qt]
  refine zn ?_<;>(simp only[go_sem,xh,a]<;>try rfl)
 ·simp only[go_sem,a,qt]
  refine zn ?_<;>(simp only[go_sem,xh,a]<;>try rfl)
def Jn(l:List Ev)(id:Int):Int:=JX (l.map evC) λr=>(WA r).id==id
theorem jNb(h:List Ob)(j:Nat)(id:Int)(b:h[j]? =some (.box 3 [i64 id]))(e:Ev):
  ACalls Tryz.prog 227 [evV e,.ptr j 0] h λr h'=>r=bl (e.id==id)/\h'=h:=by
 have a:∀M,(h++M)[j]? =some (.box 3 [i64 id]):=λM=>ze b
 refine zi Tryz.f227 [.tmp 3] 8 rfl rfl rfl rfl rfl rfl (by decide) (⟨_,_,⟨rfl,rfl⟩,.refl⟩) λB=>?_
 simp only[go_sem,a]
 refine zn ?_<;>(simp only[go_sem]<;>try rfl)
theorem jOb(h:List Ob)(x:AV)(l:List Ev)(id:Int)(b:SlOf h x 11 (l.map evC))(d:l.length<1048576):
  ACalls Tryz.prog 173 [x,i64 id] h λr h'=>r=i64 (Jn l id)/\h'=h:=by
 refine zi Tryz.f173 [.tmp 4] 8 rfl rfl rfl rfl rfl rfl (by decide) (⟨_,_,⟨rfl,rfl⟩,.refl⟩) λB=>?_
 simp only[go_sem]
 refine zg (c42 _ x 227 [.ptr h.length 0] (l.map evC) (λr=>(WA r).id==id) (by rw[zb];omega) (λr c=>by obtain⟨e,_,rfl⟩:=zr.1 c;rfl) (b.app _) (λrow a L=>by
  obtain⟨e,_,rfl⟩:=zr.1 a
  exact jNb _ h.length id (by rw[zt,zM rfl];rfl) e)) ?_
 rintro _ f ⟨rfl,rfl⟩
 simp only[go_sem]
 refine zn ?_<;>(simp only[go_sem,Jn]<;>try rfl)
def zEv:Ev:=⟨0,0,0,0,0,0,0,0,0,0,0⟩
def Qb(l:List Ev)(id:Int):Ev × Bool:=match l.find? (λe=>e.id==id) with
 | some e=>(e,true)
 | none=>(zEv,false)
theorem V8(l:List Ev)(id:Int):(Jn l id= -1/\Qb l id=(zEv,false))∨∃A x R,l=A++x::R/\Jn l id=(A.length:Int)/\Qb l id=(x,true)/\x.id=id:=by
 rcases Xa (λe=>e.id==id) l with⟨a,b⟩|⟨A,x,R,a,b,d,f⟩
 ·refine .inl ⟨a,?_⟩
  unfold Qb
  rw[List.find?_eq_none.2 (λe c=>by simp[b e c])]
 ·refine .inr ⟨A,x,R,a,b,?_,by simpa using d⟩
  unfold Qb
  have:l.find? (λe=>e.id==id)=some x:=by
   rw[a,List.find?_append,List.find?_eq_none.2 (λe c=>by simp[f e c])]
   simp[d]
  rw[this]
theorem jPb(h:List Ob)(x:AV)(l:List Ev)(id:Int)(f:SlOf h x 11 (l.map evC))(m:l.length<1048576):
  ACalls Tryz.prog 96 [x,i64 id] h λr h'=>r= .tup [evV (Qb l id).1,bl (Qb l id).2]/\h'=h:=by
 refine zi Tryz.f96 [.cell 4 75,.tmp 5] 17 rfl rfl rfl rfl rfl rfl (by decide) (⟨_,_,⟨rfl,rfl⟩,.refl⟩) λB=>?_
 simp only[go_sem]
 refine zg (jOb _ x l id (f.app _) m) ?_
 rintro _ o ⟨rfl,rfl⟩
 rcases V8 l id with⟨e,j⟩|⟨A,z,R,e,j,n,_⟩
 ·simp only[go_sem,e]
  refine zn ?_<;>(simp only[go_sem,j,zEv]<;>try rfl)
 ·have a:decide ((A.length:Int)<0)=false:=by rw[decide_eq_false_iff_not];omega
  have g:A.length<l.length:=by rw[e];simp
  have k:(l.map evC)[A.length]? =some (evC z):=by rw[e];simp
  have c:=(f.app [.box 75 (evC zEv)]).at (i:=A.length) (by rw[zb];exact g)
  have d:=(f.app [.box 75 (evC zEv)]).rows
  have b:(A.length:Int)<l.length:=by omega
  simp only[evC,zEv] at c d
  simp only[go_sem,j,a,d,c,k,b,zb,Int.toNat_natCast,zh]
  refine zn ?_<;>(simp only[go_sem,n]<;>try rfl)
def yi(s:Setup)(at_:Int):Int × Int:=
 let n:=qI at_ 32054399
 let k:=wr (qI s.unit 604800+qI s.cap 604800)
 (xW (wr (n - k)),xW (wr (n+k)))
theorem zHb(h:List Ob)(s:Setup)(a:SA)(k:SIn h s a)(at_:Int):
  ACalls Tryz.prog 95 [je s a,i64 at_] h λr h'=>r=XO (yi s at_)/\h'=h:=by
 refine zi Tryz.f95 [.tmp 4,.tmp 5] 24 rfl rfl rfl rfl rfl rfl (by decide) (⟨_,_,⟨rfl,rfl⟩,.refl⟩) λB=>?_
 simp only[go_sem,k.ones]
 refine zg (c69 _ _ _) ?_
 rintro _ b ⟨rfl,rfl⟩
 simp only[go_sem]
 refine zL rfl [] 0 [(0,0,[]),(3,0,[]),(1,0,[]),(4,0,[]),(2,0,[4]),(5,0,[]),(6,0,[]),(7,0,[])] rfl (by decide) (by decide) ?_
 simp only[go_sem]
 refine zg (c69 _ _ _) ?_
 rintro _ b ⟨rfl,rfl⟩
 simp only[go_sem]
 refine zg (c69 _ _ _) ?_
 rintro _ b ⟨rfl,rfl⟩
 simp only[go_sem]
 refine zg (c17 _ _) ?_
 rintro _ b ⟨rfl,rfl⟩
 simp only[go_sem]
 refine zg (c17 _ _) ?_
 rintro _ b ⟨rfl,rfl⟩
 simp only[go_sem]
 refine zn ?_<;>(simp only[go_sem,yi,XO]<;>try rfl)
def wMa(l:List Int)(n:Int):Int:=match l.findIdx? (n== ·) with
 | some i=>(i:Int)
 | none=> -1
theorem zIb(h:List Ob)(x:AV)(l:List Int)(n:Int)(g:SlOf h x 1 (l.map qn))(C:l.length<1048576):
  ACalls Tryz.prog 224 [x,i64 n] h λr h'=>r=i64 (wMa l n)/\h'=h:=by
 refine zi Tryz.f224 [.tmp 4] 19 rfl rfl rfl rfl rfl rfl (by decide) (⟨_,_,⟨rfl,rfl⟩,.refl⟩) λB=>?_
 simp only[go_sem,g.rows,zb]
 refine zI (by decide) (λm T h'=>∃i:Nat,i<=l.length/\h'=h/\(∀j (c:j<l.length),j<i->(n==l[j])=false)/\T 0=x/\T 1=i64 n/\T 7=i64 l.length/\T 8=i64 i/\m=l.length - i) l.length
  ⟨0,by omega,rfl,λ_ _ q=>by omega,by simp only[go_sem],by simp only[go_sem],by(simp only[go_sem]<;>rfl),by(simp only[go_sem]<;>rfl),rfl⟩ ?_
 rintro m T h' ⟨i,hi,rfl,h0,t0,t1,v,t8,rfl⟩
 simp only[go_sem,v,t8]
 refine ways (λe=>?_) (λe=>?_)
 ·have b:=dlt e
  have a:=XH b
  have t:=g.at (i:=i) (by rw[zb];exact b)
  have s:=g.rows
  have o:(i:Int)<l.length:=by omega
  obtain⟨z,p⟩:∃z,z=l[i]:=⟨_,rfl⟩
  rw[<-p] at a
  simp only[go_sem,t0,t1,t8,t,s,a,o,zb,Int.toNat_natCast,zh]
  refine ways (λf=>?_) (λf=>?_)
  ·have d:wMa l n=i:=by
    unfold wMa
    rw[List.findIdx?_eq_some_iff_getElem.2 ⟨b,by rw[<-p];exact f,λj c=>by simp[h0 j (by omega) c]⟩]
   simp only[go_sem,t8]
   refine zn ?_<;>(simp only[go_sem,d]<;>try rfl)
  ·have f:(n==z)=false:=by simpa using f
   simp only[go_sem,t8]
   refine⟨l.length - (i+1),by omega,i+1,by omega,λj c q=>?_,t0,t1,v,qf (by omega) rfl,rfl⟩
   by_cases u:j=i
   ·subst u;rw[<-p];exact f
   ·exact h0 j c (by omega)
 ·have w:=j9 e
  have k:i=l.length:=by omega
  subst k
  have d:wMa l n= -1:=by
   unfold wMa
   rw[List.findIdx?_eq_none_iff.2 (λy A=>by
    obtain⟨j,c,rfl⟩:=List.getElem_of_mem A
    exact h0 j c c)]
  simp only[go_sem]
  refine zn ?_<;>(simp only[go_sem,d]<;>try rfl)
theorem Wwa(l:List Int)(n:Int):decide (wMa l n≥0)=l.any (n== ·):=by
 unfold wMa
 cases h:l.findIdx? (n== ·) with
 | none=>
   rw[List.findIdx?_eq_none_iff] at h
   have:l.any (n== ·)=false:=by rw[List.any_eq_false];intro y a;simp[h y a]
   rw[this];rfl
 | some i=>
   obtain⟨hi,b,_⟩:=List.findIdx?_eq_some_iff_getElem.1 h
   have:l.any (n== ·)=true:=List.any_eq_true.2 ⟨_,zy hi,b⟩
   rw[this]
   simp
theorem q5a(h:List Ob)(x:AV)(l:List Int)(n:Int)(a:SlOf h x 1 (l.map qn))(b:l.length<1048576):
  ACalls Tryz.prog 170 [x,i64 n] h λr h'=>r=bl (l.any (n== ·))/\h'=h:=by
 refine zi Tryz.f170 [.tmp 4] 9 rfl rfl rfl rfl rfl rfl (by decide) (⟨_,_,⟨rfl,rfl⟩,.refl⟩) λB=>?_
 simp only[go_sem]
 refine zg (zIb _ x l n a b) ?_
 rintro _ c ⟨rfl,rfl⟩
 simp only[go_sem,Wwa]
 refine zn ?_<;>(simp only[go_sem]<;>try rfl)
theorem Qc:∀ {l:List Ev},Srt l->qv l=l
 | [],_=>rfl
 | x::l,⟨a,c⟩=>by
   rw[qv,Qc c]
   cases l with
   | nil=>rfl
   | cons y b=>rw[vH,a y (by simp)];rfl
theorem QIa(l:List Ev):qv (qv l)=qv l:=Qc (ko l)
theorem zGa{s:Setup}{l:List Ev}{w:Int}:qA s (XQ s w l) w=qA s l w:=by
 have h:qv ((XQ s w l).filter (yf s w))=qv (l.filter (yf s w)):=by
  rw[XUa, <-wo,QIa,List.filter_filter]
  congr 1
  refine List.filter_congr λe _=>?_
  unfold yf Qn
  by_cases a:e.worker=w
  ·simp[a]
  ·simp[a]
 unfold qA
 rw[jVa,jVa,h]
def Z0(L:List Seg):Int:=(L.map λg=>g.to_ - g.from_).sum
theorem yXa{L:List Seg}(h:∀g∈L,g.from_<g.to_):0<=Z0 L/\(L≠[]->0<Z0 L):=by
 induction L with
 | nil=>simp[Z0]
 | cons g L b=>
   have c:=b λx a=>h x (.tail _ a)
   have d:=h g (.head _)
   refine⟨?_,λ_=>?_⟩<;> · simp only[Z0,List.map_cons,List.sum_cons] at *; omega
theorem kSa{p:Seg->Bool}{L:List Seg}(h:∀g∈L,g.from_<g.to_):Z0 (L.filter p)<=Z0 L:=by
 induction L with
 | nil=>simp
 | cons g L b=>
   have c:=b λx a=>h x (.tail _ a)
   have d:=h g (.head _)
   rw[List.filter_cons]
   split<;> · simp only[Z0,List.map_cons,List.sum_cons] at *; omega
theorem yYa{hi:Int}:∀ {L:List Seg} {lo:Int},lo<=hi->(∀g∈L,lo<=g.from_/\g.from_<g.to_/\g.to_<=hi)->L.Pairwise (λa b=>a.to_<=b.from_)->Z0 L<=hi - lo
 | [],lo,h,_,_=>by simp[Z0];omega
 | g::L,lo,h,e,c=>by
   rw[zR] at c
   have f:=e g (.head _)
   have:=yYa (L:=L) (lo:=g.to_) f.2.2 (λx d=>⟨c.1 x d,(e x (.tail _ d)).2⟩) c.2
   simp only[Z0,List.map_cons,List.sum_cons] at*
   omega
theorem kTa{L:List Seg}(h:RiseTo L 32054400):Z0 L<=32054400:=by
 have:=yYa (hi:=32054400) (lo:=0) (by decide) h.each h.gap
 omega
theorem kUa:∀(L:List Seg) (n:Int),(∀g∈L,0<=g.from_/\g.from_<g.to_/\g.to_<=32054400)->0<=n->n+Z0 L<=4611686018427387904->L.foldl (λn g=>wr (n+wr (g.to_ - g.from_))) n=n+Z0 L
 | [],n,_,_,_=>by simp[Z0]
 | g::L,n,b,h0,c=>by
   have f:=b g (.head _)
   have e:=(yXa (L:=L) λx a=>(b x (.tail _ a)).2.1).1
   have d:Z0 (g::L)=(g.to_ - g.from_)+Z0 L:=by simp[Z0]
   rw[d] at c⊢
   rw[List.foldl_cons,qp (n:=g.to_ - g.from_) (by unfold Fit;omega),qp (n:=n+(g.to_ - g.from_)) (by unfold Fit;omega),kUa L _ (λx a=>b x (.tail _ a)) (by omega) (by omega)]
   omega
theorem Kga{L:List Seg}(h:RiseTo L 32054400)(k:Int):kya k L=Z0 (L.filter (jI k)):=by
 have b:=kTa h
 have c:=kSa (p:=jI k) λg a=>(h.each g a).2.1
 unfold kya V5a
 rw[kUa _ 0 (λg a=>h.each g (zT.1 a).1) (by decide) (by omega)]
 omega
theorem Jo(n:Int):0<=xW n/\xW n<53:=by
 unfold xW ofI qI
 have h0:0<=min (max n 0) 32054399/\min (max n 0) 32054399<=32054399:=by omega
 rw[Int.tdiv_eq_ediv_of_nonneg h0.1,qp (by unfold Fit;omega)]
 omega
theorem QJa{s:Setup}{l:List Ev}{w k:Int}(a:z6 s=true):(vA s l w k).eligible=Z0 ((qA s l w).1.filter (jI k)):=by
 obtain⟨b,_⟩:=yW (s:=s) (l:=l) (w:=w) a
 unfold vA
 rw[if_pos a,zGa,zua,XSa,Kga b]
theorem Kha{L:List Seg}(h:RiseTo L 32054400)(k:Int):(0<=Z0 (L.filter (jI k))/\Z0 (L.filter (jI k))<=32054400)/\decide (Z0 (L.filter (jI k))>0)=L.any (jI k):=by
 have h0:=yXa (L:=L.filter (jI k)) λg a=>(h.each g (zT.1 a).1).2.1
 have e:=kTa h
 have d:=kSa (p:=jI k) λg a=>(h.each g a).2.1
 refine⟨⟨h0.1,by omega⟩,?_⟩
 cases c:L.any (jI k)
 ·have:L.filter (jI k)=[]:=by
   rw[List.filter_eq_nil_iff]
   intro g a b
   rw[List.any_eq_false] at c
   exact c g a b
  rw[this];rfl
 ·obtain⟨g,a,b⟩:=List.any_eq_true.1 c
  have:L.filter (jI k)≠[]:=List.ne_nil_of_mem (zT.2 ⟨a,b⟩)
  simpa using h0.2 this
