import Derived.Test.YtigdlmpjijhpaaaGreatKA
import Derived.Test.YtigdlmpjijhpaaaGreatK38
import Derived.Lib.AppendZeros
import Derived.Test.YtigdlmpjijhpaaaGreatK33
import Derived.Test.YtigdlmpjijhpaaaGreatK37
import Derived.Test.YtigdlmpjijhpaaaGreatK19
import Derived.Test.YtigdlmpjijhpaaaGreatK30
import Derived.Test.YtigdlmpjijhpaaaGreatK31
import Derived.Test.YtigdlmpjijhpaaaGreatK27
import Derived.Test.YtigdlmpjijhpaaaGreatK35
import Derived.Lib.Strings
import Derived.Lib.Slices
import Derived.Lib.Small
import Derived.Lib.Walk
import Derived.Lib.BitFns
set_option linter.all false
namespace Go.Proofs.YtigdlmpjijhpaaaGreat.Ax
open Go Go.Proofs Go.RowKit Go.Lib
set_option maxRecDepth 100000
theorem vba:∃i,Tryz.prog.info? 3=some i/\i.zero=some (.int .i64 0)/\i.size=1/\i.bytes=8:=by
 have h:(Tryz.prog.info? 3).map (λi=>(i.zero,i.size,i.bytes))=some (some (.int .i64 0),1,8):=by kernel_rfl
 cases hi:Tryz.prog.info? 3 with
 | none=>rw[hi] at h;cases h
 | some i=>
   rw[hi] at h
   injection h with h
   injection h with h1 h2
   injection h2 with h2 h3
   exact⟨i,rfl,h1,h2,h3⟩
theorem JBa{N:Nat}{B:Bs}{w:World}{g:Gh}{h:List Ob}{a:Act}{T b:Env}(r:Rel N B w g h a T)(c:∀i,b i=T i∨b i= .bad):Rel N B w g h a b:=
 ⟨r.ok,r.hB,λi=>by
  rcases c i with e|e
  ·rw[e];exact r.t i
  ·rw[e];trivial,r.d,r.n⟩
theorem vca{P:Program}{N:Nat}{B:Bs}{φ:Nat->Ob}{ops:Array Oper}{o:Oper}{l:List Oper}{T:Env}{h h':List Ob}{x:AV}{w:World}{g:Gh}{a:Act}{Q:Exit->Act->World->Prop}(p:Upto φ h.length)(j:kC N o=true)(k:o.guard=none)(m:wD T o.op=none)
  (d:zW P T h o.op=some (x,h')) (r:Rel N B w g (fill φ h) a T) (next:∀g' w' c,ResK h h'->Rel N B w' g' (fill φ h') c (qK T o.dst x)->Good B.b w g (fill φ h) w' g' (fill φ h')->wpListIn Fence.wide 0 P ops Q l c w'):wpListIn Fence.wide 0 P ops Q (o::l) a w:=by
 unfold wpListIn
 rw[if_pos (by simp[Region.wanted,k])]
 refine JG (K:=λf e=>f=qK T o.dst x/\e=h') 0 p j ?_ r ?_
 ·unfold K1
  rw[m]
  unfold wj
  rw[d]
  exact⟨rfl,rfl⟩
 ·rintro f e w' c ⟨rfl,rfl⟩ ⟨g',q,n,i⟩
  exact next g' w' c q n i
theorem jBa(w:World)(b:Nat):(Instr.sliceAt 42 (.pointer (some ⟨b,0,none⟩)) none none none).run Tryz.prog w= .ok (.slice (some ⟨b,0,none⟩) 7 7) w:=by
 obtain⟨i,hi,d,e,c⟩:=vba
 have a:Tryz.prog.underlying 42=some (.array 7 3):=Tryz.underlying42
 simp[Instr.sliceAt,Instr.sureAddr,run_underlying a,Instr.sliceBounds,sizeOf,typeInfo,hi,Addr.add_lit]
set_option maxHeartbeats 1000000 in
theorem JCa{N:Nat}{B:Bs}{T:Env}{h:List Ob}{Q:jA}{id i p q d D m d3:Nat}{ops:Array Oper}{L o1 o2 O:Oper}{rest:List Oper}(f:Nat->Int)(v:Int)(M:ops.toList=L::o1::o2::O::rest)
  (hd:ops.toList.all (kC N)=true) (e0:L.op= .slice 42 (.tmp p) none none none) (s0:L.dst=some d) (g0:L.guard=none)
  (e1:o1.op= .move (.tmp q)) (s1:o1.dst=some D) (g1:o1.guard=none)
  (e2:o2.op= .buildSlice 27 1 #[(0,.tmp D)]) (s2:o2.dst=some m) (g2:o2.guard=none)
  (e3:O.op= .call { callee:= .builtin .append,args:= #[.tmp d,.tmp m],argTypes:= #[27,27] }) (s3:O.dst=some d3) (g3:O.guard=none)
  (n01:D≠d) (n02:m≠d) (nq:q≠d)
  (hp:T p= .ptr i 0) (hb:h[i]? =some (.box 42 (wC f))) (hq:T q=i64 v)
  (k:wpR Tryz.prog ops (Q .normal) rest (upd (upd (upd (upd T d .bad) D (i64 v)) m (.tl h.length 0)) d3 (.tl (h.length+1) 0)) (h++[.row 3 1 [[i64 v]] 0]++[.row 3 1 ([f 0,f 1,f 2,f 3,f 4,f 5,f 6,v].map qI) 0])):
  AWp Tryz.prog N B (.region id ops false) Q T h:=λφ hu w g a r=>by
 refine(wpIn_wide (n:=0)).1 (wpIn_region ?_)
 rw[List.range_eq_range', <-qP,wpOpsIn_eq_wpListIn ops.toList 0 (by simp),M]
 rw[M] at hd
 simp only[List.all_cons,zj] at hd
 obtain⟨hd0,hd1,hd2,hd3,hdr⟩:=hd
 have s:=r.t p
 rw[hp] at s
 obtain⟨X,s⟩:=s
 have s:a.eval (.tmp p)= .pointer (some ⟨g.β i,0,none⟩):=s
 have c0:L.wpIn Fence.wide 0 Tryz.prog a w (wpListIn Fence.wide 0 Tryz.prog ops (λe U w'=>∃o h',Q e o h'/\Aft N B φ w g h o h' U w') (o1::o2::O::rest)) (λe U w'=>∃o h',Q e o h'/\Aft N B φ w g h o h' U w'):=by
  refine xX 0 ?_
  unfold Oper.wp
  have κ:(execOp a.eval L).run Tryz.prog w= .ok (.value (.slice (some ⟨g.β i,0,none⟩) 7 7)) w:=by
   obtain⟨dst,op,type,pos,after,guard⟩:=L
   simp only at e0
   subst e0
   have:=jBa w (g.β i)
   simp only[execOp,s]
   simp[this]
  rw[κ]
  show wpListIn Fence.wide 0 Tryz.prog ops _ (o1::o2::O::rest) (a.put L.dst (.slice (some ⟨g.β i,0,none⟩) 7 7)) w
  have r1:=kv (x:= .v (.slice (some ⟨g.β i,0,none⟩) 7 7)) (v:= .slice (some ⟨g.β i,0,none⟩) 7 7) r (Good.refl r.ok r.hB) rfl hd0
  rw[s0] at r1⊢
  obtain⟨R,ε⟩:∃R,R=Value.slice (some ⟨g.β i,0,none⟩) 7 7:=⟨_,rfl⟩
  rw[<-ε] at r1⊢
  obtain⟨W,K⟩:∃W,W=qK T (some d) (.v R):=⟨_,rfl⟩
  rw[<-K] at r1
  have t1q:W q=i64 v:=by rw[K];show upd T d _ q=_;unfold upd;rw[if_neg nq];exact hq
  have t1d:W d= .v R:=by rw[K];show upd T d _ d=_;unfold upd;rw[if_pos rfl]
  refine vca (x:=i64 v) (h':=h) hu hd1 g1 (by rw[e1];rfl) (by rw[e1];simp only[zW,ev,t1q]) r1 ?_
  intro g2' w2 a2 q1 r2 k2
  rw[s1] at r2
  obtain⟨Z,I⟩:∃Z,Z=qK W (some D) (i64 v):=⟨_,rfl⟩
  rw[<-I] at r2
  have t2d:Z d= .v R:=by rw[I];show upd W D _ d=_;unfold upd;rw[if_neg (Ne.symm n01)];exact t1d
  have t2v:Z D=i64 v:=by rw[I];show upd W D _ D=_;unfold upd;rw[if_pos rfl]
  refine vca (x:= .tl h.length 0) (h':=h++[.row 3 1 [[i64 v]] 0]) hu hd2 g2 (by rw[e2];rfl) (by rw[e2];simp only[zW,jp,go_sem,evs,ev,t2v]) r2 ?_
  intro E c a3 q2 z k3
  rw[s2] at z
  obtain⟨T3,H⟩:∃T3,T3=qK Z (some m) (.tl h.length 0):=⟨_,rfl⟩
  rw[<-H] at z
  have t3d:T3 d= .v R:=by rw[H];show upd Z m _ d=_;unfold upd;rw[if_neg (Ne.symm n02)];exact t2d
  have t3v:T3 m= .tl h.length 0:=by rw[H];show upd Z m _ m=_;unfold upd;rw[if_pos rfl]
  obtain⟨A,J⟩:∃A,A=h++[.row 3 1 [[i64 v]] 0]:=⟨_,rfl⟩
  rw[<-J] at z k3 q2 k
  have hl3:A.length=h.length+1:=by rw[J];simp
  have σ:Upto φ A.length:=hu.mono (by omega)
  have hb3:A[i]? =some (.box 42 (wC f)):=by rw[J];exact zf hb
  have hr3:A[h.length]? =some (.row 3 1 [[i64 v]] 0):=by rw[J,zM rfl];rfl
  have kk:=k2.trans k3
  have hβ:E.β i=g.β i:=kk.le.β i X
  have w0:a3.eval (.tmp d)=R:=by
   have:=z.t d
   rw[t3d] at this
   exact this
  have ξ:=z.t m
  rw[t3v] at ξ
  obtain⟨_,_,ν⟩:=ξ
  have S:=qy (φ:=φ) hr3 rfl
  have e4:a3.eval (.tmp m)=E.cur h.length:=(ν 0 (by simp[ctx,S,Ob.tok])).2 rfl
  obtain⟨_,_,cells,c2,c3⟩:=z.ok.ok _ _ S
  obtain⟨u,rr,z1,z2,z3⟩:=c3
  have z2:u= .int .i64 v:=z2
  have z3:rr=[]:=z3
  subst z1 z2 z3
  have Y:=(Vp z.ok (qy (φ:=φ) hb3 rfl)).vals
  obtain⟨vs,v1,v2⟩:=Y
  rw[hβ] at v2
  have F:vs.length=7:=by rw[<-kR v1];rfl
  obtain⟨ii,hi,hz,hs,hby⟩:=vba
  rcases c2.2 with⟨_,e5⟩|⟨gg,cap,cur,e5,e6,e7,e8,e9,e10,e11⟩
  ·cases e5
  ·have e5:E.cur h.length= .slice (some ⟨gg,0,none⟩) 1 cap:=e5
   have C:=run_append_grow (P:=Tryz.prog) c 27 O.type 3 ii (.int .i64 0) Tryz.underlying27 hi hz ⟨g.β i,0,none⟩ 7 7 vs (by rw[hs,F]) v2 ⟨gg,0,none⟩ 1 cap [.int .i64 v] (by rw[hs];rfl) (λj x hx=>by
     have hj:j=0:=by
      cases j with
      | zero=>rfl
      | succ j=>simp at hx
     subst hj
     have hx:x= .int .i64 v:=by simpa using hx.symm
     subst hx
     have:cur[0]? =some (.int .i64 v):=by
      have:=congrArg (λl:List Value=>l[0]?) e11
      simpa [qO] using this
     simp[World.cell?,e7,Addr.add_lit,this]) (by omega) (by omega) (growslice_fits (by omega) (by rw[hby];omega))
   have ζ:=grownCap_ge c 8 7 3
   have ο:=grownCap_le_maxLen c 8 7 3 (by unfold maxLen;omega)
   obtain⟨G,hG⟩:∃G,G=grownCap c (7+1) 7 3:=⟨_,rfl⟩
   have hG8:grownCap c 8 7 3=G:=hG.symm
   rw[hG8] at ζ ο
   rw[<-hG] at C
   obtain⟨cs,V⟩:∃cs:Array Value,cs=vs.toArray++ #[Value.int .i64 v]++Builtin.zeroCells (Value.int .i64 0).cells (G - (7+1)):=⟨_,rfl⟩
   have θ:(vs.toArray++[Value.int .i64 v].toArray++Builtin.zeroCells (Value.int .i64 0).cells (G - (7+1)))=cs:=V.symm
   rw[θ] at C
   have hsz:cs.size=G*1:=by
    rw[V]
    simp only[Array.size_append,YV,List.size_toArray,F]
    simp[Value.cells];omega
   have htk:cs.toList.take (8*1)=vs++[.int .i64 v]:=by
    rw[V]
    simp only[Array.toList_append,List.toList_toArray]
    rw[jt (by simp[F])]
    rw[List.take_of_length_le (by simp[F])]
   have ρ:ARs (ctx c E (fill φ A)) ([f 0,f 1,f 2,f 3,f 4,f 5,f 6,v].map qI).flatten (vs++[.int .i64 v]):=by
    have:=jY v1 (show ARs (ctx c E (fill φ A)) [i64 v] [.int .i64 v] from⟨_,_,rfl,rfl,rfl⟩)
    exact this
   have η:Below c.heap.size c (c.drew.alloc (.cells cs 3)):=(show Below c.heap.size c c.drew from⟨rfl,rfl,rfl,zo _,λ_ _=>rfl⟩).alloc (zo _) _
   obtain⟨m1,m2⟩:=Qo z.ok z.hB (ty:=3) (e:=1) (by decide) (xs:=[f 0,f 1,f 2,f 3,f 4,f 5,f 6,v].map qI) (λx hx=>by
     obtain⟨y,_,rfl⟩:=zx.1 hx
     rfl) (v':= .slice (some ⟨c.heap.size,0,none⟩) 8 G) 0 η
    ⟨by rw[ze,F];rfl,.inr ⟨c.heap.size,G,cs,rfl,z.hB,heap_alloc_new c.drew _,ζ,ο,hsz,htk⟩⟩ ρ (λb hb=>by injection hb with hb;subst hb;exact zo _)
   have hfl:fill φ (A++[.row 3 1 ([f 0,f 1,f 2,f 3,f 4,f 5,f 6,v].map qI) 0])=fill φ A++[.row 3 1 ([f 0,f 1,f 2,f 3,f 4,f 5,f 6,v].map qI) 0]:=jO σ
   rw[qT] at m1 m2
   rw[<-hfl] at m1 m2
   have c3:O.wpIn Fence.wide 0 Tryz.prog a3 c (wpListIn Fence.wide 0 Tryz.prog ops (λe U w'=>∃o h',Q e o h'/\Aft N B φ w g h o h' U w') rest) (λe U w'=>∃o h',Q e o h'/\Aft N B φ w g h o h' U w'):=by
    refine xX 0 (wp_append_run c (.tmp d) (.tmp m) 27 27 e3 R (.slice (some ⟨gg,0,none⟩) 1 cap) w0 (by rw[e4,e5]) (.slice (some ⟨c.heap.size,0,none⟩) 8 G) (c.drew.alloc (.cells cs 3)) (by rw[ε];exact C) ?_)
    have r4:=kv (x:= .tl A.length 0) (v:= .slice (some ⟨c.heap.size,0,none⟩) 8 G) z m1 m2 hd3
    rw[s3] at r4⊢
    have r5:Rel N B _ _ _ _ (upd (upd (upd (upd T d .bad) D (i64 v)) m (.tl h.length 0)) d3 (.tl (h.length+1) 0)):=JBa r4 (λj=>by
     rw[H,I,K,hl3]
     simp only[qK,upd]
     by_cases j3:j=d3
     ·rw[if_pos j3,if_pos j3];exact .inl rfl
     ·rw[if_neg j3,if_neg j3]
      by_cases j2:j=m
      ·rw[if_pos j2,if_pos j2];exact .inl rfl
      ·rw[if_neg j2,if_neg j2]
       by_cases j1:j=D
       ·rw[if_pos j1,if_pos j1];exact .inl rfl
       ·rw[if_neg j1,if_neg j1]
        by_cases j0:j=d
        ·rw[if_pos j0];exact .inr rfl
        ·rw[if_neg j0,if_neg j0];exact .inl rfl)
    refine yr rest hdr (σ.mono (by rw[ze];omega)) (VL _ k) r5 ?_
    intro o h' w' U q hq4
    refine⟨o,h',q,hq4.trans ?_ ((k2.trans k3).trans m1)⟩
    exact(q1.trans q2).trans q8
   unfold wpListIn
   rw[if_pos (by simp[Region.wanted,g3])]
   exact c3
 unfold wpListIn
 rw[if_pos (by simp[Region.wanted,g0])]
 exact c0
end Go.Proofs.YtigdlmpjijhpaaaGreat.Ax
namespace Go.Proofs.YtigdlmpjijhpaaaGreat.Ax
open Go Go.Proofs
set_option maxRecDepth 100000
section
variable {P:Program} {N:Nat} {B:Bs} {Q:jA} {T:Env} {h:List Ob}
theorem qF{c:Code}(k:AWp P N B c Q T h): @wM P N B ⟨(c,Q)⟩ T h:=k
theorem qi{c c':Code}(a:okC N c=true)(k:wpC P N B c (wL (λT h=> @wM P N B ⟨(c',Q)⟩ T h) Q) T h):AWp P N B (.seq c c') Q T h:=Vb (qz _ a k)
theorem jr{c c':Code}(k:AWp P N B c (wL (λT h=> @wM P N B ⟨(c',Q)⟩ T h) Q) T h):AWp P N B (.seq c c') Q T h:=Vb k
theorem Vk{c c':Code}(S:Env->List Ob->Prop)(a:okC N c=true)(k1:wpC P N B c (wL S Q) T h)(k2:∀T h,S T h->AWp P N B c' Q T h):AWp P N B (.seq c c') Q T h:=
 Vb ((qz _ a k1).mono λe T h q=>by cases e<;>first|exact k2 _ _ q|exact q)
end
def QS(s:Setup)(w:Nat):Int:=s.rates.getD w 0
def kO(s:Setup)(w:Nat)(t:Nat->Int)(j:Nat):Int:=if j=0 then 0 else Ye (wr (Z8 (t j)*yS s (QS s w) j)) 7200
def Ql(t:Nat->Int):Nat->Int
 | 0=>0
 | j+1=>if j=0 then 0 else wr (Ql t j+Z8 (t j))
def KP(s:Setup)(i:Nat):Int:=(s.tiers.getD i (0,0)).2
def kP(s:Setup)(g tier:Int):Int:=if 0<=tier/\tier<s.tiers.length then Ye (wr (Z8 g*KP s tier.toNat)) 3600 else 0
structure PayR where
 pays:Nat->Int
 extra:Int
 supp:Int
 total:Int
def z1a(s:Setup)(w:Nat)(t:Nat->Int)(g tier:Int):PayR:=
 let p:=kO s w t
 let e:=kP s g tier
 let sum:=(J1 0 [p 0,p 1,p 2,p 3,p 4,p 5,p 6,e]).1
 let least:=(upI (wr (Ql t 7*s.least)) 3600).1
 let supp:=max 0 (wr (least - sum))
 ⟨p,e,supp,wr (sum+supp)⟩
def JDa(p:PayR):AV:= .tup [.ag (wC p.pays),i64 p.extra,i64 p.supp,i64 p.total,i64 0]
structure PB (h h':List Ob) (s:Setup) (a:SA) (t u:Nat->Int):Prop where
 pre:Pre h h'
 set_:h'[h.length]? =some (.box 30 (qa s a))
 tot:h'[h.length+1]? =some (.box 42 (wC t))
 pay:h'[h.length+2]? =some (.box 42 (wC u))
theorem PB.app{h h':List Ob}{s:Setup}{a:SA}{t u:Nat->Int}(k:PB h h' s a t u){M:List Ob}(b:NoRes M):PB h (h'++M) s a t u:=⟨k.pre.app b,zf k.set_,zf k.tot,zf k.pay⟩
theorem PB.put{h h':List Ob}{s:Setup}{a:SA}{t u b:Nat->Int}(k:PB h h' s a t u):PB h (h'.set (h.length+2) (.box 42 (wC b))) s a t b:=
 ⟨k.pre.set (by omega) rfl,by rw[zc (by omega)];exact k.set_,by rw[zc (by omega)];exact k.tot,zq k.pay⟩
theorem Ywa(h:List Ob)(s:Setup)(a:SA)(k:SIn h s a)(f:SFit s)(ε:qo s=true)(w:Nat)(hw:w<s.rates.length)(t:Nat->Int)(g tier:Int):
  ACalls Tryz.prog 60 [jm s a,i64 w,.ag (wC t),i64 g,i64 tier] h λr h'=>r=JDa (z1a s w t g tier)/\h'=h:=by
 have υ:=k.r.rows
 refine yu (N:=105) (rs:=[.cell 10 42,.tmp 11,.tmp 12,.tmp 13,.tmp 14]) (fn:=Tryz.f60) rfl rfl rfl rfl (ji rfl) rfl (⟨_,_,⟨rfl,rfl⟩,.refl⟩) λB=>?_
 refine qi (by decide) ?_
 simp only[go_sem,k.ones]
 refine qF (qi (by decide) ?_)
 simp only[go_sem,k.ones]
 refine zi (c16 _ s a (k.app _) f) ?_
 rintro _ J ⟨rfl,rfl⟩
 simp only[go_sem,ε,qE,Bool.not_true]
 refine qF (qi (by decide) ?_)
 have S:decide ((w:Int)<0)=false:=by rw[decide_eq_false_iff_not];omega
 have K:decide ((w:Int)≥(s.rates.length:Int))=false:=by rw[decide_eq_false_iff_not];omega
 have η:∀M,zZ (h++M) a.r=some (s.rates.map qI):=λM=>(k.app M).r.rows
 simp only[go_sem,S,qE,η,K,zb]
 refine qF (qi (by decide) ?_)
 simp only[go_sem]
 refine qF (qi (by decide) ?_)
 simp only[go_sem]
 refine zO (by decide) (λm T h'=>∃n:Nat,n<=7/\PB h h' s a t (λj=>if j<n then kO s w t j else 0)/\T 1=i64 w/\T 3=i64 g/\T 4=i64 tier/\T 5= .ptr h.length 0/\T 7= .ptr (h.length+1) 0/\T 10= .ptr (h.length+2) 0/\T 11=i64 0/\T 15=i64 (Ql t n)/\T 34=i64 n/\m=7 - n) 7
  ⟨0,by omega,⟨⟨_,rfl,zp rfl (zp rfl (zF rfl))⟩,by rw[zM rfl];rfl,by rw[zN (k:=1) rfl];rfl,by rw[zN (k:=2) rfl];rfl⟩,by simp only[go_sem],by simp only[go_sem],by simp only[go_sem],by simp only[go_sem],by simp only[go_sem],by simp only[go_sem],by simp only[go_sem],by(simp only[go_sem]<;>rfl),by(simp only[go_sem]<;>rfl),rfl⟩ ?_
 rintro m T h' ⟨n,hn,u,t1,t3,t4,t5,W,t10,o,v,x,rfl⟩
 simp only[go_sem,x]
 refine ways (λe=>?_) (λe=>?_)
 ·have y:(n:Int)<7:=of_decide_eq_true e
  have l:n<7:=by omega
  simp only[go_sem,x]
  refine ways (λe0=>?_) (λe0=>?_)
  ·have D:n=0:=by simpa using e0
   subst D
   simp only[go_sem,x]
   have hu:(λj:Nat=>if j<0+1 then kO s w t j else 0)=λj=>if j<0 then kO s w t j else 0:=by
    funext j
    by_cases hj:j=0
    ·subst hj;rfl
    ·rw[if_neg (by omega),if_neg (by omega)]
   exact⟨6,by omega,1,by omega,by rw[hu];exact u,t1,t3,t4,t5,W,t10,o,v,rfl,rfl⟩
  ·have D:¬ n=0:=by simpa using e0
   have X:=u.tot
   have hg:=ZRa t l
   simp only[go_sem,W,x,X,hg,y,l,Nat.mul_one,Nat.zero_add,Int.toNat_natCast,zg]
   refine zi (jAa _ _) ?_
   rintro _ z ⟨rfl,e2⟩
   rw[e2]
   simp only[go_sem,v]
   refine zV rfl [] 0 [(0,0,[]),(1,0,[]),(3,0,[]),(5,0,[]),(8,0,[]),(2,0,[]),(4,0,[]),(6,0,[]),(7,0,[]),(9,0,[]),(10,0,[]),(11,0,[]),(12,0,[]),(13,0,[])] rfl (by decide) (by decide) ?_
   have b:=u.set_
   have A:=u.pay
   have d:=((u.pre.sin k).r).rows
   have G:=((u.pre.sin k).r).at (i:=w) (by rw[zb];exact hw)
   have c:(s.rates.map qI)[w]? =some [i64 (QS s w)]:=by
    rw[zr,zh hw]
    simp[QS,List.getD,hw,qI]
   have F:(w:Int)<s.rates.length:=by omega
   have E:=jya (λj=>if j<n then kO s w t j else 0) l (kO s w t n)
   have α:(λj:Nat=>if j=n then kO s w t n else if j<n then kO s w t j else 0)=λj:Nat=>if j<n+1 then kO s w t j else 0:=by
    funext j
    by_cases J:j=n
    ·subst J;rw[if_pos rfl,if_pos (by omega)]
    ·rw[if_neg J]
     by_cases z:j<n
     ·rw[if_pos z,if_pos (by omega)]
     ·rw[if_neg z,if_neg (by omega)]
   rw[α] at E
   simp only[go_sem,t1,t5,t10,x,b,A,d,G,c,F,y,l,zb,Nat.mul_one,Nat.zero_add,Int.toNat_natCast,zg]
   refine zi (KJa _ s a (u.pre.sin k) (QS s w) n (by omega)) ?_
   rintro _ h3 ⟨rfl,R⟩
   rw[R]
   simp only[go_sem,t1,t5,t10,x,b,A,d,G,c,F,y,l,zb,Nat.mul_one,Nat.zero_add,Int.toNat_natCast,zg]
   refine zi (XMa _ _ _) ?_
   rintro _ h4 ⟨rfl,O⟩
   rw[O]
   have γ:Ye (IntKind.wrap .i64 (Z8 (t n)*yS s (QS s w) n)) 7200=kO s w t n:=by unfold kO;rw[if_neg D]
   rw[γ]
   simp only[go_sem,t1,t5,t10,x,b,A,d,G,c,F,E,y,l,zb,Nat.mul_one,Nat.zero_add,Int.toNat_natCast,zg]
   exact⟨7 - (n+1),by omega,n+1,by omega,u.put,t3,t4,W,o,by rw[Ql,if_neg D],qc (by omega) rfl,rfl⟩
 ·have K:¬ (n:Int)<7:=of_decide_eq_false e
  have Z:n=7:=by omega
  subst Z
  simp only[go_sem]
  have ν:(λj:Nat=>if j<7 then kO s w t j else 0)=λj:Nat=>if j<7 then kO s w t j else 0:=rfl
  refine qF (Vk (λQ z=>PB h z s a t (λj=>if j<7 then kO s w t j else 0)/\Q 5= .ptr h.length 0/\Q 10= .ptr (h.length+2) 0/\Q 11=i64 (kP s g tier)/\Q 15=i64 (Ql t 7)) (by decide) ?_ ?_)
  ·have b:=u.set_
   have d:=((u.pre.sin k).t).rows
   simp only[go_sem,t4,t5,b,d,zb]
   cases P:decide (tier≥0)
   ·have J:¬ tier≥0:=of_decide_eq_false P
    have hex:kP s g tier=0:=by unfold kP;rw[if_neg (λq=>J q.1)]
    simp only[go_sem,P,qE]
    rw[hex]
    exact⟨u,t5,t10,o,v⟩
   ·have J:0<=tier:=of_decide_eq_true P
    cases V:decide (tier<s.tiers.length)
    ·have z:¬ tier<s.tiers.length:=of_decide_eq_false V
     have hex:kP s g tier=0:=by unfold kP;rw[if_neg (λq=>z q.2)]
     simp only[go_sem,P,V,qE,t4,t5,b,d,zb]
     rw[hex]
     exact⟨u,t10,o,v⟩
    ·have z:tier<s.tiers.length:=of_decide_eq_true V
     simp only[go_sem,P,V,qE,t4,t5,b,d,zb]
     obtain⟨C,β⟩:∃C:Nat,(C:Int)=tier:=⟨tier.toNat,by omega⟩
     subst β
     have y:C<s.tiers.length:=by omega
     have I:=((u.pre.sin k).t).at (i:=C) (by rw[zb];exact y)
     have c:(s.tiers.map jG)[C]? =some [i64 (s.tiers.getD C (0,0)).1,i64 (s.tiers.getD C (0,0)).2]:=by
      rw[zr,zh y]
      simp[List.getD,y,jG]
     have hex:kP s g C=Ye (wr (Z8 g*KP s C)) 3600:=by unfold kP;rw[if_pos ⟨by omega,z⟩];rfl
     refine zV rfl [] 0 [(0,0,[]),(2,0,[]),(4,0,[]),(3,0,[]),(5,0,[]),(6,0,[]),(7,0,[]),(1,0,[3,5,7]),(8,0,[]),(9,0,[]),(10,0,[])] rfl (by decide) (by decide) ?_
     simp only[go_sem,t3,t4,t5,b,d,I,c,z,zb,Int.toNat_natCast,zg]
     refine zi (jAa _ _) ?_
     rintro _ h3 ⟨rfl,R⟩
     rw[R]
     simp only[go_sem,t3,t4,t5,b,d,I,c,z,zb,Int.toNat_natCast,zg]
     refine zi (XMa _ _ _) ?_
     rintro _ h4 ⟨rfl,O⟩
     rw[O]
     rw[show Ye (IntKind.wrap .i64 (Z8 g*(s.tiers.getD C (0,0)).2)) 3600=kP s g C from hex.symm]
     simp only[go_sem,t3,t4,t5,b,d,I,c,z,zb,Int.toNat_natCast,zg]
     exact⟨u,t10,v⟩
  ·clear t1 t3 t4 t5 W t10 o v x u
   rintro Q z ⟨u,t5,t10,o,v⟩
   refine jr (JCa (λj=>if j<7 then kO s w t j else 0) (kP s g tier) rfl (by decide) rfl rfl rfl rfl rfl rfl rfl rfl rfl rfl rfl rfl (by decide) (by decide) (by decide) t10 u.pay o ?_)
   simp only[go_sem]
   obtain⟨p,hp⟩:∃p,p=kO s w t:=⟨_,rfl⟩
   obtain⟨e,Y⟩:∃e,e=kP s g tier:=⟨_,rfl⟩
   rw[<-hp, <-Y]
   refine zi (Yva _ (.tl (z.length+1) 0) [p 0,p 1,p 2,p 3,p 4,p 5,p 6,e] ⟨by rw[qS,zN (k:=1) rfl];rfl,λ_=>by rw[j5,zN (k:=1) rfl];rfl⟩ (by show 8<1048576;decide)) ?_
   rintro _ h3 ⟨rfl,R⟩
   rw[R]
   simp only[go_sem,Kc]
   refine qF (qi (by decide) ?_)
   have H:=(u.app (M:=[.row 3 1 [[i64 e]] 0,.row 3 1 [qI (p 0),qI (p 1),qI (p 2),qI (p 3),qI (p 4),qI (p 5),qI (p 6),qI e] 0]) (zp rfl (zF rfl)))
   have b:=H.set_
   have A:(z++[.row 3 1 [[i64 e]] 0,.row 3 1 [qI (p 0),qI (p 1),qI (p 2),qI (p 3),qI (p 4),qI (p 5),qI (p 6),qI e] 0])[h.length+2]? =some (.box 42 (wC p)):=by
    have:=H.pay
    rw[show(wC λj=>if j<7 then kO s w t j else 0)=wC p by rw[hp];rfl] at this
    exact this
   simp only[go_sem,t5,v,b]
   refine zi (cUp _ _ _) ?_
   rintro _ h4 ⟨rfl,O⟩
   rw[O]
   simp only[go_sem,Kc]
   refine qF (qz _ (by decide) ?_)
   have hq:z1a s w t g tier=⟨p,e,max 0 (wr ((upI (wr (Ql t 7*s.least)) 3600).1 - (J1 0 [p 0,p 1,p 2,p 3,p 4,p 5,p 6,e]).1)),wr ((J1 0 [p 0,p 1,p 2,p 3,p 4,p 5,p 6,e]).1+max 0 (wr ((upI (wr (Ql t 7*s.least)) 3600).1 - (J1 0 [p 0,p 1,p 2,p 3,p 4,p 5,p 6,e]).1)))⟩:=by rw[hp,Y];rfl
   rw[hq]
   obtain⟨S0,ο⟩:∃S0,S0=(J1 0 [p 0,p 1,p 2,p 3,p 4,p 5,p 6,e]).1:=⟨_,rfl⟩
   obtain⟨U,hU⟩:∃U,U=(upI (wr (Ql t 7*s.least)) 3600).1:=⟨_,rfl⟩
   simp only[go_sem,t10,A]
   rw[qX A]
   obtain⟨L,hL,hN⟩:=H.pre
   refine⟨JDa _,?_,.inr ⟨h,L,hL,rfl,rfl,.refl,rfl,rfl⟩⟩
   rw[<-Y] at o
   simp only[go_sem,t10,o,A,JDa,ZW]
end Go.Proofs.YtigdlmpjijhpaaaGreat.Ax
namespace Go.Proofs.YtigdlmpjijhpaaaGreat.Ax
open Go Go.RowKit
def Wja(P:Program)(rs:List ResultVar)(h:List Ob)(R:AV->List Ob->Prop)(X:List PanicEntry->List Ob->Prop):jA
 | .normal,T,h' | .ret,T,h'=>∃r,Zi P T h' rs=some r/\(R r h'∨∃a L,h'=a++L/\a.length=h.length/\r.lt a.length=true/\KeepLt h a/\R r a)
 | .panic b,_,h'=>X b h'
 | _,_,_=>False
section
variable {P:Program} {N:Nat} {B:Bs} {T:Env} {h:List Ob} {R:AV->List Ob->Prop} {X:List PanicEntry->List Ob->Prop}
theorem Kp{φ:Nat->Ob}{rs:List ResultVar}{r:AV}(k:Zi P T h rs=some r):Zi P T (fill φ h) rs=some r:=by
 unfold Zi at k⊢
 obtain⟨xs,a,b⟩:=Option.map_eq_some_iff.1 k
 rw[Qt rs a]
 exact congrArg some b
theorem Kq{f:FuncId}(fn:Func){c:Code}{ar:List AV}(rs:List ResultVar)(N:Nat)(O:P.funcs[f]? =some fn)(Q:fn.body=some c)(S:fn.ntmps=N)(y:fn.results.toList=rs)(E:ar.length.ble N=true)(z:JF P f=true)
  (k:∀B,AWp P N B c (Wja P rs h R X) (nth ar) h):PCalls P f ar h R X:=by
 subst S y
 have E:=ji E
 refine⟨z,λφ A B w g vs F hB a=>?_⟩
 have D:=kR a
 refine calls_of_wp O Q ?_
 have o:Rel fn.ntmps ⟨B,[]⟩ w g (fill φ h) { tmps:=vs.toArray++Array.replicate (fn.ntmps - vs.toArray.size) undef,defers:=[] } (nth ar):=by
  refine⟨F,hB,λi=>?_,rfl,by simp;omega⟩
  by_cases hi:i<ar.length
  ·obtain⟨u,l,n⟩:=vv a i hi
   have:(vs.toArray++Array.replicate (fn.ntmps - vs.toArray.size) undef).getD i undef=u:=by
    rw[zt,Array.getElem?_append_left (by simp;omega)]
    simp[l]
   simp only[this]
   exact n
  ·rw[Vf (by omega)]
   trivial
 refine wp_mono (k ⟨B,[]⟩ φ A w g _ o) λe G w' ⟨M,h',l,g',C,n,m⟩=>?_
 have fin:(∃r,Zi P M h' fn.results.toList=some r/\(R r h'∨∃b L,h'=b++L/\b.length=h.length/\r.lt b.length=true/\KeepLt h b/\R r b))->G.defers=[]/\∃v,(results fn G.tmps).run P w'= .ok v w'/\((∃v' r h' g',Ending.returned v= .returned v'/\R r h'/\ResK h h'/\Good B w g (fill φ h) w' g' (fill φ h')/\AR (ctx w' g' (fill φ h')) r v')∨
   ∃p h' g',Ending.returned v= .panicked p/\X p h'/\ResK h h'/\Good B w g (fill φ h) w' g' (fill φ h')):=by
  rintro ⟨r,K,q⟩
  obtain⟨v,H,x⟩:=Vg (fn:=fn) m.ok m.size n.t (Kp K)
  refine⟨n.d,v,H,.inl ?_⟩
  rcases q with q|⟨b,L,rfl,p1,p2,J,I⟩
  ·exact⟨v,r,h',g',rfl,q,C,m,x⟩
  ·have s:Upto φ b.length:=A.mono (by omega)
   rw[jO s] at m x
   refine⟨v,r,b,g',rfl,I,λi hi=>?_,m.drop (by rw[qT,qT,p1]) ?_,AR.less (kG w' g' (fill φ b) L) _ _ (by rw[qT];exact p2) x⟩
   ·have:=C i hi
    rw[zC (by rw[p1];exact(zd.1 hi).1)] at this
    exact this
   ·rw[qT]
    have j:=F.ids
    rw[qT] at j
    exact J φ A j
 cases e with
 | normal=>exact fin l
 | ret=>exact fin l
 | panic p=>exact⟨n.d,.inr ⟨p,h',g',rfl,l,C,m⟩⟩
 | _=>exact l.elim
theorem J2{Q:jA}{id ty it c b t3:Nat}{p1 p2 m:String}{a1 a2 a3:Array Edge}(t:∀w,(Instr.build ty #[]).run P w= .ok (.agg #[]) w)(y:∀w,(Instr.makeInterface ty (.agg #[])).run P w= .ok (.iface ty (.agg #[])) w)(l:c<N)(i:b<N)
  (k:Q (.panic [{ v:= .iface ty (.agg #[]),recovered:=false }]) (upd (upd T c (.v (.agg #[]))) b (.v (.iface ty (.agg #[])))) h):
  AWp P N B (.region id #[⟨some c,.build ty #[],ty,p1,a1,none⟩,⟨some b,.makeInterface ty (.tmp c),it,p2,a2,none⟩,⟨none,.panic (.tmp b),t3,m,a3,none⟩] false) Q T h:=λφ z w g a r=>by
 have j:c<a.tmps.size:=by rw[r.n];exact l
 have s:b<a.tmps.size:=by rw[r.n];exact i
 refine(wpIn_wide (n:=0)).1 (wpIn_region_list ?_)
 unfold wpListIn
 rw[if_pos (by simp[Region.wanted])]
 refine xX 0 (WE (w':=w) (v:= .agg #[]) (by simp[execOp,t]) ?_)
 unfold wpListIn
 rw[if_pos (by simp[Region.wanted])]
 obtain⟨a1,e⟩:∃a1:Act,a1=a.put (some c) (.agg #[]):=⟨_,rfl⟩
 have f:Rel N B w g (fill φ h) a1 (upd T c (.v (.agg #[]))):=by
  rw[e]
  exact kv (o:=⟨some c,.build ty #[],ty,p1, #[],none⟩) r (Good.refl r.ok r.hB) (x:= .v (.agg #[])) rfl (by simpa [kC] using l)
 have v1:a1.eval (.tmp c)= .agg #[]:=by
  rw[e]
  simp[Act.eval,Act.put,j]
 rw[<-e]
 refine xX 0 (WE (w':=w) (v:= .iface ty (.agg #[])) (by simp[execOp,v1,y]) ?_)
 obtain⟨a2,d⟩:∃a2:Act,a2=a1.put (some b) (.iface ty (.agg #[])):=⟨_,rfl⟩
 have q:Rel N B w g (fill φ h) a2 (upd (upd T c (.v (.agg #[]))) b (.v (.iface ty (.agg #[])))):=by
  rw[d]
  exact kv (o:=⟨some b,.build ty #[],ty,p1, #[],none⟩) f (Good.refl f.ok f.hB) (x:= .v (.iface ty (.agg #[]))) rfl (by simpa [kC] using i)
 have p:a2.eval (.tmp b)= .iface ty (.agg #[]):=by
  have:b<a1.tmps.size:=by rw[f.n];exact i
  rw[d]
  simp[Act.eval,Act.put,this]
 rw[<-d]
 unfold wpListIn
 rw[if_pos (by simp[Region.wanted])]
 refine xX 0 ?_
 unfold Oper.wp
 have:(execOp a2.eval ⟨none,.panic (.tmp b),t3,m,a3,none⟩).run P w= .halt (.panic (.iface ty (.agg #[]))) w:=by
  have u:(Instr.panic (.iface ty (.agg #[]))).run P w= .halt (.panic (.iface ty (.agg #[]))) w:=rfl
  simp[execOp,p,u]
 rw[this]
 exact⟨_,h,k,.refl q⟩
theorem Y7{Q:jA}{id ty it a b t3:Nat}{p1 p2 g:String}{a1 a2 a3:Array Edge}(e:∀w,(Instr.build ty #[]).run P w= .ok (.agg #[]) w)(i:∀w,(Instr.makeInterface ty (.agg #[])).run P w= .ok (.iface ty (.agg #[])) w)(f:a<N)(c:b<N)
  (k:∀d,Q (.panic [{ v:= .iface ty (.agg #[]),recovered:=false }]) d h):
  AWp P N B (.region id #[⟨some a,.build ty #[],ty,p1,a1,none⟩,⟨some b,.makeInterface ty (.tmp a),it,p2,a2,none⟩,⟨none,.panic (.tmp b),t3,g,a3,none⟩] false) Q T h:=J2 e i f c (k _)
theorem kea{dst:Option Tmp}{x:Operand}{args:Array Operand}{a:Array TypeId}{ty:TypeId}{pos:String}{after:Array Edge}{c:Option (Nat × Bool)}{Q:jA}:
  VW P ⟨dst,.call ⟨.value x,args,a⟩,ty,pos,after,c⟩ Q T h= @VV P (ev T x) (evl T args.toList) h ⟨λr h'=>Q .normal (qK T dst r) h'⟩ ⟨λb h'=>Q (.panic b) T h'⟩:=id rfl
theorem WF{id:Nat}{ops:Array Oper}{Q:jA}(l:List Oper)(o:Oper)(j:ops.toList=l++[o])(g:P.follows .mixedOrders=true)(L:List Ob)(k:Nat)(a:List Ent)(m:L=List.replicate k .res)(f:ops.toList.all (kC N)=true)(d:Qy l.toArray k a=true)(c:VY l.toArray o=true)(b:zQa l.toArray a=true)
  (i:wpQ P ops h.length (VW P o Q) a T (h++L)):AWp P N B (.region id ops true) Q T h:=by
 have e:ops=l.toArray.push o:=by
  apply Array.ext'
  rw[j]
  simp
 subst e
 exact xPa g L k a m f d c b i
end
attribute [go_sem] kea y1a
end Go.Proofs.YtigdlmpjijhpaaaGreat.Ax
namespace Go.Proofs.YtigdlmpjijhpaaaGreat.Ax
open Go
structure FlF (D:List Ev) (t:TellS):Prop where
 flags:∀x∈t.flags,∃e∈D,e.id=x.id
 opn:∀f os,t.open_=some (f,os)->f∈D
section
variable {D:List Ev} {t:TellS} {s:Setup}
theorem FlF.flag(h:FlF D t){e:Ev}(b:e∈D)(k:Int):FlF D (vz t e k):=⟨λx a=>by
 rcases zK.1 (show x∈t.flags++[⟨e.id,k⟩] from a) with a|a
 ·exact h.flags x a
 ·rw[zJ] at a;subst a;exact⟨e,b,rfl⟩,h.opn⟩
theorem FlF.close(h:FlF D t)(f:Ev)(os:List Ev)(at_:Int):FlF D (yI s t f os at_):=⟨h.flags,λ_ _ q=>by cases q⟩
theorem FlF.late(h:FlF D t)(m:Int):FlF D (jE s t m):=by
 unfold jE
 split
 ·exact h
 ·rename_i e os a
  split
  ·exact(h.flag (h.opn e os a) 1).close e os _
  ·exact h
theorem FlF.next(h:FlF D t){e:Ev}(b:e∈D):FlF D (wP s t e):=by
 have a:=h.late (s:=s) e.at_
 unfold wP
 split
 ·split
  ·exact⟨a.flags,λf os q=>by injection q with q;injection q with q _;rw[<-q];exact b⟩
  ·rename_i f os c
   have d:=(a.flag (a.opn f os c) 2).close (s:=s) f os e.at_
   exact⟨d.flags,λf os q=>by injection q with q;injection q with q _;rw[<-q];exact b⟩
 ·split
  ·exact a.flag b 3
  ·rename_i f os c
   split
   ·exact a.close f os _
   ·exact⟨a.flags,λi g q=>by injection q with q;injection q with q _;rw[<-q];exact a.opn f os c⟩
theorem FlF.go{w:Int}:∀(l:List Ev) {t:TellS},FlF D t->(∀e∈l,e∈D)->FlF D (l.foldl (vd s w) t)
 | [],t,h,_=>h
 | e::l,t,h,a=>by
   rw[List.foldl_cons]
   refine FlF.go l ?_ λx b=>a x (.tail _ b)
   unfold vd
   split
   ·exact h.next (a e (.head _))
   ·exact h
theorem Y8{l:List Ev}{w:Int}:∀x∈(qC s l w).2,∃e∈l,e.id=x.id:=by
 unfold qC
 split
 ·have h0:FlF l ⟨none,[],[]⟩:=⟨λx a=>(by cases a),λ_ _ q=>(by cases q)⟩
  have c:FlF l (goP s w (qj l)):=FlF.go _ h0 λe b=>X9.1 b
  exact(c.late (s:=s) 32054400).flags
 ·intro x a;cases a
end
open Go.Proofs
set_option maxRecDepth 100000
theorem Y9{c:Ctx}:∀ {xs:List AV} {x:AV} {us:List Value},ARs c (xs++[x]) us->∃b u,us=b++[u]/\ARs c xs b/\AR c x u
 | [],x,us,⟨u,r,f,e,d⟩=>by
   have d:r=[]:=d
   subst d
   exact⟨[],u,f,rfl,e⟩
 | a::xs,x,us,⟨u,r,f,e,d⟩=>by
   obtain⟨b,v,i,h,g⟩:=Y9 d
   subst i
   exact⟨u::b,v,f,⟨u,b,rfl,e,h⟩,g⟩
theorem Yg{P:Program}{f:FuncId}{ar:List AV}{h:List Ob}{cs:List AV}{e:Nat}{rows:List (List AV)}(s:0<e)(d:qJ h.length cs=true)(y:qZ h.length rows=true)(c:ACalls P f ar h λr h'=>∃L x,h'=h++L/\NoRes L/\r= .ag (cs++[x])/\New h e x rows L):ACalls P f ar h λr h'=>r= .ag (cs++[.sl e rows])/\h'=h:=by
 refine⟨c.1,⟨_,_,⟨rfl,rfl⟩,.refl⟩,λφ j B w g vs l hB b=>?_⟩
 refine(c.2.2 φ j B w g vs l hB b).mono λC w' ⟨v,r,h',g',z,⟨L,x,o,_,p,n1⟩,_,i,k⟩=>?_
 subst o p
 rw[jO j] at i k
 have a:(fill φ h).length=h.length:=qT
 obtain⟨us,rfl,q⟩:=k
 obtain⟨A,u,t,n,m⟩:=Y9 q
 refine⟨_,_,h,g',z,⟨rfl,rfl⟩,.refl,i.drop rfl (by have:=l.ids;exact this),us,rfl,?_⟩
 rw[t]
 exact jY (ARs.less (kG w' g' (fill φ h) L) _ _ (by rw[qT];exact d) n) ⟨u,[],rfl,JM i.ok s m (n1 _ a) (λid hid=>by rw[a];exact n1.root id hid) (by rw[a];exact y),rfl⟩
theorem Z1a{n:Nat}:∀l:List Seg,qZ n (l.map vb)=true
 | []=>rfl
 | s::l=>by
   rw[List.map_cons,qZ,Z1a l];rfl
theorem z2a{n:Nat}:∀l:List Flg,qZ n (l.map jT)=true
 | []=>rfl
 | s::l=>by
   rw[List.map_cons,qZ,z2a l];rfl
theorem JNa(h:List Ob)(s:Setup)(a:SA)(k:SIn h s a)(f:SFit s)(x:AV)(l:List Ev)(w:Int)(c:SlOf h x 11 (l.map evC))(b:l.length<1048576):
  ACalls Tryz.prog 21 [jm s a,x,i64 w] h λr h'=>r= .tup [.sl 5 ((qC s l w).1.map vb),.sl 2 ((qC s l w).2.map jT)]/\h'=h:=
 q3a (by decide) (by decide) (Z1a _) (z2a _) (c21 h s a k f x l w c b)
def kQ(s:Setup)(w k:Int):Int:=if !qo s then 70 else if w<0∨(s.rates.length:Int)<=w then 80 else if k<0∨52<k then 212 else 0
theorem KMa(h:List Ob)(s:Setup)(a:SA)(k:SIn h s a)(f:SFit s)(w wk:Int):
  ACalls Tryz.prog 51 [jm s a,i64 w,i64 wk] h λr h'=>r=i64 (kQ s w wk)/\h'=h:=by
 have c:∀M,zZ (h++M) a.r=some (s.rates.map qI):=λM=>(k.app M).r.rows
 refine zl Tryz.f51 [.tmp 6] 28 rfl rfl rfl rfl rfl rfl (by decide) (⟨_,_,⟨rfl,rfl⟩,.refl⟩) λB=>?_
 simp only[go_sem,k.ones]
 refine zi (c16 _ s a (k.app _) f) ?_
 rintro _ e ⟨rfl,rfl⟩
 cases b:qo s
 ·simp only[go_sem,b,qE,Bool.not_false]
  refine zk ?_<;>(simp only[go_sem,kQ,b]<;>try rfl)
 ·simp only[go_sem,b,qE,Bool.not_true]
  cases d:decide (w<0)
  ·have e:¬ w<0:=of_decide_eq_false d
   cases g:decide (w≥(s.rates.length:Int))
   ·have j:¬ (s.rates.length:Int)<=w:=of_decide_eq_false g
    cases i:decide (wk<0)
    ·have m:¬ wk<0:=of_decide_eq_false i
     cases l:decide (wk>52)
     ·have n:¬ 52<wk:=of_decide_eq_false l
      simp only[go_sem,d,g,i,l,qE,c,zb]
      refine zk ?_<;>(simp only[go_sem,kQ,b,e,j,m,n]<;>try rfl)
     ·have n:52<wk:=of_decide_eq_true l
      simp only[go_sem,d,g,i,l,qE,c,zb]
      refine zk ?_<;>(simp only[go_sem,kQ,b,e,j,m,n]<;>try rfl)
    ·have m:wk<0:=of_decide_eq_true i
     simp only[go_sem,d,g,i,qE,c,zb]
     refine zk ?_<;>(simp only[go_sem,kQ,b,e,j,m]<;>try rfl)
   ·have j:(s.rates.length:Int)<=w:=of_decide_eq_true g
    simp only[go_sem,d,g,qE,c,zb]
    refine zk ?_<;>(simp only[go_sem,kQ,b,e,j]<;>try rfl)
  ·have e:w<0:=of_decide_eq_true d
   simp only[go_sem,d,qE]
   refine zk ?_<;>(simp only[go_sem,kQ,b,e]<;>try rfl)
def J3(s:Setup)(w:Int)(e:Ev):Bool:=e.worker != w || !ZY s e
theorem Wma(h:List Ob)(s:Setup)(a:SA)(k:SIn h s a)(i j:Nat)(w:Int)(hi:h[i]? =some (.box 30 (qa s a)))(d:h[j]? =some (.box 3 [i64 w]))(e:Ev):
  ACalls Tryz.prog 54 [evV e,.ptr j 0,.ptr i 0] h λr h'=>r=bl (J3 s w e)/\h'=h:=by
 have b:∀M,(h++M)[i]? =some (.box 30 (qa s a)):=λM=>zf hi
 have c:∀M,(h++M)[j]? =some (.box 3 [i64 w]):=λM=>zf d
 refine zl Tryz.f54 [.tmp 4] 15 rfl rfl rfl rfl rfl rfl (by decide) (⟨_,_,⟨rfl,rfl⟩,.refl⟩) λB=>?_
 simp only[go_sem,b,c,k.ones]
 cases q:e.worker != w
 ·simp only[go_sem,q,qE,b]
  refine zi (c14 _ s a (k.app _) e) ?_
  rintro _ f ⟨rfl,rfl⟩
  simp only[go_sem]
  refine zk ?_<;>(simp only[go_sem,J3,q]<;>try rfl)
 ·simp only[go_sem,q,qE]
  refine zk ?_<;>(simp only[go_sem,J3,q]<;>try rfl)
theorem Wna(h:List Ob)(j:Nat)(f:Flg)(b:h[j]? =some (.box 105 (jT f)))(e:Ev):
  ACalls Tryz.prog 62 [evV e,.ptr j 0] h λr h'=>r=bl (e.id==f.id)/\h'=h:=by
 have a:∀M,(h++M)[j]? =some (.box 105 [i64 f.id,i64 f.kind]):=λM=>zf b
 refine zl Tryz.f62 [.tmp 3] 9 rfl rfl rfl rfl rfl rfl (by decide) (⟨_,_,⟨rfl,rfl⟩,.refl⟩) λB=>?_
 simp only[go_sem,a]
 refine zk ?_<;>(simp only[go_sem]<;>try rfl)
def RowsK(h h':List Ob):Prop:=∀(id ty e:Nat) (xs:List (List AV)) (st:Nat),h[id]? =some (.row ty e xs st)->h'[id]? =some (.row ty e xs st)
theorem jFa{o:Option Ob}{e:Nat}(h:eTl o=some e):∃ty xs st,o=some (.row ty e xs st):=by
 unfold eTl at h
 split at h
 ·injection h with h
  subst h
  exact⟨_,_,_,rfl⟩
 ·cases h
theorem jGa{o:Option Ob}{st:Nat}{xs:List (List AV)}(h:YH o st=some xs):∃ty e,o=some (.row ty e xs st):=by
 unfold YH at h
 split at h
 ·split at h
  ·rename_i a
   injection h with h
   subst a h
   exact⟨_,_,rfl⟩
  ·cases h
 ·cases h
theorem WH{h h':List Ob}(k:RowsK h h'):∀(a:AV) {e:Nat},eOf h a=some e->eOf h' a=some e
 | .sl _ _,_,b=>b
 | .tl id st,e,b=>by
   rw[j5] at b⊢
   obtain⟨ty,xs,st',d⟩:=jFa b
   rw[k _ _ _ _ _ d];rfl
 | .vw a f i n,e,b=>by
   rw[ZP] at b⊢
   cases c:eOf h a with
   | none=>rw[c] at b;cases b
   | some ys=>
     rw[c] at b
     rw[WH k a c]
     exact b
 | .v _,_,b | .em,_,b | .ptr _ _,_,b | .ep _ _ _ _,_,b | .mp _,_,b | .ag _,_,b | .tup _,_,b | .fn _ _ _,_,b | .bad,_,b=>by cases b
theorem KS{h h':List Ob}(k:RowsK h h'):∀(a:AV) {xs:List (List AV)},zZ h a=some xs->zZ h' a=some xs
 | .sl _ _,_,b=>b
 | .em,_,b=>b
 | .tl id st,xs,b=>by
   rw[qS] at b⊢
   obtain⟨ty,e,f⟩:=jGa b
   rw[k _ _ _ _ _ f,vO,if_pos rfl]
 | .vw a e i n,xs,b=>by
   rw[kH] at b⊢
   cases c:zZ h a with
   | none=>rw[c] at b;cases b
   | some ys=>
     rw[c] at b
     rw[KS k a c]
     simp only[Option.bind_some] at b⊢
     split at b
     ·rename_i d
      rw[if_pos ⟨d.1,d.2.imp id (WH k a)⟩]
      exact b
     ·cases b
 | .v x,_,b=>by rw[<-qOa (h:=h)];exact b
 | .ptr _ _,_,b | .ep _ _ _ _,_,b | .mp _,_,b | .ag _,_,b | .tup _,_,b | .fn _ _ _,_,b | .bad,_,b=>by cases b
theorem SlOf.keep{h h':List Ob}(k:RowsK h h'){a:AV}{e:Nat}{xs:List (List AV)}(q:SlOf h a e xs):SlOf h' a e xs:=⟨KS k a q.rows,λb=>WH k a (q.ee b)⟩
theorem RowsK.setB{h:List Ob}{i:Nat}{t:TypeId}{cs:List AV}{o:Ob}(hi:h[i]? =some (.box t cs)):RowsK h (h.set i o):=λid ty e xs st q=>by
 have:i≠id:=λe=>by rw[e,q] at hi;cases hi
 rw[zc this];exact q
structure RowV where
 worker:Int
 week:Int
 err:Int
 tot:Nat->Int
 pays:Nat->Int
 earned:qd
 perf:qd
 elig:Int
 tier:Int
 extra:Int
 supp:Int
 total:Int
def ZD(r:RowV):List AV:=[i64 r.worker,i64 r.week,i64 r.err,i64 (r.tot 0),i64 (r.tot 1),i64 (r.tot 2),i64 (r.tot 3),i64 (r.tot 4),i64 (r.tot 5),i64 (r.tot 6),i64 (r.pays 0),i64 (r.pays 1),i64 (r.pays 2),i64 (r.pays 3),i64 (r.pays 4),i64 (r.pays 5),i64 (r.pays 6),i64 r.earned.1,i64 r.earned.2,i64 r.perf.1,i64 r.perf.2,i64 r.elig,i64 r.tier,i64 r.extra,i64 r.supp,i64 r.total]
abbrev jJ(r:RowV)(a:AV):List AV:=[i64 r.worker,i64 r.week,i64 r.err,i64 (r.tot 0),i64 (r.tot 1),i64 (r.tot 2),i64 (r.tot 3),i64 (r.tot 4),i64 (r.tot 5),i64 (r.tot 6),i64 (r.pays 0),i64 (r.pays 1),i64 (r.pays 2),i64 (r.pays 3),i64 (r.pays 4),i64 (r.pays 5),i64 (r.pays 6),i64 r.earned.1,i64 r.earned.2,i64 r.perf.1,i64 r.perf.2,i64 r.elig,i64 r.tier,i64 r.extra,i64 r.supp,i64 r.total,a]
theorem kma{a b:List Pt}(h:a.Perm b)(k:Int):(wo a k).Perm (wo b k):=(h.filter _).map _
theorem wKa{a b:List Pt}(h:a.Perm b)(k:Int):yY a k=yY b k:=by
 unfold yY
 rw[xWa λt _ _=>XF (kma h k) t]
theorem wLa(s:Setup)(L:List Seg)(w:Int)(h:L.length<=3001):(wg s L w).length<1048576:=by
 have m:=jta s L
 have g:=jua s L
 have i:(jh (we s L) w).length<=(qg (we s L)).length+1:=Zy _ _ _
 have l:=z6 (we s L)
 have f:=jxa s (yR s L) w
 obtain⟨o,d⟩:∃o,o=QR s (yR s L) w:=⟨_,rfl⟩
 rw[<-d] at f
 have key:∀j,(yX (jo (oj o j) (jL s (oj o j))) (1+j)).length+(yX (jL s (oj o j)) (4+j)).length<=3*(oj o j).length+1485:=λj=>by
  have a1:=j6 (oj o j) (jL s (oj o j))
  have a2:=z6 (oj o j)
  have a3:=z6 (jL s (oj o j))
  have a4:=Ko s (oj o j)
  rw[wR,wR];omega
 have k0:=key 0
 have k1:=key 1
 have k2:=key 2
 have b:oj o 0=o.1:=rfl
 have c:oj o 1=o.2.1:=rfl
 have a:oj o 2=o.2.2:=rfl
 have e:wg s L w=Jo s o (jh (we s L) w) 3:=by rw[d];rfl
 rw[e,Jo,Jo,Jo,Jo]
 simp only[ze]
 have k:=wR (jh (we s L) w) 0
 rw[b] at k0;rw[c] at k1;rw[a] at k2
 rw[b,c,a]
 omega
def evR(s:Setup)(w:Int)(l:List Ev):List Ev:=(qj l).filter λe=> !J3 s w e
theorem z3a(s:Setup)(w:Int)(l:List Ev):(evR s w l).length<=l.length:=by
 have b:=qt (λe=> !J3 s w e) (qj l)
 have a:=(vB l).length_eq
 unfold evR;omega
def KT(own:List Ev)(f:Flg):Int:=Qi (((own.find? λe=>e.id==f.id).map (·.at_)).getD 0)
def jHa(w wk e:Int):RowV:=⟨w,wk,e,λ_=>0,λ_=>0,(0,0),(0,0),0, -1,0,0,0⟩
def Z2a(s:Setup)(own:List Ev)(w:Nat)(wk:Int):RowV:=
 let P:=vq s own w wk
 let tot:=λj:Nat=>yY (wg s (qC s own w).1 wk) j
 let tier:=if P.err=0/\0<P.eligible then kn s P.perf else -1
 let p:=z1a s w tot P.eligible tier
 ⟨w,wk,P.err,tot,p.pays,P.earned,P.perf,P.eligible,tier,p.extra,p.supp,p.total⟩
def xB(own:List Ev)(a:List Flg)(wk:Int):List Flg:=a.filter λf=>KT own f==wk
def jI(s:Setup)(l:List Ev)(w wk:Int):RowV × List Flg:=
 if kQ s w wk≠0 then(jHa w wk (kQ s w wk),[]) else(Z2a s (evR s w l) w.toNat wk,xB (evR s w l) (qC s (evR s w l) w).2 wk)
structure RB (h h':List Ob) (s:Setup) (a:SA) (w:Int) (y:AV) (own:List Ev) (r:RowV) (fl:AV):Prop where
 pre:Pre h h'
 b0:h'[h.length]? =some (.box 30 (qa s a))
 b1:h'[h.length+1]? =some (.box 3 [i64 w])
 b2:h'[h.length+2]? =some (.box 45 (jJ ⟨0,0,0,λ_=>0,λ_=>0,(0,0),(0,0),0,0,0,0,0⟩ (.v (.slice none 0 0))))
 b3:h'[h.length+3]? =some (.box 45 (jJ r fl))
 sl:SlOf h' y 11 (own.map evC)
theorem RB.put{h h':List Ob}{s:Setup}{a:SA}{w:Int}{y:AV}{own:List Ev}{r:RowV}{d:AV}(k:RB h h' s a w y own r d)(c:RowV)(b:AV):RB h (h'.set (h.length+3) (.box 45 (jJ c b))) s a w y own c b:=
 ⟨k.pre.set (by omega) rfl,by rw[zc (by omega)];exact k.b0,by rw[zc (by omega)];exact k.b1,by rw[zc (by omega)];exact k.b2,zq k.b3,k.sl.keep (.setB k.b3)⟩
theorem RB.app{h h':List Ob}{s:Setup}{a:SA}{w:Int}{y:AV}{own:List Ev}{r:RowV}{b:AV}(k:RB h h' s a w y own r b){M:List Ob}(c:NoRes M):RB h (h'++M) s a w y own r b:=
 ⟨k.pre.app c,zf k.b0,zf k.b1,zf k.b2,zf k.b3,k.sl.app M⟩
theorem XNa{h:List Ob}{id ty:Nat}{xs:List (List AV)}{st:Nat}{o:Ob}(d:h[id]? =some (.row ty 2 xs st)):∀(a:AV) {rows:List (List AV)},eOf h a=some 11->zZ h a=some rows->eOf (h.set id o) a=some 11/\zZ (h.set id o) a=some rows
 | .sl _ _,_,b,c=>⟨b,c⟩
 | .tl i s,rows,b,c=>by
   rw[j5] at b⊢
   rw[qS] at c⊢
   obtain⟨l,xs',st',m⟩:=jFa b
   have g:id≠i:=λq=>by rw[q,m] at d;injection d with d;injection d with _ d;cases d
   rw[zc g]
   exact⟨b,c⟩
 | .vw a e i n,rows,b,c=>by
   rw[ZP] at b⊢
   rw[kH] at c⊢
   cases f:eOf h a with
   | none=>rw[f] at b;cases b
   | some p=>
     rw[f] at b
     simp only[Option.bind_some] at b
     split at b
     ·rename_i k
      injection b with b
      subst k
      subst b
      cases j:zZ h a with
      | none=>rw[j] at c;cases c
      | some ys=>
        obtain⟨k1,k2⟩:=XNa d a f j
        rw[k1,k2]
        rw[f,j] at c
        exact⟨by simp,c⟩
     ·cases b
 | .v x,_,b,_=>by cases b
 | .em,_,b,_ | .ptr _ _,_,b,_ | .ep _ _ _ _,_,b,_ | .mp _,_,b,_ | .ag _,_,b,_ | .tup _,_,b,_ | .fn _ _ _,_,b,_ | .bad,_,b,_=>by cases b
theorem RB.setR{h h':List Ob}{s:Setup}{a:SA}{w:Int}{y:AV}{own:List Ev}{r:RowV}{d:AV}(k:RB h h' s a w y own r d)(c:own≠[]){id ty:Nat}{xs:List (List AV)}{st:Nat}{o:Ob}(hid:h.length<=id)(b:h'[id]? =some (.row ty 2 xs st))(e:o.isRes=false):RB h (h'.set id o) s a w y own r d:=by
 obtain⟨k1,k2⟩:=XNa (o:=o) b y (k.sl.ee (by simpa using c)) k.sl.rows
 exact⟨k.pre.set hid e,Jf (h0:=h) k.b0 b,Jf (h0:=h) k.b1 b,Jf (h0:=h) k.b2 b,Jf (h0:=h) k.b3 b,k2,λ_=>k1⟩
theorem KU{s:Setup}{l:List Ev}{w:Int}:(qC s l w).2.length<=3*l.length+1:=by
 have c:=jQ l
 have b:szT (goP s w (qj l))<=szT ⟨none,[],[]⟩+3*(qj l).length:=xSa (qj l)
 have a:szT ⟨none,[],[]⟩=0:=rfl
 have d:=XC (s:=s) (t:=goP s w (qj l)) (at_:=32054400)
 unfold qC
 split
 ·simp only[szT] at d b a⊢
  omega
 ·simp
theorem Yh{own:List Ev}{F:List Flg}{wk:Int}{n:Nat}(h:n<F.length):xB own (F.take (n+1)) wk=if KT own F[n]==wk then xB own (F.take n) wk++[F[n]] else xB own (F.take n) wk:=by
 unfold xB
 rw[show F.take (n+1)=F.take n++[F[n]] from(zD h).symm,je]
 cases a:KT own F[n]==wk<;>simp[a]
theorem vea{l:List Flg}{i:Nat}(h:i<l.length):(l.map jT)[i]? =some (jT l[i]):=by rw[zr,zh h];rfl
theorem Woa(h:List Ob)(s:Setup)(a:SA)(k:SIn h s a)(f:SFit s)(x:AV)(l:List Ev)(w wk:Int)(hx:SlOf h x 11 (l.map evC))(hl:l.length<=1000):
  ACalls Tryz.prog 17 [jm s a,x,i64 w,i64 wk] h λr h'=>∃L y,h'=h++L/\NoRes L/\r= .ag (ZD (jI s l w wk).1++[y])/\New h 2 y ((jI s l w wk).2.map jT) L:=by
 have hex:∃r h',(∃L y,h'=h++L/\NoRes L/\r=AV.ag (ZD (jI s l w wk).1++[y])/\New h 2 y ((jI s l w wk).2.map jT) L)/\ResK h h':=
  ⟨_,_,⟨[],.sl 2 _,rfl,xr,rfl,λ_ _=>⟨rfl,λ_=>rfl⟩⟩,q8⟩
 refine yu (N:=116) (rs:=[.cell 8 45]) (fn:=Tryz.f17) rfl rfl rfl rfl (ji rfl) rfl (hex) λB=>?_
 refine qi (by decide) ?_
 simp only[go_sem,k.ones]
 refine qF (qi (by decide) ?_)
 simp only[go_sem]
 refine qF (qi (by decide) ?_)
 simp only[go_sem,k.ones]
 refine zi (KMa _ s a (k.app _) f w wk) ?_
 rintro _ h1 ⟨rfl,rfl⟩
 simp only[go_sem]
 cases q0:kQ s w wk != 0
 rotate_left
 ·have ξ:kQ s w wk≠0:=by simpa using q0
  have b:jI s l w wk=(jHa w wk (kQ s w wk),[]):=by unfold jI;rw[if_pos ξ]
  rw[b]
  simp only[go_sem,qE]
  refine⟨.ag (ZD (jHa w wk (kQ s w wk))++[.v (.slice none 0 0)]),?_,.inl ⟨_,.v (.slice none 0 0),rfl,?_,rfl,?_⟩⟩
  ·simp only[go_sem]
   rfl
  ·exact zp rfl (zp rfl (zp rfl (zF rfl)))
  ·exact λh2 _=>⟨rfl,λh=>absurd rfl h⟩
 ·have U:kQ s w wk=0:=by simpa using q0
  have b:jI s l w wk=(Z2a s (evR s w l) w.toNat wk,xB (evR s w l) (qC s (evR s w l) w).2 wk):=by unfold jI;rw[if_neg (by rw[U];simp)]
  rw[b]
  simp only[go_sem,qE,U]
  obtain⟨ν,hw0,hw1⟩:qo s=true/\0<=w/\w<s.rates.length:=by
   unfold kQ at U
   split at U
   ·cases U
   ·rename_i h1
    split at U
    ·cases U
    ·rename_i h2
     exact⟨by simpa using h1,by omega,by omega⟩
  clear hex b
  have hol:=z3a s w l
  obtain⟨own,E⟩:∃own,own=evR s w l:=⟨_,rfl⟩
  rw[<-E] at hol⊢
  refine qF (Vk (λd h'=>Pre h h'/\h'[h.length]? =some (.box 30 (qa s a))/\h'[h.length+1]? =some (.box 3 [i64 w])/\h'[h.length+2]? =some (.box 45 (jJ ⟨0,0,0,λ_=>0,λ_=>0,(0,0),(0,0),0,0,0,0,0⟩ (.v (.slice none 0 0))))/\h'[h.length+3]? =some (.box 45 (jJ (jHa w wk 0) (.v (.slice none 0 0))))/\
    SlOf h' (d 10) 11 (own.map evC)/\d 3=i64 wk/\d 4= .ptr h.length 0/\d 6= .ptr (h.length+1) 0/\d 8= .ptr (h.length+2) 0/\d 9= .ptr (h.length+3) 0) (by decide) ?_ ?_)
  ·simp only[go_sem]
   refine zi (c57 _ x l (hx.app _) (by omega)) ?_
   rintro r h1 hr
   rcases hr with⟨rfl,rfl,rfl⟩|⟨rfl,rfl⟩
   ·simp only[go_sem]
    refine zi (Wca _ _ _) ?_
    rintro _ h1 ⟨rfl,rfl⟩
    simp only[go_sem]
    exact⟨⟨_,rfl,zp rfl (zp rfl (zp rfl (zF rfl)))⟩,rfl,by rw[E];exact⟨rfl,λh=>absurd rfl h⟩⟩
   ·simp only[go_sem]
    refine zi (c73 _ (h.length+4) 1 (qj l) 54 [.ptr (h.length+1) 0,.ptr h.length 0] (J3 s w) (by rw[zN (k:=4) rfl];rfl) (by have:=(vB l).length_eq;omega) (λe _ o L=>Wma _ s a (by
      rw[zR _ _ (by omega)]
      exact(k.app _).app _) h.length (h.length+1) w (zf (by rw[zc (by omega),zM rfl];rfl)) (zf (by rw[zc (by omega),zN (k:=1) rfl];rfl)) e)) ?_
    rintro r h1 ⟨l2,rfl,hr,φ⟩
    simp only[go_sem]
    rw[zR _ _ (by omega),show h.length+4 - h.length=4 by omega] at φ
    exact⟨⟨_,rfl,zp rfl (zp rfl (zp rfl (zp rfl (zF rfl))))⟩,rfl,by rw[E];exact φ⟩
  ·rintro T h' ⟨G,b0,b1,b2,b3,hy,t3,t4,t6,t8,t9⟩
   obtain⟨y,t10⟩:∃y,T 10=y:=⟨_,rfl⟩
   rw[t10] at hy
   have hk:=G.sin k
   have hsl3:=KR (s:=s) (l:=own) (w:=w)
   refine qi (by decide) ?_
   simp only[go_sem,t4,t6,t10,b0,b1]
   refine zi (JNa _ s a hk f y own w hy (by omega)) ?_
   rintro _ h2 ⟨rfl,e2⟩
   rw[e2]
   simp only[go_sem]
   refine qF (qi (by decide) ?_)
   simp only[go_sem,t3,t4,b0]
   refine zi (KHa _ s a hk f ν _ (qC s own w).1 wk ⟨rfl,λ_=>rfl⟩ (by omega)) ?_
   rintro _ h3 ⟨⟨q,hq,rfl⟩,e3⟩
   rw[e3]
   have hql:q.length<1048576:=by
    rw[hq.length_eq]
    exact wLa s _ wk (by omega)
   simp only[go_sem]
   refine zi (JAa _ _ q ⟨rfl,λ_=>rfl⟩ hql) ?_
   rintro _ h4 ⟨rfl,e4⟩
   rw[e4]
   have htot:(λj:Nat=>yY q j)=λj:Nat=>yY (wg s (qC s own w).1 wk) j:=by funext j;exact wKa hq j
   obtain⟨tot,χ⟩:∃tot,tot=λj:Nat=>yY (wg s (qC s own w).1 wk) j:=⟨_,rfl⟩
   rw[htot, <-χ]
   simp only[go_sem,t9,b3,jHa,wC]
   have kb:=RB.put ⟨G,b0,b1,b2,b3,hy⟩ ⟨w,wk,0,tot,λ_=>0,(0,0),(0,0),0, -1,0,0,0⟩ (.v (.slice none 0 0))
   generalize hH:h'.set (h.length+3) (.box 45 (jJ ⟨w,wk,0,tot,λ_=>0,(0,0),(0,0),0, -1,0,0,0⟩ (.v (.slice none 0 0))))=H at kb
   clear hH b0 b1 b2 b3 hy G hk
   have d0:=kb.b0
   have d1:=kb.b1
   have D:=kb.b3
   refine qF (qi (by decide) ?_)
   simp only[go_sem,t3,t4,t6,t10,d0,d1]
   refine zi (c15 _ s a (kb.pre.sin k) f y own w wk kb.sl (by omega)) ?_
   rintro _ h5 ⟨rfl,e5⟩
   rw[e5]
   obtain⟨P,hP⟩:∃P,P=vq s own w wk:=⟨_,rfl⟩
   rw[<-hP]
   have K:∀o,(H.set (h.length+3) o)[h.length+3]? =some o:=λo=>zq D
   simp only[go_sem,t9,D,K,qh]
   have kc:=kb.put ⟨w,wk,P.err,tot,λ_=>0,P.earned,P.perf,P.eligible, -1,0,0,0⟩ (.v (.slice none 0 0))
   generalize hH:H.set (h.length+3) (.box 45 (jJ ⟨w,wk,P.err,tot,λ_=>0,P.earned,P.perf,P.eligible, -1,0,0,0⟩ (.v (.slice none 0 0))))=H2 at kc
   clear hH kb d0 d1 D K
   refine qF (Vk (λd h2=>∃V,V=(if P.err=0/\0<P.eligible then kn s P.perf else -1)/\RB h h2 s a w y own ⟨w,wk,P.err,tot,λ_=>0,P.earned,P.perf,P.eligible,V,0,0,0⟩ (.v (.slice none 0 0))/\d 3=i64 wk/\d 4= .ptr h.length 0/\d 6= .ptr (h.length+1) 0/\d 8= .ptr (h.length+2) 0/\d 9= .ptr (h.length+3) 0/\d 10=y/\d 12= .sl 2 ((qC s own w).2.map jT)) (by decide) ?_ ?_)
   ·have d0:=kc.b0
    have D:=kc.b3
    cases q1:decide (P.err=0)
    ·have p1:¬ P.err=0:=of_decide_eq_false q1
     have Y:(P.err==0)=false:=by simpa using p1
     simp only[go_sem,t9,D,Y,qE]
     exact⟨-1,by rw[if_neg (λq=>p1 q.1)],kc,t3,t4,t6,t8,t10⟩
    ·have p1:P.err=0:=of_decide_eq_true q1
     have Y:(P.err==0)=true:=by simpa using p1
     cases q2:decide (P.eligible>0)
     ·have p2:¬ 0<P.eligible:=of_decide_eq_false q2
      simp only[go_sem,t9,D,Y,q2,qE]
      exact⟨-1,by rw[if_neg (λq=>p2 q.2)],kc,t3,t4,t6,t8,t10⟩
     ·have p2:0<P.eligible:=of_decide_eq_true q2
      have τ:jf P.perf:=by
       have:=(Jpa (w:=w) (k:=wk) (l:=own) ν (by omega) (by rw[<-hP];exact p1)).2
       rw[<-hP] at this
       exact KCa this
      simp only[go_sem,t9,D,Y,q2,qE,t4,d0]
      refine zi (c26 _ s a (kc.pre.sin k) f P.perf τ) ?_
      rintro _ h6 ⟨rfl,e6⟩
      rw[e6]
      simp only[go_sem,t9,D]
      exact⟨kn s P.perf,by rw[if_pos ⟨p1,p2⟩],kc.put ⟨w,wk,P.err,tot,λ_=>0,P.earned,P.perf,P.eligible,kn s P.perf,0,0,0⟩ _,t3,t4,t6,t8,t10⟩
   ·clear kc t3 t4 t6 t8 t9 t10
    rintro T h2 ⟨V,htr,kd,t3,t4,t6,t8,t9,t10,Z⟩
    have d0:=kd.b0
    have d1:=kd.b1
    have D:=kd.b3
    obtain⟨C,hwn⟩:∃C:Nat,(C:Int)=w:=⟨w.toNat,by omega⟩
    subst hwn
    refine qi (by decide) ?_
    simp only[go_sem,t3,t4,t6,t9,d0,d1,D]
    refine zi (Ywa _ s a (kd.pre.sin k) f ν C (by omega) tot P.eligible V) ?_
    rintro _ h7 ⟨rfl,e7⟩
    rw[e7]
    obtain⟨p,hp⟩:∃p,p=z1a s C tot P.eligible V:=⟨_,rfl⟩
    rw[<-hp]
    have K:∀o,(h2.set (h.length+3) o)[h.length+3]? =some o:=λo=>zq D
    simp only[go_sem,JDa,t9,D,K,qh,wC]
    have ke:=kd.put ⟨C,wk,P.err,tot,p.pays,P.earned,P.perf,P.eligible,V,p.extra,p.supp,p.total⟩ (.v (.slice none 0 0))
    have b:Z2a s own C wk=⟨C,wk,P.err,tot,p.pays,P.earned,P.perf,P.eligible,V,p.extra,p.supp,p.total⟩:=by
     rw[hp,htr,hP,χ];rfl
    rw[Int.toNat_natCast,b]
    generalize hH:h2.set (h.length+3) (.box 45 (jJ ⟨C,wk,P.err,tot,p.pays,P.earned,P.perf,P.eligible,V,p.extra,p.supp,p.total⟩ (.v (.slice none 0 0))))=H3 at ke
    obtain⟨R,hR⟩:∃R:RowV,R=⟨C,wk,P.err,tot,p.pays,P.earned,P.perf,P.eligible,V,p.extra,p.supp,p.total⟩:=⟨_,rfl⟩
    rw[<-hR] at ke⊢
    clear hH kd d0 d1 D K b
    have hff:= @Y8 s own C
    obtain⟨F,hF⟩:∃F,F=(qC s own C).2:=⟨_,rfl⟩
    have hFl:F.length<1048576:=by have:=KU (s:=s) (l:=own) (w:=C);rw[hF];omega
    rw[<-hF] at hff Z⊢
    have hgo:xB own F wk=xB own (F.take F.length) wk:=by rw[zY]
    rw[hgo]
    refine qF (qi (by decide) ?_)
    simp only[go_sem,Z,zb]
    refine zO (by decide) (λm T h'=>∃(n:Nat) (u:AV),n<=F.length/\RB h h' s a C y own R u/\OwnS h h' 105 2 u ((xB own (F.take n) wk).map jT)/\T 3=i64 wk/\T 8= .ptr (h.length+2) 0/\T 9= .ptr (h.length+3) 0/\T 10=y/\T 91= .sl 2 (F.map jT)/\T 92=i64 F.length/\T 93=i64 n/\m=F.length - n) F.length
     ⟨0,_,by omega,ke,.inl ⟨rfl,rfl⟩,by simp only[go_sem,t3],by simp only[go_sem,t8],by simp only[go_sem,t9],by simp only[go_sem,t10],by simp only[go_sem,Z],by(simp only[go_sem]<;>rfl),by(simp only[go_sem]<;>rfl),rfl⟩ ?_
    clear ke t3 t4 t6 t8 t9 t10 Z
    rintro m T h' ⟨n,u,hn,kf,ho,t3,t8,t9,t10,α,S,Q,rfl⟩
    simp only[go_sem,S,Q]
    refine ways (λe=>?_) (λe=>?_)
    ·have κ:=dlt e
     have b:=vea κ
     have hkl:(n:Int)<F.length:=by omega
     have c:=Yh (own:=own) (wk:=wk) κ
     obtain⟨g,hg⟩:∃g,g=F[n]:=⟨_,rfl⟩
     obtain⟨ev,ω,δ⟩:=hff F[n] (zw κ)
     rw[<-hg] at b c δ
     simp only[go_sem,α,Q,b,hkl,t10,zb,Int.toNat_natCast,zg]
     have W:=kf.app (M:=[.box 105 [i64 g.id,i64 g.kind]]) (zF rfl)
     have μ:=ho.app [Ob.box 105 [i64 g.id,i64 g.kind]]
     have O:(h'++[Ob.box 105 [i64 g.id,i64 g.kind]])[h'.length]? =some (.box 105 [i64 g.id,i64 g.kind]):=by rw[zM rfl];rfl
     generalize hJ:h'++[Ob.box 105 [i64 g.id,i64 g.kind]]=J at W μ O
     have hJl:h'.length<J.length:=by rw[<-hJ];simp
     refine zi (c42 _ y 62 [.ptr h'.length 0] (own.map evC) (λr=>(YX r).id==g.id) (by rw[zb];omega) (λr hr=>by obtain⟨e,_,rfl⟩:=zx.1 hr;rfl) W.sl (λrow b L=>by
      obtain⟨e,_,rfl⟩:=zx.1 b
      exact Wna _ h'.length g (zf O) e)) ?_
     rintro _ h8 ⟨rfl,e8⟩
     rw[e8]
     rcases Wp (λe=>e.id==g.id) own with⟨_,q2⟩|⟨A,z,R2,q1,q2,q3,q4⟩
     ·have:=q2 ev ω
      simp[δ] at this
     ·rw[q2]
      have η:A.length<own.length:=by rw[q1];simp
      have hfw:KT own g=Qi z.at_:=by
       unfold KT
       have:own.find? (λe=>e.id==g.id)=some z:=by
        rw[q1,List.find?_append]
        rw[List.find?_eq_none.2 (λe U=>by simp[q4 e U])]
        simp[q3]
       rw[this];rfl
      have hrz:(own.map evC)[A.length]? =some (evC z):=by rw[q1];simp
      have hee:=W.sl.at (i:=A.length) (by rw[zb];exact η)
      have hrr:=W.sl.rows
      have hkl2:(A.length:Int)<own.length:=by omega
      simp only[go_sem,t3,t10,hrr,hee,hrz,hkl2,zb,Int.toNat_natCast,zg]
      refine zi (c17 z.at_ _) ?_
      rintro _ h9 ⟨rfl,e9⟩
      rw[e9]
      rw[hfw] at c
      simp only[go_sem,t3]
      refine ways (λe3=>?_) (λe3=>?_)
      ·rw[if_pos e3] at c
       have ξ:own≠[]:=λq=>by rw[q] at η;cases η
       have I:=W.b3
       have t:∀M,(J++M)[h.length+3]? =some (.box 45 (jJ R u)):=λM=>zf I
       have hgfM:∀M,(J++M)[h'.length]? =some (.box 105 [i64 g.id,i64 g.kind]):=λM=>zf O
       rcases μ with⟨rfl,hnil⟩|⟨id,st,u1,rfl,u3⟩
       ·simp only[go_sem,t9,Q,I,t,O]
        refine⟨F.length - (n+1),by omega,n+1,.tl (J.length+1) 0,by omega,(W.app (zp rfl (zF rfl))).put R _,?_,t3,t8,t10,α,S,qc (by omega) rfl,rfl⟩
        refine OwnS.setB (.inr ⟨_,0,?_,rfl,?_⟩) (t _)
        ·have:=W.pre.len;omega
        ·rw[c,zy,hnil,zN (k:=1) rfl];rfl
       ·have X:∀M,(J++M)[id]? =some (.row 105 2 ((xB own (F.take n) wk).map jT) st):=λM=>zf u3
        have hcap:(((xB own (F.take n) wk).map jT).length+1)*17<=140737488355328:=by
         have:=qt (λf=>KT own f==wk) (F.take n)
         rw[zX] at this
         rw[zb]
         unfold xB
         omega
        have β:∀M o',((J++M).set id o')[h.length+3]? =some (.box 45 (jJ R (.tl id st))):=λM o'=>Jf (h0:=h) (t M) (X M)
        simp only[go_sem,t9,Q,I,t,O,X,hcap,β]
        refine⟨F.length - (n+1),by omega,n+1,.tl id (st+1),by omega,RB.put ((W.app (zF rfl)).setR ξ u1 (X _) rfl) R _,?_,t3,t8,t10,α,S,qc (by omega) rfl,rfl⟩
        refine OwnS.setB (.inr ⟨id,st+1,u1,rfl,?_⟩) (β _ _)
        rw[c,zy]
        exact zq (X _)
      ·have e3':(Qi z.at_==wk)=false:=by simpa using e3
       rw[e3'] at c
       simp only[Bool.false_eq_true,if_false] at c
       simp only[go_sem,Q]
       exact⟨F.length - (n+1),by omega,n+1,u,by omega,W,by rw[c];exact μ,t3,t8,t9,t10,α,S,qc (by omega) rfl,rfl⟩
    ·have hge:=xc e
     have hn2:n=F.length:=by omega
     subst hn2
     simp only[go_sem]
     refine qF (qz _ (by decide) ?_)
     have ι:=kf.b2
     have I:=kf.b3
     have hxo:=ho.rows.one
     simp only[go_sem,t8,t9,ι,I,hxo]
     have ψ:=ho.setB (o:= .box 45 (jJ R u)) ι
     have hp2:Pre h (h'.set (h.length+2) (.box 45 (jJ R u))):=kf.pre.set (by omega) rfl
     have hb4:(h'.set (h.length+2) (.box 45 (jJ R u)))[h.length+2]? =some (.box 45 (jJ R u)):=zq ι
     refine⟨.ag (ZD R++[u]),?_,.inl ?_⟩
     ·have hb5:(h'.set (h.length+2) (.box 45 [i64 R.worker,i64 R.week,i64 R.err,i64 (R.tot 0),i64 (R.tot 1),i64 (R.tot 2),i64 (R.tot 3),i64 (R.tot 4),i64 (R.tot 5),i64 (R.tot 6),i64 (R.pays 0),i64 (R.pays 1),i64 (R.pays 2),i64 (R.pays 3),i64 (R.pays 4),i64 (R.pays 5),i64 (R.pays 6),i64 R.earned.1,i64 R.earned.2,i64 R.perf.1,i64 R.perf.2,i64 R.elig,i64 R.tier,i64 R.extra,i64 R.supp,i64 R.total,u]))[h.length+2]? =some (.box 45 (jJ R u)):=hb4
      simp only[go_sem,t8,hb5]
      rfl
     ·obtain⟨L,hL,hN⟩:=hp2
      refine⟨L,u,hL,hN,rfl,?_⟩
      rw[hL] at ψ
      exact ψ.new (zo _)
theorem Wpa(h:List Ob)(s:Setup)(a:SA)(k:SIn h s a)(f:SFit s)(x:AV)(l:List Ev)(w wk:Int)(c:SlOf h x 11 (l.map evC))(b:l.length<=1000):
  ACalls Tryz.prog 17 [jm s a,x,i64 w,i64 wk] h λr h'=>r= .ag (ZD (jI s l w wk).1++[.sl 2 ((jI s l w wk).2.map jT)])/\h'=h:=
 Yg (by decide) rfl (z2a _) (Woa h s a k f x l w wk c b)
theorem WI(h:List Ob)(x:AV)(rows:List (List AV))(b:SlOf h x 1 rows)(o:rows.length<1099511627776)(k:(rows.all λr=>r.length==1 && r.all AV.one)=true):
  ACalls Tryz.prog 73 [x] h λr h'=>(rows=[]/\h'=h/\r= .v (.slice none 0 0))∨(h'=h++[.row 5 1 rows 1]/\r= .tl h.length 1):=by
 refine yu (N:=8) (rs:=[.tmp 2]) (fn:=Tryz.f73) rfl rfl rfl rfl (ji rfl) rfl (⟨_,_,.inr ⟨rfl,rfl⟩,q8⟩) λB=>?_
 cases rows with
 | nil=>
   refine kNa 0 rfl b.rows (λm=>?_) ?_
   ·refine qz _ (by decide) ?_;simp only[go_sem]
    exact⟨.v (.slice none 0 0),by simp only[go_sem],.inl (.inl ⟨rfl,rfl⟩)⟩
   ·refine qz _ (by decide) ?_;simp only[go_sem]
    exact⟨.tl h.length 1,by simp only[go_sem],.inl (.inr ⟨rfl,rfl⟩)⟩
 | cons y l=>
   have j:=b.at (i:=0) (by simp)
   have f:=b.rows
   have g:Qq x=false:=by
    rcases qZa f with⟨e,xs,rfl⟩|⟨i,s,rfl⟩|⟨a,e,i,n,rfl⟩<;>rfl
   unfold Qq at g
   have c:∀L,zZ (h++L) x=some (y::l):=λL=>(b.app L).rows
   have d:(y::l).length*2<=140737488355328:=by omega
   rw[List.length_cons] at d
   refine qz _ (by decide) ?_;simp only[go_sem,f,j,g,c,k,d,Bool.or_true,decide_true]
   exact⟨.tl h.length 1,by simp only[go_sem],.inl (.inr ⟨rfl,rfl⟩)⟩
theorem KV(h:List Ob)(x:AV)(rows:List (List AV))(c:SlOf h x 1 rows)(b:rows.length<1099511627776)(d:(rows.all λr=>r.length==1 && r.all AV.one)=true)(a:qZ h.length rows=true):
  ACalls Tryz.prog 73 [x] h λr h'=>r= .sl 1 rows/\h'=h:=
 ve (by decide) a ((WI h x rows c b d).mono λr h' q=>by
  rcases q with⟨rfl,rfl,rfl⟩|⟨rfl,rfl⟩
  ·exact⟨[],by simp,xr,λe _=>⟨rfl,λh=>absurd rfl h⟩⟩
  ·exact⟨_,rfl,zF rfl,OwnS.new (h0:=h) (ty:=5) (.inr ⟨h.length,1,zo _,rfl,by rw[zM rfl];rfl⟩) (zo _)⟩)
structure Fx where
 op:Int
 ev:Ev
abbrev fxC(x:Fx):List AV:=[i64 x.op,i64 x.ev.id,i64 x.ev.worker,i64 x.ev.at_,i64 x.ev.kind,i64 x.ev.from_,i64 x.ev.to_,i64 x.ev.element,i64 x.ev.units,i64 x.ev.class_,i64 x.ev.gear,i64 x.ev.code]
def Wqa(x:Fx):Bool:=x.op==1 || x.op==3
def KNa(x:Fx):Bool:=x.op==2 || x.op==3
theorem JOa{P:Program}{f:FuncId}{x v:Value}(d:JF P f=true)(c:∀w,Calls P f #[x] w λe w'=>e= .returned v/\w=w'):xv P f [.v x] (.v v):=λh=>by
 refine⟨d,⟨_,_,⟨rfl,rfl⟩,.refl⟩,λφ k B w g vs j hB a=>?_⟩
 obtain⟨u,r,rfl,i,b⟩:=a
 have i:u=x:=i
 have b:r=[]:=b
 subst i b
 refine(c w).mono ?_
 rintro e w' ⟨rfl,rfl⟩
 exact⟨_,_,_,_,rfl,⟨rfl,rfl⟩,.refl,Good.refl j hB,rfl⟩
def js(n:Int):Int:=wr ((wr (Go.Lib.bitLen (IntKind.wrap .u64 n).toNat+7)).tdiv 8)
theorem Z3a(n:Int):xv Tryz.prog 74 [i64 n] (i64 (js n)):=λh=>by
 have a:0<=IntKind.wrap .u64 n/\IntKind.wrap .u64 n<=18446744073709551615:=by
  rw[IntKind.wrap_u64];omega
 refine zl Tryz.f74 [.tmp 2] 8 rfl rfl rfl rfl rfl rfl (by decide) (⟨_,_,⟨rfl,rfl⟩,.refl⟩) λB=>?_
 simp only[go_sem]
 refine zi (JOa (by kernel_rfl) (λw=>wMa (IntKind.wrap .u64 n) w a.1 a.2) _) ?_
 rintro _ b ⟨rfl,rfl⟩
 simp only[go_sem]
 refine zk ?_<;>(simp only[go_sem,js]<;>try rfl)
theorem Yi{P:Program}{f:FuncId}{ar:List AV}{h:List Ob}{u:AV}{e:Nat}{rows:List (List AV)}(o:0<e)(j:u.lt h.length=true)(z:qZ h.length rows=true)(c:ACalls P f ar h λr h'=>∃L x,h'=h++L/\NoRes L/\r= .tup [x,u]/\New h e x rows L):ACalls P f ar h λr h'=>r= .tup [.sl e rows,u]/\h'=h:=by
 refine⟨c.1,⟨_,_,⟨rfl,rfl⟩,.refl⟩,λφ k B w g vs m hB b=>?_⟩
 refine(c.2.2 φ k B w g vs m hB b).mono λE w' ⟨v,r,h',g',s,⟨L,x,p,_,A,n1⟩,_,i,l⟩=>?_
 subst p A
 rw[jO k] at i l
 have a:(fill φ h).length=h.length:=qT
 obtain⟨us,rfl,q,D,t,a1,y,C,n,a2,d⟩:=l
 have d:C=[]:=d
 subst d n
 refine⟨_,_,h,g',s,⟨rfl,rfl⟩,.refl,i.drop rfl (by have:=m.ids;exact this),us,rfl,?_⟩
 rw[t]
 exact⟨q,_,rfl,JM i.ok o a1 (n1 _ a) (λid hid=>by rw[a];exact n1.root id hid) (by rw[a];exact z),y,[],rfl,AR.less (kG w' g' (fill φ h) L) _ _ (by rw[qT];exact j) a2,rfl⟩
def qN(n:Int):List AV:=[.v (.int .u8 n)]
theorem Jg{n:Nat}:∀l:List Int,qZ n (l.map qN)=true
 | []=>rfl
 | s::l=>by
   rw[List.map_cons,qZ,Jg l];rfl
theorem Z4a(l:List Int):((l.map qN).all λr=>r.length==1 && r.all AV.one)=true:=by
 rw[zL]
 intro r a
 obtain⟨s,_,rfl⟩:=zx.1 a
 rfl
def ZE(n:Int)(j:Nat):Int:=IntKind.wrap .u8 (n.fdiv (2 ^ min (8*j) 64))
def xj(n:Int):Nat->List Int
 | 0=>[]
 | k+1=>ZE n k::xj n k
theorem vS(n:Int):∀k,(xj n k).length=k
 | 0=>rfl
 | k+1=>by rw[xj,List.length_cons,vS n k]
theorem vfa(n:Int):0<=js n/\js n<=8:=by
 have a:0<=IntKind.wrap .u64 n/\IntKind.wrap .u64 n<=18446744073709551615:=by
  rw[IntKind.wrap_u64];omega
 have:=Go.Lib.bitLen_le (IntKind.wrap .u64 n).toNat 64 (by omega) (by omega)
 unfold js
 rw[qb (n:=(Go.Lib.bitLen (IntKind.wrap .u64 n).toNat:Int)+7) (by unfold Fit;omega),Int.tdiv_eq_ediv_of_nonneg (by omega),qb (by unfold Fit;omega)]
 omega
def qM(n:Int):List Int:=IntKind.wrap .u8 (js n)::xj n (js n).toNat
theorem Z9(n:Int):(qM n).length<=9:=by
 have:=vfa n
 rw[qM,List.length_cons,vS];omega
def jIa(l:List Int):Bool:=l.any λn=>decide (n<0)
def wh(b ns:List Int):List Int × Int:=if jIa ns then([],50) else(b++ns.flatMap qM,0)
theorem KOa(h:List Ob)(x y:AV)(b ns:List Int)(hx:SlOf h x 1 (b.map qN))(hy:SlOf h y 1 (ns.map qI))(hb:b.length<1073741824)(hn:ns.length<1048576):
  ACalls Tryz.prog 24 [x,y] h λr h'=>∃L z,h'=h++L/\NoRes L/\r= .tup [z,i64 (wh b ns).2]/\New h 1 z ((wh b ns).1.map qN) L:=by
 have hex:∃r h',(∃L z,h'=h++L/\NoRes L/\r=AV.tup [z,i64 (wh b ns).2]/\New h 1 z ((wh b ns).1.map qN) L)/\ResK h h':=
  ⟨_,_,⟨[],.sl 1 _,rfl,xr,rfl,λ_ _=>⟨rfl,λ_=>rfl⟩⟩,q8⟩
 refine yu (N:=41) (rs:=[.tmp 4,.tmp 5]) (fn:=Tryz.f24) rfl rfl rfl rfl (ji rfl) rfl (hex) λB=>?_
 refine qi (by decide) ?_
 simp only[go_sem]
 refine qF (Vk (λT' h'=>Pre h h'/\OwnS h h' 5 1 (T' 6) (b.map qN)/\T' 1=y) (by decide) ?_ ?_)
 ·simp only[go_sem]
  refine zi (WI _ x _ hx (by rw[zb];omega) (Z4a b)) ?_
  rintro r h1 hr
  rcases hr with⟨q1,rfl,rfl⟩|⟨rfl,rfl⟩
  ·simp only[go_sem]
   exact⟨.refl,.inl ⟨rfl,q1⟩⟩
  ·simp only[go_sem]
   exact⟨⟨_,rfl,zF rfl⟩,.inr ⟨h.length,1,zo _,rfl,by rw[zM rfl];rfl⟩⟩
 ·rintro T h' ⟨c,I,t1⟩
  have G:=(c.sl hy).rows
  refine qz _ (by decide) ?_
  simp only[go_sem,t1,G,zb]
  refine zO (by decide) (λm T h'=>∃i:Nat,i<=ns.length/\jIa (ns.take i)=false/\Pre h h'/\OwnS h h' 5 1 (T 6) ((b++(ns.take i).flatMap qM).map qN)/\T 12=y/\T 13=i64 ns.length/\T 14=i64 i/\m=ns.length - i) ns.length
   ⟨0,by omega,rfl,c,by simp only[go_sem];simpa using I,by simp only[go_sem,t1],by(simp only[go_sem]<;>rfl),by(simp only[go_sem]<;>rfl),rfl⟩ ?_
  clear c I t1 G
  rintro m T h' ⟨i,hi,s,c,I,o,g,f,rfl⟩
  simp only[go_sem,g,f]
  refine ways (λe=>?_) (λe=>?_)
  ·have F:=dlt e
   have H:=XK F
   have θ:=(c.sl hy).at (i:=i) (by rw[zb];exact F)
   have G:=(c.sl hy).rows
   have α:(i:Int)<ns.length:=by omega
   have v:ns.take (i+1)=ns.take i++[ns[i]]:=(zD F).symm
   have J:=zw F
   obtain⟨z,hz⟩:∃z,z=ns[i]:=⟨_,rfl⟩
   rw[<-hz] at H v J
   simp only[go_sem,o,f,θ,G,H,α,zb,Int.toNat_natCast,zg]
   refine ways (λe2=>?_) (λe2=>?_)
   ·have Y:jIa ns=true:=List.any_eq_true.2 ⟨z,J,e2⟩
    have hp:wh b ns=([],50):=by unfold wh;rw[Y];rfl
    rw[hp]
    simp only[go_sem]
    obtain⟨L,Z,hN⟩:=c
    exact⟨_,rfl,.inl ⟨L,_,Z,hN,rfl,λh2 _=>⟨rfl,λh=>absurd rfl h⟩⟩⟩
   ·have X:decide (z<0)=false:=e2
    simp only[go_sem]
    refine zi (Z3a z _) ?_
    rintro _ h2 ⟨rfl,e3⟩
    rw[e3]
    have hk:=vfa z
    obtain⟨p,E⟩:∃p,p=b++(ns.take i).flatMap qM:=⟨_,rfl⟩
    rw[<-E] at I
    have hPl:p.length<=1073741824+9*1048576:=by
     have:∀l:List Int,(l.flatMap qM).length<=9*l.length:=λl=>by
      induction l with
      | nil=>simp
      | cons n l ih=>
        have:=Z9 n
        rw[List.flatMap_cons,ze,List.length_cons];omega
     have:=this (ns.take i)
     rw[zX] at this
     rw[E,ze];omega
    have W:(p.length+1)*2<=140737488355328:=by omega
    rcases I with⟨t6,q⟩|⟨id,st,u1,t6,u3⟩
    ·have hP:p=[]:=by simpa using q
     simp only[go_sem,t6]
     have a:Pre h (h'++[.row 5 1 [qN (IntKind.wrap .u8 (js z))] 0,.row 5 1 [qN (IntKind.wrap .u8 (js z))] 0]):=c.app (zp rfl (zF rfl))
     have d:OwnS h (h'++[.row 5 1 [qN (IntKind.wrap .u8 (js z))] 0,.row 5 1 [qN (IntKind.wrap .u8 (js z))] 0]) 5 1 (.tl (h'.length+1) 0) ((p++[IntKind.wrap .u8 (js z)]).map qN):= .inr ⟨_,0,by have:=c.len;omega,rfl,by rw[zN (k:=1) rfl,hP];rfl⟩
     have ξ:((js z).toNat:Int)=js z:=by omega
     obtain⟨k,O⟩:∃k,k=(js z).toNat:=⟨_,rfl⟩
     have ο:k<=8:=by omega
     refine zO (by decide) (λm T C=>∃j:Nat,j<=k/\Pre h C/\(∃D,xj z k=D++xj z j/\OwnS h C 5 1 (T 6) ((p++[IntKind.wrap .u8 (js z)]++D).map qN))/\T 8=i64 z/\T 9=i64 j/\T 12=y/\T 13=i64 ns.length/\T 14=i64 i/\m=j) k
      ⟨k,zo _,a,⟨[],rfl,by simp only[go_sem];exact d⟩,by simp only[go_sem],by rw[show((k:Nat):Int)=js z by omega];simp only[go_sem],by simp only[go_sem,o],by simp only[go_sem,g],by simp only[go_sem,f],rfl⟩ ?_
     clear a d o g f
     rintro m T C ⟨j,hj,a,⟨D,Q,d⟩,t8,t9,o,g,f,rfl⟩
     simp only[go_sem,t9]
     refine ways (λR=>?_) (λR=>?_)
     ·have δ:0<m:=by have:=of_decide_eq_true R;omega
      obtain⟨j,rfl⟩:∃j,m=j+1:=⟨m - 1,by omega⟩
      have w1:IntKind.wrap .i64 (((j+1:Nat):Int) - 1)=(j:Int):=(qb (n:=((j+1:Nat):Int) - 1) (by unfold Fit;omega)).trans (by omega)
      have w2:IntKind.wrap .i64 (8*(j:Int))=8*(j:Int):=qb (n:=8*(j:Int)) (by unfold Fit;omega)
      have w3:0<=8*(j:Int):=by omega
      have w4:(8*(j:Int)).toNat=8*j:=by omega
      have S:xj z k=(D++[ZE z j])++xj z j:=by rw[Q,xj];simp
      have K:=congrArg List.length Q
      rw[ze,vS,vS] at K
      have P:IntKind.wrap .u8 (z.fdiv (2 ^ min (8*j) 64))=ZE z j:=rfl
      have V:(p.length+(D.length+1)+1)*2<=140737488355328:=by omega
      rcases d with⟨_,q⟩|⟨t,A,v1,t6,v3⟩
      ·simp at q
      ·have u:∀M,(C++M)[t]? =some (.row 5 1 ((p++[IntKind.wrap .u8 (js z)]++D).map qN) A):=λM=>zf v3
       simp only[go_sem,t6,t8,t9,w1,w2,w3,w4,P,u,V,zb]
       refine⟨j,by omega,j,by omega,(a.app (zF rfl)).set v1 rfl,⟨D++[ZE z j],S,.inr ⟨t,A+1,v1,rfl,?_⟩⟩,rfl,o,g,f,rfl⟩
       have e6:(p++IntKind.wrap .u8 (js z)::(D++[ZE z j])).map qN=(p++IntKind.wrap .u8 (js z)::D).map qN++[qN (ZE z j)]:=by simp
       rw[e6]
       exact zq (u _)
     ·have U:m=0:=by have:=of_decide_eq_false R;omega
      subst U
      have w:p++[IntKind.wrap .u8 (js z)]++D=b++(ns.take (i+1)).flatMap qM:=by
       rw[v,List.flatMap_append, <-zn, <-E]
       have:D=xj z k:=by rw[Q];simp[xj]
       rw[this,O]
       simp[qM]
      rw[w] at d
      simp only[go_sem,f]
      exact⟨ns.length - (i+1),by omega,i+1,by omega,by rw[v];unfold jIa at s ⊢;rw[List.any_append,s];simp[X],a,d,o,g,qc (by omega) rfl,rfl⟩
    ·have hg:∀M,(h'++M)[id]? =some (.row 5 1 (p.map qN) st):=λM=>zf u3
     simp only[go_sem,t6,hg,W,zb]
     have a:Pre h ((h'++[Ob.row 5 1 [qN (IntKind.wrap .u8 (js z))] 0]).set id (.row 5 1 (p.map qN++[qN (IntKind.wrap .u8 (js z))]) (st+1))):=(c.app (zF rfl)).set u1 rfl
     have d:OwnS h ((h'++[Ob.row 5 1 [qN (IntKind.wrap .u8 (js z))] 0]).set id (.row 5 1 (p.map qN++[qN (IntKind.wrap .u8 (js z))]) (st+1))) 5 1 (.tl id (st+1)) ((p++[IntKind.wrap .u8 (js z)]).map qN):= .inr ⟨id,st+1,u1,rfl,by rw[zy];exact zq (hg _)⟩
     have ξ:((js z).toNat:Int)=js z:=by omega
     obtain⟨k,O⟩:∃k,k=(js z).toNat:=⟨_,rfl⟩
     have ο:k<=8:=by omega
     refine zO (by decide) (λm T C=>∃j:Nat,j<=k/\Pre h C/\(∃D,xj z k=D++xj z j/\OwnS h C 5 1 (T 6) ((p++[IntKind.wrap .u8 (js z)]++D).map qN))/\T 8=i64 z/\T 9=i64 j/\T 12=y/\T 13=i64 ns.length/\T 14=i64 i/\m=j) k
      ⟨k,zo _,a,⟨[],rfl,by simp only[go_sem];exact d⟩,by simp only[go_sem],by rw[show((k:Nat):Int)=js z by omega];simp only[go_sem],by simp only[go_sem,o],by simp only[go_sem,g],by simp only[go_sem,f],rfl⟩ ?_
     clear a d o g f
     rintro m T C ⟨j,hj,a,⟨D,Q,d⟩,t8,t9,o,g,f,rfl⟩
     simp only[go_sem,t9]
     refine ways (λR=>?_) (λR=>?_)
     ·have δ:0<m:=by have:=of_decide_eq_true R;omega
      obtain⟨j,rfl⟩:∃j,m=j+1:=⟨m - 1,by omega⟩
      have w1:IntKind.wrap .i64 (((j+1:Nat):Int) - 1)=(j:Int):=(qb (n:=((j+1:Nat):Int) - 1) (by unfold Fit;omega)).trans (by omega)
      have w2:IntKind.wrap .i64 (8*(j:Int))=8*(j:Int):=qb (n:=8*(j:Int)) (by unfold Fit;omega)
      have w3:0<=8*(j:Int):=by omega
      have w4:(8*(j:Int)).toNat=8*j:=by omega
      have S:xj z k=(D++[ZE z j])++xj z j:=by rw[Q,xj];simp
      have K:=congrArg List.length Q
      rw[ze,vS,vS] at K
      have P:IntKind.wrap .u8 (z.fdiv (2 ^ min (8*j) 64))=ZE z j:=rfl
      have V:(p.length+(D.length+1)+1)*2<=140737488355328:=by omega
      rcases d with⟨_,q⟩|⟨t,A,v1,t6,v3⟩
      ·simp at q
      ·have u:∀M,(C++M)[t]? =some (.row 5 1 ((p++[IntKind.wrap .u8 (js z)]++D).map qN) A):=λM=>zf v3
       simp only[go_sem,t6,t8,t9,w1,w2,w3,w4,P,u,V,zb]
       refine⟨j,by omega,j,by omega,(a.app (zF rfl)).set v1 rfl,⟨D++[ZE z j],S,.inr ⟨t,A+1,v1,rfl,?_⟩⟩,rfl,o,g,f,rfl⟩
       have e6:(p++IntKind.wrap .u8 (js z)::(D++[ZE z j])).map qN=(p++IntKind.wrap .u8 (js z)::D).map qN++[qN (ZE z j)]:=by simp
       rw[e6]
       exact zq (u _)
     ·have U:m=0:=by have:=of_decide_eq_false R;omega
      subst U
      have w:p++[IntKind.wrap .u8 (js z)]++D=b++(ns.take (i+1)).flatMap qM:=by
       rw[v,List.flatMap_append, <-zn, <-E]
       have:D=xj z k:=by rw[Q];simp[xj]
       rw[this,O]
       simp[qM]
      rw[w] at d
      simp only[go_sem,f]
      exact⟨ns.length - (i+1),by omega,i+1,by omega,by rw[v];unfold jIa at s ⊢;rw[List.any_append,s];simp[X],a,d,o,g,qc (by omega) rfl,rfl⟩
  ·have φ:=xc e
   have ρ:i=ns.length:=by omega
   subst ρ
   rw[zY] at s I
   have hp:wh b ns=(b++ns.flatMap qM,0):=by unfold wh;rw[s];rfl
   rw[hp]
   simp only[go_sem]
   obtain⟨L,Z,hN⟩:=c
   rw[Z] at I
   exact⟨_,rfl,.inl ⟨L,_,Z,hN,rfl,I.new (zo _)⟩⟩
theorem Wra(h:List Ob)(x y:AV)(b ns:List Int)(a:SlOf h x 1 (b.map qN))(c:SlOf h y 1 (ns.map qI))(d:b.length<1073741824)(e:ns.length<1048576):
  ACalls Tryz.prog 24 [x,y] h λr h'=>r= .tup [.sl 1 ((wh b ns).1.map qN),i64 (wh b ns).2]/\h'=h:=
 Yi (by decide) rfl (Jg _) (KOa h x y b ns a c d e)
