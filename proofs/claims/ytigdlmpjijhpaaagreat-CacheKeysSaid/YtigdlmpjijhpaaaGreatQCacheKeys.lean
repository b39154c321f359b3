/-
  CacheKeys: whatever the input, the call returns true and leaves its arguments as they were. No condition.
-/
import Derived.Test.YtigdlmpjijhpaaaGreatK47
import Derived.Test.YtigdlmpjijhpaaaGreatRows
import Derived.Test.YtigdlmpjijhpaaaGreatO0CacheKeys
import Derived.Test.YtigdlmpjijhpaaaGreatO1CacheKeys
import Derived.Test.YtigdlmpjijhpaaaGreatO2CacheKeys
import Derived.WalkKit
import Derived.ProofKit
import Derived.OpenShut
import Derived.ShutString
import Derived.ChangeOld
import Derived.Below
import Derived.Deep.Matrix
set_option linter.all false
namespace Go.Proofs.YtigdlmpjijhpaaaGreat.Ax
open Go Go.Proofs
set_option maxRecDepth 100000
set_option maxHeartbeats 4000000 in
theorem cCacheKeys(h:List Ob)(s:Setup)(a:SA)(k:SIn h s a)(f0:SFit0 s)(x:AV)(l:List Cm)(hx:SlOf h x 16 (l.map ZT)):
  ACalls Tryz.prog 8 [jg s a,x] h λr h'=>r=bl true/\h'=h:=by
 refine zj Tryz.f8 [.tmp 4] 185 rfl rfl rfl rfl rfl rfl (by decide) (⟨_,_,⟨rfl,rfl⟩,.refl⟩) λB=>?_
 simp only[go_sem,k.w.one,k.e.one,k.c.one,k.g.one,k.r.one,k.t.one]
 refine zh (kib _) ?_
 rintro _ h1 ⟨rfl,rfl⟩
 have kM:∀M,SIn (h++M) s a:=λM=>k.app M
 simp only[go_sem,(kM _).ones]
 refine zh (YCa _ s a (kM _) f0.fit) ?_
 rintro _ h1 ⟨rfl,rfl⟩
 have ho:=(Jm (h:=h) s).ones
 cases U:z6 s
 ·simp only[go_sem,W2a,zA,jF,(kM _).ones]
  refine zh (keb _ s a (kM _) x l (hx.app _)) ?_
  rintro _ h1 ⟨rfl,C⟩
  rw[C]
  cases hf:(jYa s && decide (l.length<=40))
  ·simp only[go_sem,qv]
   refine zn ?_<;>(simp only[go_sem]<;>try rfl)
  ·simp only[go_sem,qv,kjb]
   refine zn ?_<;>(simp only[go_sem]<;>try rfl)
 ·simp only[go_sem,ho,(kM _).ones]
  refine zh (keb _ s a (kM _) x l (hx.app _)) ?_
  rintro _ h1 ⟨rfl,C⟩
  rw[C]
  cases hf:(jYa s && decide (l.length<=40))
  ·simp only[go_sem,qv]
   refine zn ?_<;>(simp only[go_sem]<;>try rfl)
  ·rw[zq,decide_eq_true_eq] at hf
   obtain⟨hfs,hll⟩:=hf
   have f:=f0.few hfs
   have β:=qdb hfs
   simp only[go_sem,qv,ho,bne_self_eq_false]
   have hrM:∀M,qc (h++M) x=some (l.map ZT):=λM=>(hx.app M).rows
   refine zO (by decide) (λm T H=>∃(n:Nat) (X:Ch),n<=l.length/\ChI s X/\LpC h H s a X/\T 1=x/\T 2= .ptr h.length 0/\T 5=bl true/\T 6= .ptr (h.length+1) 0/\T 8=i64 n/\m=l.length - n) l.length
    ⟨0,zZa,by omega,z0a s,⟨⟨_,rfl,zl rfl (zD rfl)⟩,by rw[zK rfl];rfl,by rw[zG (k:=1) rfl];rfl⟩,by simp only[go_sem],by simp only[go_sem],by simp only[go_sem],by simp only[go_sem],by(simp only[go_sem]<;>rfl),rfl⟩ ?_
   rintro m T H ⟨n,X,hn,S,kd,t1,t2,t5,t6,t8,rfl⟩
   have η:=kd.pre.sl hx
   have hrx:=η.rows
   have hrM2:∀M,qc (H++M) x=some (l.map ZT):=λM=>(η.app M).rows
   simp only[go_sem,t1,t8,hrx,zb]
   refine ways (λe=>?_) (λe=>?_)
   ·have τ:=dlt e
    have ι:=WHa τ
    have hkl:(n:Int)<l.length:=by omega
    have hex2:=η.at (i:=n) (by simpa using τ)
    have heM:∀M,eOf (H++M) x=some 16:=λM=>(η.app M).at (i:=n) (by simpa using τ)
    obtain⟨q,hq⟩:∃q,q=l[n]:=⟨_,rfl⟩
    rw[<-hq] at ι
    have hst:=kd.st
    have ψ:=kd.ch
    have hstM:∀M,(H++M)[h.length]? =some (.box 30 (qg s a)):=λM=>ze hst
    have ρ:∀M,(H++M)[h.length+1]? =some (Qo s X):=λM=>ze ψ
    have kH:=kd.pre.sin k
    have kK:=j8b S q U f
    have A:=WYa q S
    have hlk:=kK.few U
    have hl2:=A.len3 β
    have hxf:=S.bk.few
    have htf:=Vw U X.bk.evs (wy q)
    simp only[go_sem,t1,t6,t8,ι,hkl,hrx,hex2,hrM2,heM,ψ,ρ,ho,zb,Int.toNat_natCast,zf]
    refine zh (kcb _ s f U X S q β) ?_
    rintro _ h1 ⟨rfl,C⟩
    rw[C]
    clear C
    obtain⟨Y,hY⟩:∃Y,Y=(doC s X q).1:=⟨_,rfl⟩
    obtain⟨w,hw⟩:∃w,w=(doC s X q).2.1:=⟨_,rfl⟩
    obtain⟨K,hK⟩:∃K,K=(doC s X q).2.2:=⟨_,rfl⟩
    obtain⟨v,ζ⟩:∃v,v=jp s X.bk.evs (wy q):=⟨_,rfl⟩
    rw[<-hY, <-hw, <-hK] at kK
    rw[<-hY, <-hK] at hlk
    rw[<-hY] at A hl2
    rw[<-hY, <-hw, <-hK]
    rw[<-ζ] at htf
    have hfK:(q.kind=1∨q.kind=2)->∀κ∈K,isH X.rows κ=true/\κ∈v:=by rw[ζ];exact kK.fix
    obtain⟨H1,N⟩:∃H1,H1=H++[Ob.box 79 (ZT q),Qo s Y,Ob.box 71 (wQ w)]:=⟨_,rfl⟩
    have kd1:LpC h H1 s a X:=by rw[N];exact kd.app (zl rfl (zl rfl (zD rfl)))
    have c9:H1[H.length]? =some (Ob.box 79 (ZT q)):=by rw[N,zK rfl];rfl
    have c10:H1[H.length+1]? =some (Qo s Y):=by rw[N,zG (k:=1) rfl];rfl
    have c11:H1[H.length+2]? =some (Ob.box 71 (wQ w)):=by rw[N,zG (k:=2) rfl];rfl
    have pm:∀d:Ob,d.isRes=false->Pre H1 (H++[Ob.box 79 (ZT q),Qo s Y,Ob.box 71 (wQ w),d]):=λd hd=>by rw[N];exact⟨[d],by simp,zD hd⟩
    clear N
    obtain⟨kb,Z⟩:∃kb,kb=(q.kind==1 || q.kind==2):=⟨_,rfl⟩
    have hA:kb=true->q.kind=1∨q.kind=2:=λz=>by
     rw[z] at Z
     simpa using Z.symm
    have hB:kb=false->¬ (q.kind=1∨q.kind=2):=λz=>by
     rw[z] at Z
     simpa using Z.symm
    rcases kfb q.kind with⟨g1,g2⟩|⟨g1,g2⟩|⟨g1,g2⟩
    all_goals
     have hkv:=Z
     rw[g1,g2] at hkv
     simp only[go_sem,t2,t6,hst,hstM,ψ,ρ,ho,(kH.app _).ones,g1,g2,qv]
     first
      | refine zh (k8a _ s a (kH.app _) (BX X.bk) X.bk.evs ⟨1,q.fx.ev⟩ ⟨rfl,λ_=>rfl⟩ (by omega)) ?_
      | refine zh (k8a _ s a (kH.app _) (BX X.bk) X.bk.evs q.fx ⟨rfl,λ_=>rfl⟩ (by omega)) ?_
     rintro _ h1 ⟨rfl,C⟩
     rw[C]
     clear C
     first
      | rw[show jp s X.bk.evs ⟨1,q.fx.ev⟩=v by rw[ζ,xeb g1]]
      | rw[show jp s X.bk.evs q.fx=v by rw[ζ,xfb g1]]
     simp only[go_sem,g1,g2,qv]
     refine zO (by decide) (λm T H2=>∃j:Nat,j<=K.length/\Pre H1 H2/\T 1=x/\T 2= .ptr h.length 0/\T 5=bl true/\T 6= .ptr (h.length+1) 0/\T 8=i64 n/\T 9= .ptr H.length 0/\T 10= .ptr (H.length+1) 0/\T 11= .ptr (H.length+2) 0/\T 12=KV K/\T 14=KV v/\T 15=bl kb/\T 16=i64 j/\m=K.length - j) K.length
      ⟨0,by omega,pm _ rfl,by simp only[go_sem,t1],by simp only[go_sem,t2],by simp only[go_sem,t5],by simp only[go_sem,t6],by simp only[go_sem,t8],by simp only[go_sem],by simp only[go_sem],by simp only[go_sem],by simp only[go_sem],by simp only[go_sem],by(rw[hkv];simp only[go_sem,Bool.or_false,Bool.or_true,Bool.false_or,Bool.true_or,qv]<;>rfl),by(simp only[go_sem]<;>rfl),rfl⟩ ?_
     clear t1 t2 t5 t6 t8
     rintro m T H2 ⟨j,hj,P,u1,u2,u5,u6,u8,u9,R,ε,F,δ,J,u16,rfl⟩
     have θ:=kd1.pres P
     have d6:=θ.ch
     have W:=P.get c10
     have d6M:∀M,(H2++M)[h.length+1]? =some (Qo s X):=λM=>ze d6
     have ο:∀M,(H2++M)[H.length+1]? =some (Qo s Y):=λM=>ze W
     simp only[go_sem,F,u16,zb]
     refine ways (λe=>?_) (λe=>?_)
     ·have hjl:=dlt e
      have G:=Zq jl hjl
      have o:(j:Int)<K.length:=by omega
      have p:=zx hjl
      obtain⟨κ,hκ⟩:∃κ,κ=K[j]:=⟨_,rfl⟩
      rw[<-hκ] at G p
      clear hκ
      simp only[go_sem]
      refine zQ rfl [.res] 1 [(1,0,[]),(2,0,[]),(0,0,[]),(3,0,[]),(4,0,[]),(5,0,[]),(6,0,[]),(7,0,[]),(8,0,[]),(9,0,[]),(10,0,[]),(11,0,[])] rfl (by decide) (by decide) ?_
      simp only[go_sem,u6,F,u16,d6,d6M,ho,G,o,jl,zb,Int.toNat_natCast,zf]
      refine zh (YDa f β S _ κ) ?_
      rintro _ h1 ⟨rfl,C⟩
      rw[C]
      clear C
      simp only[go_sem,je,vf,List.cons_append,List.nil_append]
      refine zQ rfl [.res] 1 [(1,0,[]),(2,0,[]),(0,0,[]),(3,0,[]),(4,0,[]),(5,0,[]),(6,0,[]),(7,0,[]),(8,0,[]),(9,0,[]),(10,0,[]),(11,0,[])] rfl (by decide) (by decide) ?_
      simp only[go_sem,R,F,u16,W,ο,ho,G,o,jl,zb,Int.toNat_natCast,zf]
      refine zh (YDa f β A _ κ) ?_
      rintro _ h1 ⟨rfl,C⟩
      rw[C]
      clear C
      simp only[go_sem,je,vf,List.cons_append,List.nil_append]
      refine zO (by decide) (λm T H4=>∃i:Nat,i<=v.length/\Pre H1 H4/\T 1=x/\T 2= .ptr h.length 0/\T 5=bl true/\T 6= .ptr (h.length+1) 0/\T 8=i64 n/\T 9= .ptr H.length 0/\T 10= .ptr (H.length+1) 0/\T 11= .ptr (H.length+2) 0/\T 12=KV K/\T 14=KV v/\T 15=bl kb/\T 16=i64 j/\T 18=bl (isH X.rows κ)/\T 20=bl (isH Y.rows κ)/\T 21=bl ((v.take i).any λz=>eqK z κ)/\T 22=i64 i/\m=v.length - i) v.length
       ⟨0,by omega,P.app (zl rfl (zD rfl)),by simp only[go_sem,u1],by simp only[go_sem,u2],by simp only[go_sem,u5],by simp only[go_sem,u6],by simp only[go_sem,u8],by simp only[go_sem,u9],by simp only[go_sem,R],by simp only[go_sem,ε],by simp only[go_sem,F],by simp only[go_sem,δ],by simp only[go_sem,J],by simp only[go_sem,u16],by simp only[go_sem],by simp only[go_sem],by(simp only[go_sem]<;>rfl),by(simp only[go_sem]<;>rfl),rfl⟩ ?_
      clear u1 u2 u5 u6 u8 u9 R ε F δ J u16 P θ d6 W d6M ο
      rintro m T H4 ⟨i,hi,P,v1,v2,v5,v6,v8,v9,v10,v11,Q,O,E,α,D,v20,y,v22,rfl⟩
      simp only[go_sem,O,v22,zb]
      refine ways (λe=>?_) (λe=>?_)
      ·have hil:=dlt e
       have ω:=Zq jl hil
       have ν:(i:Int)<v.length:=by omega
       have I:=xdb (λz=>eqK z κ) hil
       obtain⟨z,hz⟩:∃z,z=v[i]:=⟨_,rfl⟩
       obtain⟨b,hb⟩:∃b,b=(v.take i).any λz=>eqK z κ:=⟨_,rfl⟩
       rw[<-hz] at ω I
       rw[<-hb] at y I
       simp only[go_sem]
       refine zQ rfl [] 0 [(0,0,[]),(1,0,[]),(2,0,[]),(3,0,[]),(6,0,[]),(7,0,[]),(4,0,[]),(5,0,[]),(8,0,[]),(9,0,[]),(10,0,[]),(11,0,[]),(12,0,[])] rfl (by decide) (by decide) ?_
       cases b
       ·simp only[go_sem,v1,v2,v5,v6,v8,v9,v10,v11,Q,O,E,α,D,v20,y,v22,ω,G,ν,o,jl,qv,zb,Int.toNat_natCast,zf]
        exact⟨v.length - (i+1),by omega,i+1,by omega,P,by rw[I];simp[eqK],qn (by omega) rfl,rfl⟩
       ·simp only[go_sem,v1,v2,v5,v6,v8,v9,v10,v11,Q,O,E,α,D,v20,y,v22,ω,G,ν,o,jl,qv,zb,Int.toNat_natCast,zf]
        exact⟨v.length - (i+1),by omega,i+1,by omega,P,by rw[I];simp[eqK],qn (by omega) rfl,rfl⟩
      ·have hge:=xr e
       have hi2:i=v.length:=by omega
       subst hi2
       rw[zV] at y
       have hheld:=kK.is κ p
       have V:(w.err != 0)=false:=by rw[kK.err (λz=>by rw[z] at p;cases p)];rfl
       rw[hheld] at v20
       have d9:=P.get c9
       have d11:=P.get c11
       simp only[go_sem]
       refine zQ rfl [] 0 [(0,0,[]),(1,0,[]),(2,0,[]),(3,0,[]),(4,0,[]),(5,0,[]),(8,0,[]),(10,0,[]),(6,0,[]),(7,0,[]),(9,0,[]),(11,0,[]),(12,0,[]),(13,0,[]),(14,0,[]),(15,0,[]),(16,0,[]),(17,0,[]),(18,0,[]),(19,0,[]),(20,0,[]),(21,0,[]),(25,0,[]),(22,0,[]),(23,0,[]),(24,0,[]),(26,0,[]),(27,0,[]),(28,0,[]),(29,0,[]),(30,0,[])] rfl (by decide) (by decide) ?_
       cases u:kb
       ·obtain⟨a1,a2⟩:=kK.ask (hB u) κ p
        rw[a1] at D
        rw[u] at E
        rcases a2 with⟨g3,a3⟩|⟨g7,a7⟩
        ·have f1:(κ.1==q.worker)=true:=by rw[a3];exact beq_self_eq_true _
         have f2:(κ.2==q.week)=true:=by rw[a3];exact beq_self_eq_true _
         have g3:(q.kind==3)=true:=by rw[g3];rfl
         simp only[go_sem,v1,v2,v5,v6,v8,v9,v10,v11,Q,O,E,α,D,v20,y,v22,d9,d11,G,o,jl,g3,f1,f2,V,qv,Bool.and_self,zb,Int.toNat_natCast,zf]
         exact⟨K.length - (j+1),by omega,j+1,by omega,P,qn (by omega) rfl,rfl⟩
        ·have f2:(κ.2==q.week)=true:=by rw[a7];exact beq_self_eq_true _
         have g3:(q.kind==3)=false:=by rw[g7];rfl
         have g7:(q.kind==7)=true:=by rw[g7];rfl
         simp only[go_sem,v1,v2,v5,v6,v8,v9,v10,v11,Q,O,E,α,D,v20,y,v22,d9,d11,G,o,jl,g3,g7,f2,V,qv,Bool.and_self,zb,Int.toNat_natCast,zf]
         exact⟨K.length - (j+1),by omega,j+1,by omega,P,qn (by omega) rfl,rfl⟩
       ·obtain⟨a1,a2⟩:=hfK (hA u) κ p
        have hk12:=hA u
        rw[a1] at D
        rw[u] at E
        rw[W5a a2] at y
        have g3:(q.kind==3)=false:=beq_eq_false_iff_ne.2 (by omega)
        have g7:(q.kind==7)=false:=beq_eq_false_iff_ne.2 (by omega)
        simp only[go_sem,v1,v2,v5,v6,v8,v9,v10,v11,Q,O,E,α,D,v20,y,v22,d9,d11,g3,g7,V,qv]
        exact⟨K.length - (j+1),by omega,j+1,by omega,P,qn (by omega) rfl,rfl⟩
     ·have hge:=xr e
      cases u:kb
      ·rw[u] at J
       simp only[go_sem,u1,u2,u5,u6,u8,u9,R,ε,F,δ,J,d6,W,ho,qv]
       exact⟨l.length - (n+1),by omega,n+1,Y,by omega,A,θ.put Y,qn (by omega) rfl,rfl⟩
      ·have h4:=kK.four U (hA u)
       have h5:decide ((K.length:Int)>4)=false:=decide_eq_false (by omega)
       rw[u] at J
       simp only[go_sem,u1,u2,u5,u6,u8,u9,R,ε,F,δ,J,d6,W,ho,h5,qv,zb]
       exact⟨l.length - (n+1),by omega,n+1,Y,by omega,A,θ.put Y,qn (by omega) rfl,rfl⟩
   ·have hge:=xr e
    simp only[go_sem,t5]
    obtain⟨L,rfl,_⟩:=kd.pre
    refine zn ?_<;>(simp only[go_sem]<;>try rfl)
end Go.Proofs.YtigdlmpjijhpaaaGreat.Ax
namespace Go.Proofs.YtigdlmpjijhpaaaGreat.cacheKeys
open Go.ChangeShapes Go.WideShapes Go.ChangeAt Go.RowKit
open Go.ChangeMaps (open_string shut_string)
theorem own:ownKnob Tryz.prog.godebug=none:=by kernel_rfl
theorem laidOut:laidOutB Tryz.prog=true:=by kernel_rfl
def IsRow(k:IntKind)(w:World)(a:Option Addr)(len cap:Nat)(b:List Int):Prop:=
 (a=none/\len=0/\cap=0/\b=[])∨
 ∃x,a=some x/\len<=cap/\cap<=maxLen/\b.length=cap/\(∀i,i<b.length->w.cell? (x.add i)=some (.int k (b.getD i 0)))/\∀n∈b,(Lit.int k n).wf=true
theorem walk(b:Value)(c:Value)(w:World)(h:Ax.InSet w b)(i:Ax.InCms w c):
  Calls Tryz.prog 8 #[b,c] w λe w'=>e= .returned (.bool true)/\Below w.heap.size w w':=by
 obtain⟨s,a,g,ks,f⟩:=h
 obtain⟨x,l,d,sl⟩:=i
 exact Ax.run_law (Ax.cCacheKeys [] s a ks f x l sl) ⟨_,_,rfl,g,_,_,rfl,d,rfl⟩
set_option maxRecDepth 100000 in
theorem lifted(os:Os)(started:os.Started)(H:Type)(enc:TypeId × Value->H):
  ReturnsInHanded {} Tryz.checked os 8 .any (Rows.cacheKeysSpec.pre6 enc Tryz.prog Tryz.f8 Rows.cacheKeysRow.domain false) (Rows.cacheKeysSpec.post enc Tryz.prog Tryz.f8 false true false false):=by
 refine returnsInHanded_of_change (C:=Tryz.checked) own started (by kernel_rfl) Tryz.func8
  (ChangeSpec.witness6 (enc:=enc) (C:=Tryz.checked) false ⟨#[], #[.agg #[.int .i64 0,.slice none 0 0,.int .i64 0,.int .i64 0,.slice none 0 0,.slice none 0 0,.slice none 0 0,.int .i64 0,.int .i64 0,.int .i64 0,.int .i64 0,.int .i64 0,.int .i64 0,.int .i64 0,.int .i64 0,.int .i64 0,.int .i64 0,.int .i64 0,.slice none 0 0,.int .i64 0,.int .i64 0,.int .i64 0,.slice none 0 0],.slice none 0 0],[]⟩ 8 (by kernel_rfl) (by kernel_rfl) (by kernel_rfl) (by kernel_rfl)) ?_
 intro W base args ds gs before b y s _
 have a:∀(j:Nat) t v,Tryz.f8.params[j]? =some t->args[j]? =some v->Value.okWide Tryz.prog W .any base t v:=b
 have k:=y
 obtain⟨p,q,i,F,rfl,N,B⟩:=y
 have w:DataW.TrodAll enc Tryz.prog W 0 (λ_=>true) true Tryz.f8.params.toList args.toList ds p:=i
 rw[Tryz.params8] at w a
 obtain⟨v0,M,R,D,I,Q,o,rfl,rfl,h0,L⟩:=trodAll_cons w
 obtain⟨v1,O,U,P,p1,T,rfl,rfl,rfl,u,G⟩:=trodAll_cons L
 obtain⟨rfl,rfl,rfl⟩:=trodAll_nil G
 obtain rfl:args= #[v0,v1]:=by cases args;simp_all
 obtain⟨rfl,rfl⟩:=trodVars_none F
 have k0:=h0
 have r:∀x∈I,x.block<W.heap.size:=by obtain⟨m,n⟩:=k0;exact DataW.trod_lt m _ _ _ n
 have E:=Ax.setup_in (a 0 30 v0 rfl rfl) h0
 have k1:=u
 have l:∀x∈p1,x.block<W.heap.size:=by obtain⟨m,n⟩:=k1;exact DataW.trod_lt m _ _ _ n
 obtain⟨d,f,c,rfl⟩:=okWide_slice Tryz.underlying61 (a 1 61 v1 rfl rfl)
 have K:=(by obtain⟨z,J⟩:=u;exact Ax.cms_in (v:= .slice d f c) (by simpa [Value.cells] using J):Ax.InCms W (.slice d f c))
 clear i b
 refine(walk v0 (.slice d f c) W E K).mono λe S ⟨A,g⟩=>?_
 subst A
 exact⟨_,rfl,_,_,_,[],_,[],k,trodAll_mk1 (shut_bool Tryz.underlying4 _),(trodAll_cons_mk (Below.trod laidOut (by kernel_rfl) (of_decide_eq_true (by kernel_rfl)) k0 g r) (trodAll_cons_mk (Below.trod laidOut (by kernel_rfl) (of_decide_eq_true (by kernel_rfl)) k1 g l) trodAll_mk0)),rfl,g.frame _,λh=>by cases h⟩
theorem over:Rows.cacheKeysRow.holds Tryz.pinned (OpenSpec.ofChange Rows.cacheKeysSpec):=
 OpenClaim.holds_of_wide 8 Tryz.f8 rfl rfl rfl rfl rfl rfl rfl ⟨rfl,rfl,rfl,rfl,rfl⟩ rfl rfl rfl rfl rfl (by kernel_rfl) Tryz.func8 (cacheKeysJ.rest cacheKeysJ.may cacheKeysJ.lift cacheKeysJ.make)
  (of_decide_eq_true (by kernel_rfl)) (by unfold Func.isWrapper;first|(rw[if_pos (by decide+kernel)];kernel_rfl)|(rw[if_neg (by decide+kernel)];exact⟨rfl,rfl⟩))
  (λos started H enc _=>lifted os started H enc)
theorem proved:Rows.CacheKeysSaid:=over
#print axioms proved
end Go.Proofs.YtigdlmpjijhpaaaGreat.cacheKeys
