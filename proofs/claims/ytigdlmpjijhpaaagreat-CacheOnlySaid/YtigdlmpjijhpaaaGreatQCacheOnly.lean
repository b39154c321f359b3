/-
  CacheOnly: whatever the input, the call returns true and leaves its arguments as they were. No condition.
-/
import Derived.Test.YtigdlmpjijhpaaaGreatK47
import Derived.Test.YtigdlmpjijhpaaaGreatRows
import Derived.Test.YtigdlmpjijhpaaaGreatO0CacheOnly
import Derived.Test.YtigdlmpjijhpaaaGreatO1CacheOnly
import Derived.Test.YtigdlmpjijhpaaaGreatO2CacheOnly
import Derived.WalkKit
import Derived.ProofKit
import Derived.OpenShut
import Derived.ShutString
import Derived.ChangeOld
import Derived.Below
import Derived.Deep.Matrix
set_option linter.all false
namespace Go.Proofs.YtigdlmpjijhpaaaGreat.Ax
open Go Go.Proofs
set_option maxRecDepth 100000
set_option maxHeartbeats 4000000 in
theorem cCacheOnly(h:List Ob)(s:Setup)(a:SA)(k:SIn h s a)(f0:SFit0 s)(x:AV)(l:List Cm)(hx:SlOf h x 16 (l.map ZT)):
  ACalls Tryz.prog 9 [jg s a,x] h λr h'=>r=bl true/\h'=h:=by
 refine zj Tryz.f9 [.tmp 4] 140 rfl rfl rfl rfl rfl rfl (by decide) (⟨_,_,⟨rfl,rfl⟩,.refl⟩) λB=>?_
 simp only[go_sem,k.w.one,k.e.one,k.c.one,k.g.one,k.r.one,k.t.one]
 refine zh (kib _) ?_
 rintro _ h1 ⟨rfl,rfl⟩
 have kM:∀M,SIn (h++M) s a:=λM=>k.app M
 simp only[go_sem,(kM _).ones]
 refine zh (YCa _ s a (kM _) f0.fit) ?_
 rintro _ h1 ⟨rfl,rfl⟩
 have ho:=(Jm (h:=h) s).ones
 cases ψ:z6 s
 ·simp only[go_sem,W2a,zA,jF,(kM _).ones]
  refine zh (keb _ s a (kM _) x l (hx.app _)) ?_
  rintro _ h1 ⟨rfl,v⟩
  rw[v]
  cases hf:(jYa s && decide (l.length<=40))
  ·simp only[go_sem,qv]
   refine zn ?_<;>(simp only[go_sem]<;>try rfl)
  ·simp only[go_sem,qv,kjb]
   refine zn ?_<;>(simp only[go_sem]<;>try rfl)
 ·simp only[go_sem,ho,(kM _).ones]
  refine zh (keb _ s a (kM _) x l (hx.app _)) ?_
  rintro _ h1 ⟨rfl,v⟩
  rw[v]
  cases hf:(jYa s && decide (l.length<=40))
  ·simp only[go_sem,qv]
   refine zn ?_<;>(simp only[go_sem]<;>try rfl)
  ·rw[zq,decide_eq_true_eq] at hf
   obtain⟨hfs,hll⟩:=hf
   have f:=f0.few hfs
   have N:=qdb hfs
   simp only[go_sem,qv,ho,bne_self_eq_false]
   have hrM:∀M,qc (h++M) x=some (l.map ZT):=λM=>(hx.app M).rows
   refine zO (by decide) (λm T H=>∃(n:Nat) (X:Ch),n<=l.length/\ChI s X/\LpC h H s a X/\T 1=x/\T 2= .ptr h.length 0/\T 5=bl true/\T 6= .ptr (h.length+1) 0/\T 8=i64 n/\m=l.length - n) l.length
    ⟨0,zZa,by omega,z0a s,⟨⟨_,rfl,zl rfl (zD rfl)⟩,by rw[zK rfl];rfl,by rw[zG (k:=1) rfl];rfl⟩,by simp only[go_sem],by simp only[go_sem],by simp only[go_sem],by simp only[go_sem],by(simp only[go_sem]<;>rfl),rfl⟩ ?_
   rintro m T H ⟨n,X,hn,E,kd,t1,t2,t5,t6,t8,rfl⟩
   have δ:=kd.pre.sl hx
   have hrx:=δ.rows
   have hrM2:∀M,qc (H++M) x=some (l.map ZT):=λM=>(δ.app M).rows
   simp only[go_sem,t1,t8,hrx,zb]
   refine ways (λe=>?_) (λe=>?_)
   ·have τ:=dlt e
    have η:=WHa τ
    have hkl:(n:Int)<l.length:=by omega
    have hex2:=δ.at (i:=n) (by simpa using τ)
    have heM:∀M,eOf (H++M) x=some 16:=λM=>(δ.app M).at (i:=n) (by simpa using τ)
    obtain⟨q,hq⟩:∃q,q=l[n]:=⟨_,rfl⟩
    rw[<-hq] at η
    have hst:=kd.st
    have hch:=kd.ch
    have hchM:∀M,(H++M)[h.length+1]? =some (Qo s X):=λM=>ze hch
    have kK:=j8b E q ψ f
    have C:=WYa q E
    have hlk:=kK.few ψ
    have hl1:=E.len3 N
    have hl2:=C.len3 N
    simp only[go_sem]
    refine zQ rfl [.res,.res] 2 [(1,0,[]),(2,0,[]),(0,0,[]),(3,0,[]),(4,0,[]),(5,0,[]),(6,0,[]),(7,0,[]),(8,0,[]),(9,0,[]),(10,0,[]),(11,1,[]),(12,0,[]),(13,0,[]),(14,0,[])] rfl (by decide) (by decide) ?_
    simp only[go_sem,t1,t6,t8,η,hkl,hrx,hex2,hrM2,heM,hch,hchM,ho,zb,Int.toNat_natCast,zf]
    refine zh (kcb _ s f ψ X E q N) ?_
    rintro _ h1 ⟨rfl,v⟩
    rw[v]
    clear v
    obtain⟨Y,hY⟩:∃Y,Y=(doC s X q).1:=⟨_,rfl⟩
    obtain⟨w,hw⟩:∃w,w=(doC s X q).2.1:=⟨_,rfl⟩
    obtain⟨K,hK⟩:∃K,K=(doC s X q).2.2:=⟨_,rfl⟩
    rw[<-hY, <-hw, <-hK] at kK
    rw[<-hY, <-hK] at hlk
    rw[<-hY] at C hl2
    rw[<-hY, <-hw, <-hK]
    obtain⟨H1,γ⟩:∃H1,H1=H++[Qo s Y,Ob.box 71 (wQ w)]:=⟨_,rfl⟩
    have χ:LpC h H1 s a X:=by rw[γ];exact kd.app (zl rfl (zD rfl))
    have c9:H1[H.length]? =some (Qo s Y):=by rw[γ,zK rfl];rfl
    have pm:Pre H1 (H++[Qo s Y,Ob.box 71 (wQ w)]):=by rw[γ];exact .refl
    clear γ
    simp only[go_sem,ho]
    refine zO (by decide) (λm T H2=>∃j:Nat,j<=K.length/\Pre H1 H2/\T 1=x/\T 2= .ptr h.length 0/\T 5=bl true/\T 6= .ptr (h.length+1) 0/\T 8=i64 n/\T 9= .ptr H.length 0/\T 11=KV K/\T 12=i64 (((K.take j).filter λz=> !isH X.rows z).length:Nat)/\T 13=i64 j/\m=K.length - j) K.length
     ⟨0,by omega,pm,by simp only[go_sem,t1],by simp only[go_sem,t2],by simp only[go_sem,t5],by simp only[go_sem,t6],by simp only[go_sem,t8],by simp only[go_sem],by simp only[go_sem],by(simp only[go_sem]<;>rfl),by(simp only[go_sem]<;>rfl),rfl⟩ ?_
    clear t1 t2 t5 t6 t8
    rintro m T H2 ⟨j,hj,Z,u1,u2,u5,S,u8,u9,d,o,Q,rfl⟩
    have W:=χ.pres Z
    have d6:=W.ch
    have d9:=Z.get c9
    have β:∀M,(H2++M)[h.length+1]? =some (Qo s X):=λM=>ze d6
    simp only[go_sem,d,Q,zb]
    refine ways (λe=>?_) (λe=>?_)
    ·have hjl:=dlt e
     have G:=Zq jl hjl
     have hjl2:(j:Int)<K.length:=by omega
     have y:=YEa (λz=> !isH X.rows z) hjl
     have hcl:=qh (λz=> !isH X.rows z) (K.take j)
     rw[zH] at hcl
     obtain⟨κ,hκ⟩:∃κ,κ=K[j]:=⟨_,rfl⟩
     rw[<-hκ] at G y
     clear hκ
     simp only[go_sem]
     refine zQ rfl [.res] 1 [(1,0,[]),(2,0,[]),(0,0,[]),(3,0,[]),(4,0,[]),(5,0,[]),(6,0,[]),(7,0,[]),(8,0,[]),(9,0,[]),(10,0,[]),(11,0,[])] rfl (by decide) (by decide) ?_
     simp only[go_sem,S,d,Q,d6,β,ho,G,hjl2,jl,zb,Int.toNat_natCast,zf]
     refine zh (YDa f N E _ κ) ?_
     rintro _ h1 ⟨rfl,v⟩
     rw[v]
     clear v
     cases hb:isH X.rows κ
     ·rw[hb] at y
      simp only[go_sem,u1,u2,u5,S,u8,u9,d,o,Q,qv,je,vf,List.cons_append,List.nil_append]
      exact⟨K.length - (j+1),by omega,j+1,by omega,Z.app (zD rfl),qn (by omega) y,qn (by omega) rfl,rfl⟩
     ·rw[hb] at y
      have y:((K.take (j+1)).filter λz=> !isH X.rows z).length=((K.take j).filter λz=> !isH X.rows z).length:=y
      simp only[go_sem,u1,u2,u5,S,u8,u9,d,o,Q,qv,je,vf,List.cons_append,List.nil_append]
      exact⟨K.length - (j+1),by omega,j+1,by omega,Z.app (zD rfl),by rw[y],qn (by omega) rfl,rfl⟩
    ·have ρ:=xr e
     have hj2:j=K.length:=by omega
     subst hj2
     rw[zV] at o
     have hcl:=qh (λz=> !isH X.rows z) K
     simp only[go_sem]
     refine zO (by decide) (λm T H2=>∃i:Nat,i<=X.rows.length/\Pre H1 H2/\T 1=x/\T 2= .ptr h.length 0/\T 5=bl true/\T 6= .ptr (h.length+1) 0/\T 8=i64 n/\T 9= .ptr H.length 0/\T 11=KV K/\T 12=i64 ((K.filter λz=> !isH X.rows z).length:Nat)/\T 16=i64 i/\m=X.rows.length - i) X.rows.length
      ⟨0,by omega,Z,by simp only[go_sem,u1],by simp only[go_sem,u2],by simp only[go_sem,u5],by simp only[go_sem,S],by simp only[go_sem,u8],by simp only[go_sem,u9],by simp only[go_sem,d],by simp only[go_sem,o],by(simp only[go_sem]<;>rfl),rfl⟩ ?_
     clear u1 u2 u5 S u8 u9 d o Q Z W d6 d9 β
     rintro m T H2 ⟨i,hi,Z,u1,u2,u5,S,u8,u9,d,o,u16,rfl⟩
     have W:=χ.pres Z
     have d6:=W.ch
     have d9:=Z.get c9
     have β:∀M,(H2++M)[h.length+1]? =some (Qo s X):=λM=>ze d6
     have d9M:∀M,(H2++M)[H.length]? =some (Qo s Y):=λM=>ze d9
     simp only[go_sem,S,u16,d6,zb]
     refine ways (λe=>?_) (λe=>?_)
     ·have φ:=dlt e
      have A:=Zq je φ
      have μ:(i:Int)<X.rows.length:=by omega
      have p:=kK.keep _ (zx φ)
      have hfl:=E.fl f _ (zx φ)
      obtain⟨r,hr⟩:∃r,r=X.rows[i]:=⟨_,rfl⟩
      rw[<-hr] at A p hfl
      simp only[go_sem]
      refine zQ rfl [.res] 1 [(0,0,[]),(2,0,[]),(6,0,[]),(8,0,[]),(1,0,[]),(3,0,[]),(4,0,[]),(5,0,[]),(7,0,[]),(9,0,[]),(10,0,[]),(11,0,[]),(12,0,[]),(13,0,[]),(14,0,[])] rfl (by decide) (by decide) ?_
      simp only[go_sem,S,u9,u16,d6,β,d9,d9M,ho,A,μ,zb,Int.toNat_natCast,zf,je,vf,List.cons_append,List.nil_append]
      refine zh (YDa f N C _ (qY r)) ?_
      rintro _ h1 ⟨rfl,v⟩
      rw[v,p.1]
      clear v
      obtain⟨R,hR⟩:∃R,R=QU Y.rows (qY r):=⟨_,rfl⟩
      rw[<-hR] at p⊢
      obtain⟨H3,P⟩:∃H3,H3=H2++[Ob.box 90 (jl (qY r)),.box 45 (je R)]:=⟨_,rfl⟩
      have p3:Pre H1 H3:=by rw[P];exact Z.app (zl rfl (zD rfl))
      have x17:H3[H2.length]? =some (.box 90 (jl (qY r))):=by rw[P,zK rfl];rfl
      have x18:H3[H2.length+1]? =some (.box 45 (je R)):=by rw[P,zG (k:=1) rfl];rfl
      have x6:=p3.get χ.ch
      simp only[go_sem,je,vf,List.cons_append,List.nil_append]
      refine zO (by decide) (λm T H4=>∃u:Nat,u<=K.length/\H4=H3/\T 1=x/\T 2= .ptr h.length 0/\T 5=bl true/\T 6= .ptr (h.length+1) 0/\T 8=i64 n/\T 9= .ptr H.length 0/\T 11=KV K/\T 12=i64 ((K.filter λz=> !isH X.rows z).length:Nat)/\T 16=i64 i/\T 17= .ptr H2.length 0/\T 18= .ptr (H2.length+1) 0/\T 19=bl true/\T 20=bl ((K.take u).any λz=>eqK z (qY r))/\T 21=i64 u/\m=K.length - u) K.length
       ⟨0,by omega,by rw[P]<;>rfl,by simp only[go_sem,u1],by simp only[go_sem,u2],by simp only[go_sem,u5],by simp only[go_sem,S],by simp only[go_sem,u8],by simp only[go_sem,u9],by simp only[go_sem,d],by simp only[go_sem,o],by simp only[go_sem,u16],by simp only[go_sem],by simp only[go_sem],by simp only[go_sem],by(simp only[go_sem]<;>rfl),by(simp only[go_sem]<;>rfl),rfl⟩ ?_
      clear u1 u2 u5 S u8 u9 d o u16 P
      rintro m T H4 ⟨u,hu,rfl,v1,v2,v5,v6,v8,v9,v11,I,U,V,J,O,v20,F,rfl⟩
      simp only[go_sem,v11,F,zb]
      refine ways (λe=>?_) (λe=>?_)
      ·have hul:=dlt e
       have G:=Zq jl hul
       have ε:(u:Int)<K.length:=by omega
       have D:=xdb (λz=>eqK z (qY r)) hul
       obtain⟨z,hz⟩:∃z,z=K[u]:=⟨_,rfl⟩
       obtain⟨b,hb⟩:∃b,b=(K.take u).any λz=>eqK z (qY r):=⟨_,rfl⟩
       rw[<-hz] at G D
       rw[<-hb] at v20 D
       simp only[go_sem]
       refine zQ rfl [] 0 [(0,0,[]),(1,0,[]),(2,0,[]),(3,0,[]),(4,0,[]),(5,0,[]),(6,0,[]),(7,0,[]),(8,0,[]),(9,0,[])] rfl (by decide) (by decide) ?_
       cases b
       ·simp only[go_sem,v1,v2,v5,v6,v8,v9,v11,I,U,V,J,O,v20,F,x17,G,ε,jl,qY,qv,zb,Int.toNat_natCast,zf]
        exact⟨K.length - (u+1),by omega,u+1,by omega,by rw[show(r.1.worker,r.1.week)=qY r from rfl,D];simp[eqK,qY],qn (by omega) rfl,rfl⟩
       ·simp only[go_sem,v1,v2,v5,v6,v8,v9,v11,I,U,V,J,O,v20,F,x17,G,ε,jl,qY,qv,zb,Int.toNat_natCast,zf]
        exact⟨K.length - (u+1),by omega,u+1,by omega,by rw[show(r.1.worker,r.1.week)=qY r from rfl,D];simp[eqK,qY],qn (by omega) rfl,rfl⟩
      ·have ρ:=xr e
       have hu2:u=K.length:=by omega
       subst hu2
       rw[zV] at v20
       simp only[go_sem]
       refine zQ rfl [] 0 [(0,0,[]),(1,0,[]),(2,0,[]),(3,0,[]),(4,0,[]),(5,0,[]),(7,0,[]),(9,0,[]),(6,0,[]),(8,0,[]),(10,0,[]),(11,0,[]),(12,0,[]),(13,0,[]),(14,0,[]),(15,0,[])] rfl (by decide) (by decide) ?_
       cases hb:K.any λz=>eqK z (qY r)
       ·rw[hb] at v20
        have hRr:=p.2 (xgb hb)
        rw[hRr] at x18
        simp only[go_sem,v1,v2,v5,v6,v8,v9,v11,I,U,V,J,O,v20,F,x18,x6,A,μ,qv,zb,Int.toNat_natCast,zf,je,vf,List.cons_append,List.nil_append]
        refine zh (khb _ r hfl) ?_
        rintro _ h1 ⟨rfl,v⟩
        rw[v]
        clear v
        simp only[go_sem,v1,v2,v5,v6,v8,v9,v11,I,U,V,J,O,v20,F,qv]
        exact⟨X.rows.length - (i+1),by omega,i+1,by omega,p3,qn (by omega) rfl,rfl⟩
       ·rw[hb] at v20
        simp only[go_sem,v1,v2,v5,v6,v8,v9,v11,I,U,V,J,O,v20,F,qv]
        exact⟨X.rows.length - (i+1),by omega,i+1,by omega,p3,qn (by omega) rfl,rfl⟩
     ·have ρ:=xr e
      have hlen:=kK.len
      have hw9:IntKind.wrap .i64 ((X.rows.length:Int)+((K.filter λz=> !isH X.rows z).length:Nat))=(Y.rows.length:Int):=by
       have:=qq (n:=(X.rows.length:Int)+((K.filter λz=> !isH X.rows z).length:Nat)) (by unfold Fit;omega)
       rw[show(Y.rows.length:Int)=(X.rows.length:Int)+((K.filter λz=> !isH X.rows z).length:Nat) by omega]
       exact this
      simp only[go_sem,u1,u2,u5,S,u8,u9,d,o,d6,d9,ho,hw9,bne_self_eq_false,qv,zb]
      exact⟨l.length - (n+1),by omega,n+1,Y,by omega,C,W.put Y,qn (by omega) rfl,rfl⟩
   ·have ρ:=xr e
    simp only[go_sem,t5]
    obtain⟨L,rfl,_⟩:=kd.pre
    refine zn ?_<;>(simp only[go_sem]<;>try rfl)
end Go.Proofs.YtigdlmpjijhpaaaGreat.Ax
namespace Go.Proofs.YtigdlmpjijhpaaaGreat.cacheOnly
open Go.ChangeShapes Go.WideShapes Go.ChangeAt Go.RowKit
open Go.ChangeMaps (open_string shut_string)
theorem own:ownKnob Tryz.prog.godebug=none:=by kernel_rfl
theorem laidOut:laidOutB Tryz.prog=true:=by kernel_rfl
def IsRow(k:IntKind)(w:World)(a:Option Addr)(len cap:Nat)(b:List Int):Prop:=
 (a=none/\len=0/\cap=0/\b=[])∨
 ∃x,a=some x/\len<=cap/\cap<=maxLen/\b.length=cap/\(∀i,i<b.length->w.cell? (x.add i)=some (.int k (b.getD i 0)))/\∀n∈b,(Lit.int k n).wf=true
theorem walk(b:Value)(c:Value)(w:World)(h:Ax.InSet w b)(i:Ax.InCms w c):
  Calls Tryz.prog 9 #[b,c] w λe w'=>e= .returned (.bool true)/\Below w.heap.size w w':=by
 obtain⟨s,a,g,ks,f⟩:=h
 obtain⟨x,l,d,sl⟩:=i
 exact Ax.run_law (Ax.cCacheOnly [] s a ks f x l sl) ⟨_,_,rfl,g,_,_,rfl,d,rfl⟩
set_option maxRecDepth 100000 in
theorem lifted(os:Os)(started:os.Started)(H:Type)(enc:TypeId × Value->H):
  ReturnsInHanded {} Tryz.checked os 9 .any (Rows.cacheOnlySpec.pre6 enc Tryz.prog Tryz.f9 Rows.cacheOnlyRow.domain false) (Rows.cacheOnlySpec.post enc Tryz.prog Tryz.f9 false true false false):=by
 refine returnsInHanded_of_change (C:=Tryz.checked) own started (by kernel_rfl) Tryz.func9
  (ChangeSpec.witness6 (enc:=enc) (C:=Tryz.checked) false ⟨#[], #[.agg #[.int .i64 0,.slice none 0 0,.int .i64 0,.int .i64 0,.slice none 0 0,.slice none 0 0,.slice none 0 0,.int .i64 0,.int .i64 0,.int .i64 0,.int .i64 0,.int .i64 0,.int .i64 0,.int .i64 0,.int .i64 0,.int .i64 0,.int .i64 0,.int .i64 0,.slice none 0 0,.int .i64 0,.int .i64 0,.int .i64 0,.slice none 0 0],.slice none 0 0],[]⟩ 8 (by kernel_rfl) (by kernel_rfl) (by kernel_rfl) (by kernel_rfl)) ?_
 intro W base args ds gs before b y s _
 have a:∀(j:Nat) t v,Tryz.f9.params[j]? =some t->args[j]? =some v->Value.okWide Tryz.prog W .any base t v:=b
 have k:=y
 obtain⟨p,q,i,F,rfl,N,B⟩:=y
 have w:DataW.TrodAll enc Tryz.prog W 0 (λ_=>true) true Tryz.f9.params.toList args.toList ds p:=i
 rw[Tryz.params9] at w a
 obtain⟨v0,M,R,D,I,Q,o,rfl,rfl,h0,L⟩:=trodAll_cons w
 obtain⟨v1,O,U,P,p1,T,rfl,rfl,rfl,u,G⟩:=trodAll_cons L
 obtain⟨rfl,rfl,rfl⟩:=trodAll_nil G
 obtain rfl:args= #[v0,v1]:=by cases args;simp_all
 obtain⟨rfl,rfl⟩:=trodVars_none F
 have k0:=h0
 have r:∀x∈I,x.block<W.heap.size:=by obtain⟨m,n⟩:=k0;exact DataW.trod_lt m _ _ _ n
 have E:=Ax.setup_in (a 0 30 v0 rfl rfl) h0
 have k1:=u
 have l:∀x∈p1,x.block<W.heap.size:=by obtain⟨m,n⟩:=k1;exact DataW.trod_lt m _ _ _ n
 obtain⟨d,f,c,rfl⟩:=okWide_slice Tryz.underlying61 (a 1 61 v1 rfl rfl)
 have K:=(by obtain⟨z,J⟩:=u;exact Ax.cms_in (v:= .slice d f c) (by simpa [Value.cells] using J):Ax.InCms W (.slice d f c))
 clear i b
 refine(walk v0 (.slice d f c) W E K).mono λe S ⟨A,g⟩=>?_
 subst A
 exact⟨_,rfl,_,_,_,[],_,[],k,trodAll_mk1 (shut_bool Tryz.underlying4 _),(trodAll_cons_mk (Below.trod laidOut (by kernel_rfl) (of_decide_eq_true (by kernel_rfl)) k0 g r) (trodAll_cons_mk (Below.trod laidOut (by kernel_rfl) (of_decide_eq_true (by kernel_rfl)) k1 g l) trodAll_mk0)),rfl,g.frame _,λh=>by cases h⟩
theorem over:Rows.cacheOnlyRow.holds Tryz.pinned (OpenSpec.ofChange Rows.cacheOnlySpec):=
 OpenClaim.holds_of_wide 9 Tryz.f9 rfl rfl rfl rfl rfl rfl rfl ⟨rfl,rfl,rfl,rfl,rfl⟩ rfl rfl rfl rfl rfl (by kernel_rfl) Tryz.func9 (cacheOnlyJ.rest cacheOnlyJ.may cacheOnlyJ.lift cacheOnlyJ.make)
  (of_decide_eq_true (by kernel_rfl)) (by unfold Func.isWrapper;first|(rw[if_pos (by decide+kernel)];kernel_rfl)|(rw[if_neg (by decide+kernel)];exact⟨rfl,rfl⟩))
  (λos started H enc _=>lifted os started H enc)
theorem proved:Rows.CacheOnlySaid:=over
#print axioms proved
end Go.Proofs.YtigdlmpjijhpaaaGreat.cacheOnly
