/-
  BookKeeps: whatever the input, the call returns true and leaves its arguments as they were. No condition.
-/
import Derived.Test.YtfmldcilgbbimaaGreatK47
import Derived.Test.YtfmldcilgbbimaaGreatRows
import Derived.Test.YtfmldcilgbbimaaGreatO0BookKeeps
import Derived.Test.YtfmldcilgbbimaaGreatO1BookKeeps
import Derived.Test.YtfmldcilgbbimaaGreatO2BookKeeps
import Derived.WalkKit
import Derived.ProofKit
import Derived.OpenShut
import Derived.ShutString
import Derived.ChangeOld
import Derived.Below
import Derived.Deep.Matrix
set_option linter.unusedSimpArgs false
set_option linter.unusedVariables false
namespace Go.Proofs.YtfmldcilgbbimaaGreat.Ax
open Go Go.Proofs
set_option maxRecDepth 100000
theorem cLess (a b:Ev):ji Tryz.prog 39 [evV a,evV b] (bl (ltE a b)):=λh=>by
 refine zf Tryz.f39 [.tmp 4] 9 rfl rfl rfl rfl rfl rfl (by decide) (⟨_,_,⟨rfl,rfl⟩,.refl⟩) λB=>?_
 simp only[go_sem]
 refine zc (c89 a b _) ?_
 rintro _ c ⟨rfl,rfl⟩
 simp only[go_sem]
 (first | refine zd ?_ | refine ze ?_ (by rfl))<;>(simp only[go_sem,ltE]<;>try rfl)
theorem srt_two:∀ {l:List Ev} {i k:Nat} (_:Srt l) (b:k<i) (a:i<l.length),ltE l[i] (l[k]'(by omega))=false
 | x::l,i+1,0,h,_,a=>h.1 _ (List.getElem_mem (by simpa using a))
 | x::l,i+1,k+1,h,b,a=>by
   have:=srt_two (l:=l) (i:=i) (k:=k) h.2 (by omega) (by simpa using a)
   simpa using this
theorem keeps_ids {s:Setup} {b:Bk} (i:BkI s b) {n k:Nat} (a:k<n) (c:n<b.evs.length):((b.evs[k]'(by omega)).id==b.evs[n].id)=false:=by
 have h:=i.ids
 rw[List.Nodup,List.pairwise_iff_getElem] at h
 have:=h k n (by rw[List.length_map];omega) (by rw[List.length_map];omega) a
 simpa using this
theorem keeps_less {s:Setup} {b:Bk} (i:BkI s b) {n:Nat} (a:n+1<b.evs.length):ltE (b.evs[n]'(by omega)) b.evs[n+1]=true:=by
 have c:ltE b.evs[n+1] (b.evs[n]'(by omega))=false:=srt_two i.srt (Nat.lt_succ_self n) a
 have d:((b.evs[n]'(by omega)).id==b.evs[n+1].id)=false:=keeps_ids i (Nat.lt_succ_self n) a
 rw[jQ] at c
 rw[beq_eq_false_iff_ne] at d
 rw[kE]
 omega
theorem keeps_rise {s:Setup} {b:Bk} (i:BkI s b) {n:Nat} (a:n+1<b.shut.length):b.shut[n]'(by omega)<b.shut[n+1]:=by
 have h:=i.rise
 rw[List.pairwise_iff_getElem] at h
 exact h n (n+1) (by omega) a (by omega)
theorem kinds3 (k:Int):((k != 3)=false)∨((k != 3)=true/\(k != 7)=false)∨((k != 3)=true/\(k != 7)=true/\(k != 4)=false)∨((k != 3)=true/\(k != 7)=true/\(k != 4)=true):=by
 cases k != 3<;>cases k != 7<;>cases k != 4<;>simp
set_option maxHeartbeats 4000000 in
theorem cBookKeeps (h:List Ob) (s:Setup) (a:SA) (k:SIn h s a) (f0:SFit0 s) (x:AV) (l:List Cm) (hx:SlOf h x 16 (l.map Km)):
  ACalls Tryz.prog 11 [z6 s a,x] h λr h'=>r=bl true/\h'=h:=by
 refine zf Tryz.f11 [.tmp 4] 169 rfl rfl rfl rfl rfl rfl (by decide) (⟨_,_,⟨rfl,rfl⟩,.refl⟩) λB=>?_
 simp only[go_sem,k.w.one,k.e.one,k.c.one,k.g.one,k.r.one,k.t.one]
 refine zc (zgb _) ?_
 rintro _ S ⟨rfl,rfl⟩
 have Y:∀M,SIn (h++M) s a:=λM=>k.app M
 simp only[go_sem,(Y _).ones]
 refine zc (XZa _ s a (Y _) f0.fit) ?_
 rintro _ S ⟨rfl,rfl⟩
 have D:=(vE (h:=h) s).ones
 have K:∀M,zq (h++M) x=some (l.map Km):=λM=>(hx.app M).rows
 cases hok:zw s
 ·simp only[go_sem,Xqa,zA,xb,(Y _).ones]
  refine zc (c25 _ s a (Y _)) ?_
  rintro _ S ⟨rfl,E⟩
  rw[E]
  cases hf:Wh s
  ·simp only[go_sem,zJ]
   (first | refine zd ?_ | refine ze ?_ (by rfl))<;>(simp only[go_sem]<;>try rfl)
  ·cases z:decide ((l.length:Int)>300)
   ·simp only[go_sem,zJ,zib,K,z,List.length_map]
    (first | refine zd ?_ | refine ze ?_ (by rfl))<;>(simp only[go_sem]<;>try rfl)
   ·simp only[go_sem,zJ,zib,K,z,List.length_map]
    (first | refine zd ?_ | refine ze ?_ (by rfl))<;>(simp only[go_sem]<;>try rfl)
 ·simp only[go_sem,D,(Y _).ones]
  refine zc (c25 _ s a (Y _)) ?_
  rintro _ S ⟨rfl,E⟩
  rw[E]
  cases hf:Wh s
  ·simp only[go_sem,zJ]
   (first | refine zd ?_ | refine ze ?_ (by rfl))<;>(simp only[go_sem]<;>try rfl)
  ·cases z:decide ((l.length:Int)>300)
   rotate_left
   ·simp only[go_sem,zJ,K,z,List.length_map]
    (first | refine zd ?_ | refine ze ?_ (by rfl))<;>(simp only[go_sem]<;>try rfl)
   ·have f:=f0.few hf
    have ν:=Vwa hf
    have hl3:l.length<=300:=by have:=of_decide_eq_false z;omega
    simp only[go_sem,zJ,D,K,z,bne_self_eq_false,List.length_map]
    refine zj (by decide) (λm T H=>∃(n:Nat) (b:Bk),n<=l.length/\BkI s b/\HasB h H s a b/\T 1=x/\T 2= .ptr h.length 0/\T 5=bl true/\T 6= .ptr (h.length+1) 0/\T 8=i64 n/\m=l.length - n) l.length
     ⟨0,zUa,by omega,wSa s,⟨⟨_,rfl,zg rfl (zi rfl)⟩,by rw[zo rfl];rfl,by rw[zm (k:=1) rfl];rfl⟩,by simp only[go_sem],by simp only[go_sem],by simp only[go_sem],by simp only[go_sem],by (simp only[go_sem]<;>rfl),rfl⟩ ?_
    rintro m T H ⟨n,b,hn,o,O,t1,t2,t5,t6,t8,rfl⟩
    have N:=O.pre.sl hx
    have y:=N.rows
    have I:=O.bk
    simp only[go_sem,t1,t8,y,List.length_map]
    refine ways (λe=>?_) (λe=>?_)
    ·have d:=dlt e
     have p:=Xpa d
     have F:(n:Int)<l.length:=by omega
     have v:=N.at (i:=n) (by simpa using d)
     obtain ⟨q,hq⟩:∃q,q=l[n]:=⟨_,rfl⟩
     rw[<-hq] at p
     rcases kinds3 q.kind with J | ⟨J,Q⟩ | ⟨J,Q,g3⟩ | ⟨J,Q,g3⟩
     ·simp only[go_sem,t1,t8,J,p,F,y,v,zJ,List.length_map,Int.toNat_natCast,Int.natCast_nonneg]
      exact ⟨l.length - (n+1),by omega,n+1,b,by omega,o,O,t2,t5,t6,zx (by omega) rfl,rfl⟩
     ·simp only[go_sem,t1,t8,J,Q,p,F,y,v,zJ,List.length_map,Int.toNat_natCast,Int.natCast_nonneg]
      exact ⟨l.length - (n+1),by omega,n+1,b,by omega,o,O,t2,t5,t6,zx (by omega) rfl,rfl⟩
     ·simp only[go_sem,t1,t8,J,Q,g3,p,F,y,v,zJ,List.length_map,Int.toNat_natCast,Int.natCast_nonneg]
      exact ⟨l.length - (n+1),by omega,n+1,b,by omega,o,O,t2,t5,t6,zx (by omega) rfl,rfl⟩
     ·simp only[go_sem,t1,t8,J,Q,g3,p,F,y,v,zJ,List.length_map,Int.toNat_natCast,Int.natCast_nonneg]
      refine zn rfl [.res,.res] 2 [(1,0,[]),(2,0,[]),(0,0,[]),(3,0,[]),(4,0,[]),(5,0,[]),(6,0,[]),(7,0,[]),(8,0,[]),(9,0,[]),(10,1,[]),(11,0,[]),(12,0,[])] rfl (by decide) (by decide) ?_
      have α:∀M,(H++M)[h.length+1]? =some (bkO s b):=λM=>zb I
      have θ:∀M,zq (H++M) x=some (l.map Km):=λM=>(N.app M).rows
      have ο:∀M,eOf (H++M) x=some 16:=λM=>(N.app M).at (i:=n) (by simpa using d)
      simp only[go_sem,t1,t6,t8,I,α,θ,ο,D,p,F,y,v,List.length_map,Int.toNat_natCast,Int.natCast_nonneg]
      refine zc (cDo _ s f b o q ν) ?_
      rintro _ S ⟨rfl,E⟩
      rw[E]
      clear E S
      have P:=vqa q o
      obtain ⟨b2,η⟩:∃b2,b2=(doP s b q).1:=⟨_,rfl⟩
      obtain ⟨w,hw⟩:∃w,w=(doP s b q).2:=⟨_,rfl⟩
      rw[<-η] at P
      rw[<-η, <-hw]
      simp only[go_sem,t6,t8,D,α]
      exact ⟨l.length - (n+1),by omega,n+1,b2,by omega,P,(O.app (zg rfl (zi rfl))).put b2,t1,t2,t5,zx (by omega) rfl,rfl⟩
    ·have hev:=o.few
     have hsl:=jXa o
     have τ:=O.st
     have kH:=O.pre.sin k
     simp only[go_sem]
     refine zj (by decide) (λm T h'=>∃i:Nat,i<=b.evs.length/\h'=H/\T 2= .ptr h.length 0/\T 5=bl true/\T 6= .ptr (h.length+1) 0/\T 11=i64 i/\m=b.evs.length - i) b.evs.length
      ⟨0,by omega,rfl,by simp only[go_sem,t2],by simp only[go_sem,t5],by simp only[go_sem,t6],by (simp only[go_sem]<;>rfl),rfl⟩ ?_
     rintro m T h' ⟨i,hi,rfl,t2,t5,t6,u,rfl⟩
     simp only[go_sem,t6,u,I,D,List.length_map]
     refine ways (λe=>?_) (λe=>?_)
     ·have d:=dlt e
      have C:(b.evs.map evC)[i]? =some (evC b.evs[i]):=qX (List.getElem?_eq_getElem d)
      have A:(i:Int)<b.evs.length:=by omega
      simp only[go_sem]
      refine zj (by decide) (λm T h2=>∃j:Nat,j<=i/\h2=h'/\T 2= .ptr h.length 0/\T 5=bl true/\T 6= .ptr (h.length+1) 0/\T 11=i64 i/\T 12=i64 j/\m=i - j) i
       ⟨0,by omega,rfl,by simp only[go_sem,t2],by simp only[go_sem,t5],by simp only[go_sem,t6],by simp only[go_sem,u],by (simp only[go_sem]<;>rfl),rfl⟩ ?_
      rintro m T h2 ⟨j,hj,rfl,t2,t5,t6,u,ε,rfl⟩
      simp only[go_sem,u,ε]
      refine ways (λe2=>?_) (λe2=>?_)
      ·have δ:=dlt e2
       have υ:=keeps_ids o δ d
       have ρ:(b.evs.map evC)[j]? =some (evC (b.evs[j]'(by omega))):=qX (List.getElem?_eq_getElem (by omega))
       have σ:(j:Int)<b.evs.length:=by omega
       simp only[go_sem]
       refine zn rfl [] 0 [(0,0,[]),(2,0,[]),(6,0,[]),(8,0,[]),(1,0,[]),(3,0,[]),(4,0,[]),(5,0,[]),(7,0,[]),(9,0,[]),(10,0,[]),(11,0,[]),(12,0,[])] rfl (by decide) (by decide) ?_
       simp only[go_sem,t6,u,ε,I,D,C,ρ,A,σ,υ,List.length_map,Int.toNat_natCast,Int.natCast_nonneg,zJ]
       exact ⟨i - (j+1),by omega,j+1,by omega,t2,t5,zx (by omega) rfl,rfl⟩
      ·simp only[go_sem]
       have ζ:=o.ok _ (List.getElem_mem d)
       refine zn rfl [] 0 [(1,0,[]),(3,0,[]),(0,0,[]),(2,0,[]),(4,0,[]),(5,0,[]),(6,0,[]),(7,0,[]),(8,0,[]),(9,0,[]),(10,0,[]),(11,0,[]),(12,0,[]),(14,0,[]),(15,0,[]),(18,0,[]),(20,0,[]),(13,0,[]),(16,0,[]),(17,0,[]),(19,0,[]),(21,0,[]),(22,0,[]),(23,0,[]),(24,0,[]),(25,0,[]),(26,0,[])] rfl (by decide) (by decide) ?_
       simp only[go_sem,t2,t6,u,I,τ,D,C,A,kH.ones,List.length_map,Int.toNat_natCast,Int.natCast_nonneg,zJ]
       refine zc (c14 _ s a kH b.evs[i]) ?_
       rintro _ S ⟨rfl,E⟩
       rw[E,ζ]
       clear E
       cases i with
       | zero=>
         have W:decide ((0:Int)>0)=false:=rfl
         simp only[go_sem,u,W,zJ]
         exact ⟨b.evs.length - 1,by omega,1,by omega,t2,t5,t6,rfl,rfl⟩
       | succ i=>
         have X:=keeps_less o d
         have hw:IntKind.wrap .i64 (((i+1:Nat):Int) - 1)=((i:Nat):Int):=J9 (a:=i+1) (by omega) (by omega)
         have G:decide (((i+1:Nat):Int)>0)=true:=decide_eq_true (by omega)
         have V:(b.evs.map evC)[i]? =some (evC (b.evs[i]'(by omega))):=qX (List.getElem?_eq_getElem (by omega))
         have U:(i:Int)<b.evs.length:=by omega
         simp only[go_sem,t6,u,I,D,C,V,A,U,hw,G,List.length_map,Int.toNat_natCast,Int.natCast_nonneg,zJ]
         refine zc (cLess _ _ _) ?_
         rintro _ S ⟨rfl,E⟩
         rw[E,X]
         simp only[go_sem,u,zJ]
         exact ⟨b.evs.length - (i+1+1),by omega,i+1+1,by omega,t2,t5,t6,zx (by omega) rfl,rfl⟩
     ·simp only[go_sem]
      refine zj (by decide) (λm T h2=>∃i:Nat,i<=b.shut.length/\h2=h'/\T 5=bl true/\T 6= .ptr (h.length+1) 0/\T 13=i64 i/\m=b.shut.length - i) b.shut.length
       ⟨0,by omega,rfl,by simp only[go_sem,t5],by simp only[go_sem,t6],by (simp only[go_sem]<;>rfl),rfl⟩ ?_
      rintro m T h2 ⟨i,hi,rfl,t5,t6,R,rfl⟩
      simp only[go_sem,t6,R,I,D,List.length_map]
      refine ways (λe=>?_) (λe=>?_)
      ·have d:=dlt e
       have C:(b.shut.map zz)[i]? =some (zz b.shut[i]):=WR (List.getElem?_eq_getElem d)
       have A:(i:Int)<b.shut.length:=by omega
       have χ:=o.rng _ (List.getElem_mem d)
       have J:decide (b.shut[i]<0)=false:=decide_eq_false (by omega)
       have Q:decide (b.shut[i]>52)=false:=decide_eq_false (by omega)
       simp only[go_sem]
       refine zn rfl [] 0 [(0,0,[]),(2,0,[]),(1,0,[]),(3,0,[]),(4,0,[]),(5,0,[]),(6,0,[]),(7,0,[]),(9,0,[]),(8,0,[]),(10,0,[]),(11,0,[]),(12,0,[]),(13,0,[]),(14,0,[]),(15,0,[]),(16,0,[]),(17,0,[]),(18,0,[]),(20,0,[]),(21,0,[]),(24,0,[]),(26,0,[]),(19,0,[]),(22,0,[]),(23,0,[]),(25,0,[]),(27,0,[]),(28,0,[]),(29,0,[]),(30,0,[]),(31,0,[])] rfl (by decide) (by decide) ?_
       cases i with
       | zero=>
         have W:decide ((0:Int)>0)=false:=rfl
         have Z:(0:Int)<b.shut.length:=by omega
         simp only[go_sem,t6,W,Z,R,I,D,C,A,zz,J,Q,List.length_map,Int.toNat_natCast,Int.natCast_nonneg,zJ]
         exact ⟨b.shut.length - 1,by omega,1,by omega,t5,rfl,rfl⟩
       | succ i=>
         have ξ:=keeps_rise o d
         have hw:IntKind.wrap .i64 (((i+1:Nat):Int) - 1)=((i:Nat):Int):=J9 (a:=i+1) (by omega) (by omega)
         have G:decide (((i+1:Nat):Int)>0)=true:=decide_eq_true (by omega)
         have V:(b.shut.map zz)[i]? =some (zz (b.shut[i]'(by omega))):=WR (List.getElem?_eq_getElem (by omega))
         have U:(i:Int)<b.shut.length:=by omega
         have g3:decide (b.shut[i]'(by omega)≥b.shut[i+1])=false:=decide_eq_false (by omega)
         simp only[go_sem,t6,R,I,D,C,V,A,U,hw,G,zz,J,Q,g3,List.length_map,Int.toNat_natCast,Int.natCast_nonneg,zJ]
         exact ⟨b.shut.length - (i+1+1),by omega,i+1+1,by omega,t5,zx (by omega) rfl,rfl⟩
      ·have β:decide ((b.evs.length:Int)<=200)=true:=decide_eq_true (by omega)
       obtain ⟨L,hL,_⟩:=O.pre
       simp only[go_sem,t5,t6,I,D,β,zJ,List.length_map]
       rw[hL]
       (first | refine zd ?_ | refine ze ?_ (by rfl))<;>(simp only[go_sem]<;>try rfl)
end Go.Proofs.YtfmldcilgbbimaaGreat.Ax
namespace Go.Proofs.YtfmldcilgbbimaaGreat.bookKeeps
open Go.ChangeShapes Go.WideShapes Go.ChangeAt Go.RowKit
open Go.ChangeMaps (open_string shut_string)
theorem own:ownKnob Tryz.prog.godebug=none:=by kernel_rfl
theorem laidOut:laidOutB Tryz.prog=true:=by kernel_rfl
def IsRow (k:IntKind) (w:World) (a:Option Addr) (len cap:Nat) (b:List Int):Prop:=
 (a=none/\len=0/\cap=0/\b=[])∨
 ∃x,a=some x/\len<=cap/\cap<=maxLen/\b.length=cap/\(∀i,i<b.length->w.cell? (x.add i)=some (.int k (b.getD i 0)))/\∀n∈b,(Lit.int k n).wf=true
theorem walk (b:Value) (c:Value) (w:World) (i:Ax.InSet w b) (h:Ax.InCms w c):
  Calls Tryz.prog 11 #[b,c] w λe w'=>e= .returned (.bool true)/\Below w.heap.size w w':=by
 obtain ⟨s,a,d,ks,g⟩:=i
 obtain ⟨x,l,f,sl⟩:=h
 exact Ax.run_law (Ax.cBookKeeps [] s a ks g x l sl) ⟨_,_,rfl,d,_,_,rfl,f,rfl⟩
set_option maxRecDepth 100000 in
theorem lifted (os:Os) (started:os.Started) (H:Type) (enc:TypeId × Value->H):
  ReturnsInHanded {} Tryz.checked os 11 .any (Rows.bookKeepsSpec.pre6 enc Tryz.prog Tryz.f11 Rows.bookKeepsRow.domain false) (Rows.bookKeepsSpec.post enc Tryz.prog Tryz.f11 false true false false):=by
 refine returnsInHanded_of_change (C:=Tryz.checked) own started (by kernel_rfl) Tryz.func11
  (ChangeSpec.witness6 (enc:=enc) (C:=Tryz.checked) false ⟨#[], #[.agg #[.int .i64 0,.slice none 0 0,.int .i64 0,.int .i64 0,.slice none 0 0,.slice none 0 0,.slice none 0 0,.int .i64 0,.int .i64 0,.int .i64 0,.int .i64 0,.int .i64 0,.int .i64 0,.int .i64 0,.int .i64 0,.int .i64 0,.int .i64 0,.int .i64 0,.slice none 0 0,.int .i64 0,.int .i64 0,.int .i64 0,.slice none 0 0],.slice none 0 0],[]⟩ 8 (by kernel_rfl) (by kernel_rfl) (by kernel_rfl) (by kernel_rfl)) ?_
 intro W base args ds gs before b w y _
 have a:∀(j:Nat) t v,Tryz.f11.params[j]? =some t->args[j]? =some v->Value.okWide Tryz.prog W .any base t v:=b
 have l:=w
 obtain ⟨p,q,i,B,rfl,J,M⟩:=w
 have s:DataW.TrodAll enc Tryz.prog W 0 (λ_=>true) true Tryz.f11.params.toList args.toList ds p:=i
 rw[Tryz.params11] at s a
 obtain ⟨v0,K,R,G,L,S,r,rfl,rfl,h0,O⟩:=trodAll_cons s
 obtain ⟨v1,N,T,E,p1,Q,rfl,rfl,rfl,z,P⟩:=trodAll_cons O
 obtain ⟨rfl,rfl,rfl⟩:=trodAll_nil P
 obtain rfl:args= #[v0,v1]:=by cases args;simp_all
 obtain ⟨rfl,rfl⟩:=trodVars_none B
 have k0:=h0
 have n:∀x∈L,x.block<W.heap.size:=by obtain ⟨m,k⟩:=k0;exact DataW.trod_lt m _ _ _ k
 have F:=Ax.setup_in (a 0 30 v0 rfl rfl) h0
 have k1:=z
 have o:∀x∈p1,x.block<W.heap.size:=by obtain ⟨m,k⟩:=k1;exact DataW.trod_lt m _ _ _ k
 obtain ⟨c,f,g,rfl⟩:=okWide_slice Tryz.underlying62 (a 1 62 v1 rfl rfl)
 have D:=(by obtain ⟨u,A⟩:=z;exact Ax.cms_in (v:= .slice c f g) (by simpa [Value.cells] using A):Ax.InCms W (.slice c f g))
 clear i b
 refine (walk v0 (.slice c f g) W F D).mono λe U ⟨I,d⟩=>?_
 subst I
 exact ⟨_,rfl,_,_,_,[],_,[],l,trodAll_mk1 (shut_bool Tryz.underlying4 _),(trodAll_cons_mk (Below.trod laidOut (by kernel_rfl) (of_decide_eq_true (by kernel_rfl)) k0 d n) (trodAll_cons_mk (Below.trod laidOut (by kernel_rfl) (of_decide_eq_true (by kernel_rfl)) k1 d o) trodAll_mk0)),rfl,d.frame _,λh=>by cases h⟩
theorem over:Rows.bookKeepsRow.holds Tryz.pinned (OpenSpec.ofChange Rows.bookKeepsSpec):=
 OpenClaim.holds_of_wide 11 Tryz.f11 rfl rfl rfl rfl rfl rfl rfl ⟨rfl,rfl,rfl,rfl,rfl⟩ rfl rfl rfl rfl rfl (by kernel_rfl) Tryz.func11 (bookKeepsJ.rest bookKeepsJ.may bookKeepsJ.lift bookKeepsJ.make)
  (of_decide_eq_true (by kernel_rfl)) (by unfold Func.isWrapper;first | (rw[if_pos (by decide+kernel)];kernel_rfl) | (rw[if_neg (by decide+kernel)];exact ⟨rfl,rfl⟩))
  (λos started H enc _=>lifted os started H enc)
theorem proved:Rows.BookKeepsSaid:=over
#print axioms proved
end Go.Proofs.YtfmldcilgbbimaaGreat.bookKeeps
