/-
  BookErrors: whatever the input, the call returns true and leaves its arguments as they were. No condition.
-/
import Derived.Test.YtfmldcilgbbimaaGreatK47
import Derived.Test.YtfmldcilgbbimaaGreatRows
import Derived.Test.YtfmldcilgbbimaaGreatO0BookErrors
import Derived.Test.YtfmldcilgbbimaaGreatO1BookErrors
import Derived.Test.YtfmldcilgbbimaaGreatO2BookErrors
import Derived.WalkKit
import Derived.ProofKit
import Derived.OpenShut
import Derived.ShutString
import Derived.ChangeOld
import Derived.Below
import Derived.Deep.Matrix
set_option linter.unusedSimpArgs false
set_option linter.unusedVariables false
namespace Go.Proofs.YtfmldcilgbbimaaGreat.Ax
open Go Go.Proofs
set_option maxRecDepth 100000
theorem doP_err (s:Setup) (b:Bk) (q:Cm) (h:((doP s b q).2.err != 0)=true):(doP s b q).1=b/\(doP s b q).2=ja (doP s b q).2.err:=by
 have a:∀f:Fx,((Kf s b f).2.err != 0)=true->(Kf s b f).1=b/\(Kf s b f).2=ja (Kf s b f).2.err:=λf h=>by
  have k:(JL s b f != 0)=true:=h
  have l:(JL s b f==0)=false:=by rw[bne,Bool.not_eq_true'] at k;exact k
  refine ⟨?_,rfl⟩
  unfold Kf
  simp only[l,Bool.false_eq_true,if_false]
 unfold doP at h⊢
 split
 ·rename_i e;rw[if_pos e] at h;exact a _ h
 ·rename_i m;rw[if_neg m] at h
  split
  ·rename_i e;rw[if_pos e] at h;exact a _ h
  ·rename_i n;rw[if_neg n] at h
   split
   ·rename_i e;rw[if_pos e] at h
    split
    ·rename_i i;simp only[i,if_true] at h;cases h
    ·exact ⟨rfl,rfl⟩
   ·rename_i i;rw[if_neg i] at h
    split
    ·rename_i e;rw[if_pos e] at h
     split
     ·rename_i c;simp only[c,if_true] at h;cases h
     ·exact ⟨rfl,rfl⟩
    ·rename_i c;rw[if_neg c] at h
     split
     ·rename_i e;rw[if_pos e] at h
      split
      ·rename_i d;simp only[d,if_true] at h;cases h
      ·exact ⟨rfl,rfl⟩
     ·rename_i d;rw[if_neg d] at h
      split
      ·rename_i e;rw[if_pos e] at h
       split
       ·rename_i g;simp only[g,if_true] at h;cases h
       ·exact ⟨rfl,rfl⟩
      ·rename_i g;rw[if_neg g] at h
       split
       ·rename_i e;rw[if_pos e] at h
        split
        ·rename_i j;simp only[j,if_true] at h;cases h
        ·exact ⟨rfl,rfl⟩
       ·rename_i j;rw[if_neg j] at h
        split
        ·rename_i e;rw[if_pos e] at h;cases h
        ·exact ⟨rfl,rfl⟩
theorem doP_asks (s:Setup) (b:Bk) (q:Cm) (a:(q.kind != 1)=true) (c:(q.kind != 2)=true) (d:(q.kind != 5)=true) (e:(q.kind != 6)=true):(doP s b q).1=b:=by
 rw[bne_iff_ne] at a c d e
 unfold doP
 rw[if_neg a,if_neg c,if_neg d,if_neg e]
 split
 ·rfl
 ·split
  ·rfl
  ·split
   ·rfl
   ·split<;>rfl
theorem kinds5 (k:Int):((k != 1)=false/\(k != 2)=true/\(k != 5)=true/\(k != 6)=true)∨((k != 1)=true/\(k != 2)=false/\(k != 5)=true/\(k != 6)=true)∨((k != 1)=true/\(k != 2)=true/\(k != 5)=false/\(k != 6)=true)∨((k != 1)=true/\(k != 2)=true/\(k != 5)=true/\(k != 6)=false)∨((k != 1)=true/\(k != 2)=true/\(k != 5)=true/\(k != 6)=true):=by
 simp only[bne_eq_false_iff_eq,bne_iff_ne]
 omega
set_option maxHeartbeats 4000000 in
theorem cBookErrors (h:List Ob) (s:Setup) (a:SA) (k:SIn h s a) (f0:SFit0 s) (x:AV) (l:List Cm) (hx:SlOf h x 16 (l.map Km)):
  ACalls Tryz.prog 7 [z6 s a,x] h λr h'=>r=bl true/\h'=h:=by
 refine zf Tryz.f7 [.tmp 4] 95 rfl rfl rfl rfl rfl rfl (by decide) (⟨_,_,⟨rfl,rfl⟩,.refl⟩) λB=>?_
 simp only[go_sem,k.w.one,k.e.one,k.c.one,k.g.one,k.r.one,k.t.one]
 refine zc (zgb _) ?_
 rintro _ V ⟨rfl,rfl⟩
 have X:∀M,SIn (h++M) s a:=λM=>k.app M
 simp only[go_sem,(X _).ones]
 refine zc (XZa _ s a (X _) f0.fit) ?_
 rintro _ V ⟨rfl,rfl⟩
 have O:=(vE (h:=h) s).ones
 cases ν:zw s
 ·simp only[go_sem,Xqa,zA,xb,(X _).ones]
  refine zc (zab _ s a (X _) x l (hx.app _)) ?_
  rintro _ V ⟨rfl,J⟩
  rw[J]
  cases hf:(Wh s && decide (l.length<=40))
  ·simp only[go_sem,zJ]
   (first | refine zd ?_ | refine ze ?_ (by rfl))<;>(simp only[go_sem]<;>try rfl)
  ·simp only[go_sem,zJ,zib]
   (first | refine zd ?_ | refine ze ?_ (by rfl))<;>(simp only[go_sem]<;>try rfl)
 ·simp only[go_sem,O,(X _).ones]
  refine zc (zab _ s a (X _) x l (hx.app _)) ?_
  rintro _ V ⟨rfl,J⟩
  rw[J]
  cases hf:(Wh s && decide (l.length<=40))
  ·simp only[go_sem,zJ]
   (first | refine zd ?_ | refine ze ?_ (by rfl))<;>(simp only[go_sem]<;>try rfl)
  ·rw[Bool.and_eq_true,decide_eq_true_eq] at hf
   obtain ⟨W,ξ⟩:=hf
   have f:=f0.few W
   have ε:=Vwa W
   have Z:=Yca W
   simp only[go_sem,zJ,O,bne_self_eq_false]
   refine zj (by decide) (λm T H=>∃(n:Nat) (b:Bk),n<=l.length/\BkI s b/\HasB h H s a b/\T 1=x/\T 5=bl true/\T 6= .ptr (h.length+1) 0/\T 8=i64 n/\m=l.length - n) l.length
    ⟨0,zUa,by omega,wSa s,⟨⟨_,rfl,zg rfl (zi rfl)⟩,by rw[zo rfl];rfl,by rw[zm (k:=1) rfl];rfl⟩,by simp only[go_sem],by simp only[go_sem],by simp only[go_sem],by (simp only[go_sem]<;>rfl),rfl⟩ ?_
   rintro m T H ⟨n,b,hn,u,kd,t1,t5,t6,t8,rfl⟩
   have N:=kd.pre.sl hx
   have o:=N.rows
   simp only[go_sem,t1,t8,o,List.length_map]
   refine ways (λe=>?_) (λe=>?_)
   ·have S:=dlt e
    have d:=Xpa S
    have D:(n:Int)<l.length:=by omega
    have j:=N.at (i:=n) (by simpa using S)
    obtain ⟨q,hq⟩:∃q,q=l[n]:=⟨_,rfl⟩
    rw[<-hq] at d
    have U:=kd.bk
    have p:∀M,(H++M)[h.length+1]? =some (bkO s b):=λM=>zb U
    have C:∀M,zq (H++M) x=some (l.map Km):=λM=>(N.app M).rows
    have v:∀M,eOf (H++M) x=some 16:=λM=>(N.app M).at (i:=n) (by simpa using S)
    simp only[go_sem]
    refine zn rfl [.res,.res] 2 [(1,0,[]),(2,0,[]),(0,0,[]),(3,0,[]),(4,0,[]),(5,0,[]),(6,0,[]),(7,0,[]),(8,0,[]),(9,0,[]),(10,1,[]),(11,0,[]),(12,0,[])] rfl (by decide) (by decide) ?_
    simp only[go_sem,t1,t6,t8,U,p,C,v,O,d,D,o,j,List.length_map,Int.toNat_natCast,Int.natCast_nonneg]
    refine zc (cDo _ s f b u q ε) ?_
    rintro _ V ⟨rfl,J⟩
    rw[J]
    clear J V
    have I:=doP_err s b q
    have R:=doP_asks s b q
    have P:=vqa q u
    obtain ⟨b2,K⟩:∃b2,b2=(doP s b q).1:=⟨_,rfl⟩
    obtain ⟨w,hw⟩:∃w,w=(doP s b q).2:=⟨_,rfl⟩
    rw[<-K, <-hw] at I
    rw[<-K] at P R
    rw[<-K, <-hw]
    clear K hw
    have G:∀(b3:Bk) (w:An),HasB h ((H++[Ob.box 64 (xX s (frA s) (BX b3) (BC b3)),Ob.box 69 (jE w)]).set (h.length+1) (bkO s b3)) s a b3:=λb3 w=>(kd.app (zg rfl (zi rfl))).put b3
    cases Q:w.err != 0
    ·rcases kinds5 q.kind with ⟨y,A,F,E⟩ | ⟨y,A,F,E⟩ | ⟨y,A,F,E⟩ | ⟨y,A,F,E⟩ | ⟨y,A,F,E⟩
     iterate 4
      ·simp only[go_sem,O,Q,y,A,F,E,t1,t6,t8,U,p,C,v,d,D,o,j,zJ,List.length_map,Int.toNat_natCast,Int.natCast_nonneg]
       exact ⟨l.length - (n+1),by omega,n+1,b2,by omega,P,G b2 w,t5,zx (by omega) rfl,rfl⟩
     ·obtain rfl:=R y A F E
      simp only[go_sem,O,Q,y,A,F,E,t1,t6,t8,U,p,C,v,d,D,o,j,zJ,List.length_map,Int.toNat_natCast,Int.natCast_nonneg]
      refine zc (zeb _ s Z _ u) ?_
      rintro _ V ⟨rfl,J⟩
      rw[J]
      simp only[go_sem,O,Q,t1,t6,t8,U,p,C,v,d,D,o,j,zJ,List.length_map,Int.toNat_natCast,Int.natCast_nonneg]
      exact ⟨l.length - (n+1),by omega,n+1,_,by omega,u,G _ w,t5,zx (by omega) rfl,rfl⟩
    ·obtain ⟨rfl,Y⟩:=I Q
     obtain ⟨z,rfl⟩:∃z,w=ja z:=⟨_,Y⟩
     clear Y I
     have Q:(z != 0)=true:=Q
     have hz:(ja z).err=z:=rfl
     have η:decide ((0:Int)>0)=false:=rfl
     have hr:(ja z).rows=[]:=rfl
     have hs:(ja z).segs=[]:=rfl
     have α:(ja z).bytes=[]:=rfl
     rcases kinds5 q.kind with ⟨y,A,F,E⟩ | ⟨y,A,F,E⟩ | ⟨y,A,F,E⟩ | ⟨y,A,F,E⟩ | ⟨y,A,F,E⟩
     iterate 5
      ·simp only[go_sem,O,hz,hr,hs,α,Q,y,A,F,E,t1,t6,t8,U,p,C,v,d,D,o,j,zJ,List.length_map,Int.toNat_natCast,Int.natCast_nonneg]
       refine zc (zeb _ s Z _ u) ?_
       rintro _ V ⟨rfl,J⟩
       rw[J]
       simp only[go_sem,O,hz,hr,hs,α,Q,η,t1,t6,t8,U,p,C,v,d,D,o,j,zJ,List.length_map,Int.toNat_natCast,Int.natCast_nonneg,List.map_nil,List.length_nil]
       exact ⟨l.length - (n+1),by omega,n+1,_,by omega,u,G _ (ja z),t5,zx (by omega) rfl,rfl⟩
   ·have ρ:=qU e
    obtain ⟨L,hL,_⟩:=kd.pre
    simp only[go_sem,t5]
    rw[hL]
    (first | refine zd ?_ | refine ze ?_ (by rfl))<;>(simp only[go_sem]<;>try rfl)
end Go.Proofs.YtfmldcilgbbimaaGreat.Ax
namespace Go.Proofs.YtfmldcilgbbimaaGreat.bookErrors
open Go.ChangeShapes Go.WideShapes Go.ChangeAt Go.RowKit
open Go.ChangeMaps (open_string shut_string)
theorem own:ownKnob Tryz.prog.godebug=none:=by kernel_rfl
theorem laidOut:laidOutB Tryz.prog=true:=by kernel_rfl
def IsRow (k:IntKind) (w:World) (a:Option Addr) (len cap:Nat) (b:List Int):Prop:=
 (a=none/\len=0/\cap=0/\b=[])∨
 ∃x,a=some x/\len<=cap/\cap<=maxLen/\b.length=cap/\(∀i,i<b.length->w.cell? (x.add i)=some (.int k (b.getD i 0)))/\∀n∈b,(Lit.int k n).wf=true
theorem walk (b:Value) (c:Value) (w:World) (i:Ax.InSet w b) (h:Ax.InCms w c):
  Calls Tryz.prog 7 #[b,c] w λe w'=>e= .returned (.bool true)/\Below w.heap.size w w':=by
 obtain ⟨s,a,d,ks,g⟩:=i
 obtain ⟨x,l,f,sl⟩:=h
 exact Ax.run_law (Ax.cBookErrors [] s a ks g x l sl) ⟨_,_,rfl,d,_,_,rfl,f,rfl⟩
set_option maxRecDepth 100000 in
theorem lifted (os:Os) (started:os.Started) (H:Type) (enc:TypeId × Value->H):
  ReturnsInHanded {} Tryz.checked os 7 .any (Rows.bookErrorsSpec.pre6 enc Tryz.prog Tryz.f7 Rows.bookErrorsRow.domain false) (Rows.bookErrorsSpec.post enc Tryz.prog Tryz.f7 false true false false):=by
 refine returnsInHanded_of_change (C:=Tryz.checked) own started (by kernel_rfl) Tryz.func7
  (ChangeSpec.witness6 (enc:=enc) (C:=Tryz.checked) false ⟨#[], #[.agg #[.int .i64 0,.slice none 0 0,.int .i64 0,.int .i64 0,.slice none 0 0,.slice none 0 0,.slice none 0 0,.int .i64 0,.int .i64 0,.int .i64 0,.int .i64 0,.int .i64 0,.int .i64 0,.int .i64 0,.int .i64 0,.int .i64 0,.int .i64 0,.int .i64 0,.slice none 0 0,.int .i64 0,.int .i64 0,.int .i64 0,.slice none 0 0],.slice none 0 0],[]⟩ 8 (by kernel_rfl) (by kernel_rfl) (by kernel_rfl) (by kernel_rfl)) ?_
 intro W base args ds gs before b w y _
 have a:∀(j:Nat) t v,Tryz.f7.params[j]? =some t->args[j]? =some v->Value.okWide Tryz.prog W .any base t v:=b
 have l:=w
 obtain ⟨p,q,i,B,rfl,J,M⟩:=w
 have s:DataW.TrodAll enc Tryz.prog W 0 (λ_=>true) true Tryz.f7.params.toList args.toList ds p:=i
 rw[Tryz.params7] at s a
 obtain ⟨v0,K,R,G,L,S,r,rfl,rfl,h0,O⟩:=trodAll_cons s
 obtain ⟨v1,N,T,E,p1,Q,rfl,rfl,rfl,z,P⟩:=trodAll_cons O
 obtain ⟨rfl,rfl,rfl⟩:=trodAll_nil P
 obtain rfl:args= #[v0,v1]:=by cases args;simp_all
 obtain ⟨rfl,rfl⟩:=trodVars_none B
 have k0:=h0
 have n:∀x∈L,x.block<W.heap.size:=by obtain ⟨m,k⟩:=k0;exact DataW.trod_lt m _ _ _ k
 have F:=Ax.setup_in (a 0 30 v0 rfl rfl) h0
 have k1:=z
 have o:∀x∈p1,x.block<W.heap.size:=by obtain ⟨m,k⟩:=k1;exact DataW.trod_lt m _ _ _ k
 obtain ⟨c,f,g,rfl⟩:=okWide_slice Tryz.underlying62 (a 1 62 v1 rfl rfl)
 have D:=(by obtain ⟨u,A⟩:=z;exact Ax.cms_in (v:= .slice c f g) (by simpa [Value.cells] using A):Ax.InCms W (.slice c f g))
 clear i b
 refine (walk v0 (.slice c f g) W F D).mono λe U ⟨I,d⟩=>?_
 subst I
 exact ⟨_,rfl,_,_,_,[],_,[],l,trodAll_mk1 (shut_bool Tryz.underlying4 _),(trodAll_cons_mk (Below.trod laidOut (by kernel_rfl) (of_decide_eq_true (by kernel_rfl)) k0 d n) (trodAll_cons_mk (Below.trod laidOut (by kernel_rfl) (of_decide_eq_true (by kernel_rfl)) k1 d o) trodAll_mk0)),rfl,d.frame _,λh=>by cases h⟩
theorem over:Rows.bookErrorsRow.holds Tryz.pinned (OpenSpec.ofChange Rows.bookErrorsSpec):=
 OpenClaim.holds_of_wide 7 Tryz.f7 rfl rfl rfl rfl rfl rfl rfl ⟨rfl,rfl,rfl,rfl,rfl⟩ rfl rfl rfl rfl rfl (by kernel_rfl) Tryz.func7 (bookErrorsJ.rest bookErrorsJ.may bookErrorsJ.lift bookErrorsJ.make)
  (of_decide_eq_true (by kernel_rfl)) (by unfold Func.isWrapper;first | (rw[if_pos (by decide+kernel)];kernel_rfl) | (rw[if_neg (by decide+kernel)];exact ⟨rfl,rfl⟩))
  (λos started H enc _=>lifted os started H enc)
theorem proved:Rows.BookErrorsSaid:=over
#print axioms proved
end Go.Proofs.YtfmldcilgbbimaaGreat.bookErrors
