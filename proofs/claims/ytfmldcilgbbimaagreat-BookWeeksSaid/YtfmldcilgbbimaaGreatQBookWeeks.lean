/-
  BookWeeks: whatever the input, the call returns true and leaves its arguments as they were. No condition.
-/
import Derived.Test.YtfmldcilgbbimaaGreatK47
import Derived.Test.YtfmldcilgbbimaaGreatRows
import Derived.Test.YtfmldcilgbbimaaGreatO0BookWeeks
import Derived.Test.YtfmldcilgbbimaaGreatO1BookWeeks
import Derived.Test.YtfmldcilgbbimaaGreatO2BookWeeks
import Derived.WalkKit
import Derived.ProofKit
import Derived.OpenShut
import Derived.ShutString
import Derived.ChangeOld
import Derived.Below
import Derived.Deep.Matrix
set_option linter.unusedSimpArgs false
set_option linter.unusedVariables false
namespace Go.Proofs.YtfmldcilgbbimaaGreat.Ax
open Go Go.Proofs
set_option maxRecDepth 100000
theorem weeks_snoc {K:List (Int × Int)} {b:Bk} {n:Nat} (h:n<K.length):((K.take (n+1)).any λk=>qB b.shut k.2)=(((K.take n).any λk=>qB b.shut k.2) || qB b.shut K[n].2):=by
 rw[show K.take (n+1)=K.take n++[K[n]] from (List.take_append_getElem h).symm,List.any_append,List.any_cons,List.any_nil,Bool.or_false]
theorem cBookWeeks (h:List Ob) (s:Setup) (a:SA) (k:SIn h s a) (f0:SFit0 s) (x:AV) (l:List Cm) (Y:SlOf h x 16 (l.map Km)) (fx:Fx):
  ACalls Tryz.prog 9 [z6 s a,x,.ag (fxC fx)] h λr h'=>r=bl true/\h'=h:=by
 refine zf Tryz.f9 [.tmp 6] 95 rfl rfl rfl rfl rfl rfl (by decide) (⟨_,_,⟨rfl,rfl⟩,.refl⟩) λB=>?_
 simp only[go_sem,k.w.one,k.e.one,k.c.one,k.g.one,k.r.one,k.t.one]
 refine zc (zgb _) ?_
 rintro _ N ⟨rfl,rfl⟩
 have E:∀M,SIn (h++M) s a:=λM=>k.app M
 simp only[go_sem,(E _).ones]
 refine zc (XZa _ s a (E _) f0.fit) ?_
 rintro _ N ⟨rfl,rfl⟩
 have L:=(vE (h:=h) s).ones
 cases ν:zw s
 ·simp only[go_sem,Xqa,zA,xb,(E _).ones]
  refine zc (zab _ s a (E _) x l (Y.app _)) ?_
  rintro _ N ⟨rfl,i⟩
  rw[i]
  cases v:(Wh s && decide (l.length<=40))
  ·simp only[go_sem,zJ]
   (first | refine zd ?_ | refine ze ?_ (by rfl))<;>(simp only[go_sem]<;>try rfl)
  ·simp only[go_sem,zJ,zib]
   (first | refine zd ?_ | refine ze ?_ (by rfl))<;>(simp only[go_sem]<;>try rfl)
 ·simp only[go_sem,L,(E _).ones]
  refine zc (zab _ s a (E _) x l (Y.app _)) ?_
  rintro _ N ⟨rfl,i⟩
  rw[i]
  cases v:(Wh s && decide (l.length<=40))
  ·simp only[go_sem,zJ]
   (first | refine zd ?_ | refine ze ?_ (by rfl))<;>(simp only[go_sem]<;>try rfl)
  ·rw[Bool.and_eq_true,decide_eq_true_eq] at v
   obtain ⟨X,ξ⟩:=v
   have f:=f0.few X
   have U:=Vwa X
   simp only[go_sem,zJ,L,bne_self_eq_false]
   refine zc (Y9a _ s f zUa (wSa s) x l (Y.app _) (by omega) U) ?_
   rintro _ N ⟨rfl,i⟩
   rw[i]
   have F:=jHa l (wSa s)
   obtain ⟨b,hb⟩:∃b,b=(xI s zUa l).1:=⟨_,rfl⟩
   rw[<-hb] at F⊢
   clear i
   simp only[go_sem,L]
   refine zc (cDo _ s f b F ⟨2,fx,0,0,0⟩ U) ?_
   rintro _ N ⟨rfl,i⟩
   rw[i]
   have ε:doP s b ⟨2,fx,0,0,0⟩=Kf s b fx:=rfl
   rw[ε]
   obtain ⟨b2,α⟩:∃b2,b2=(Kf s b fx).1:=⟨_,rfl⟩
   have γ:(Kf s b fx).2=ja (JL s b fx):=rfl
   rw[γ, <-α]
   clear i
   simp only[go_sem,L,(E _).ones,ja,List.map_nil]
   have σ:=F.few
   refine zc (K9a _ s a (E _) (BX b) b.evs fx ⟨rfl,λ_=>rfl⟩ (by omega)) ?_
   rintro _ N ⟨rfl,i⟩
   rw[i]
   clear i
   simp only[go_sem,L,(E _).ones]
   refine zc (Qqa _ s a (E _) (BX b) b.evs fx ⟨rfl,λ_=>rfl⟩ (by omega)) ?_
   rintro _ N ⟨rfl,i⟩
   rw[i]
   clear i
   obtain ⟨K,hK⟩:∃K,K=jg s b.evs fx:=⟨_,rfl⟩
   have Z:=jQa s b.evs fx
   rw[<-hK] at Z⊢
   obtain ⟨A,hA⟩:∃A,A=qq s b.evs fx:=⟨_,rfl⟩
   rw[<-hA]
   simp only[go_sem,L]
   obtain ⟨H,hH⟩:∃H,H=h++[Ob.box 30 (zr s a),Ob.box 75 (fxC fx),Ob.box 64 (xX s (frA s) (BX b) (BC b)),Ob.box 64 (xX s (frA s) (BX b2) (BC b2)),Ob.box 69 (jE (ja (JL s b fx)))]:=⟨_,rfl⟩
   have g2:H[h.length+2]? =some (.box 64 (xX s (frA s) (BX b) (BC b))):=by rw[hH,zm (k:=2) rfl];rfl
   have R:H[h.length+4]? =some (.box 69 (jE (ja (JL s b fx)))):=by rw[hH,zm (k:=4) rfl];rfl
   have u:=hH
   simp only[jE,ja,List.map_nil] at u
   rw[<-u]
   refine zj (by decide) (λm T h'=>∃n:Nat,n<=K.length/\h'=H/\T 7=bl true/\T 8= .ptr (h.length+2) 0/\T 11= .ptr (h.length+4) 0/\T 12= .sl 11 (A.1.map evC)/\T 13=i64 A.2/\T 14= .sl 2 (K.map y7)/\T 15=bl ((K.take n).any λk=>qB b.shut k.2)/\T 16=i64 n/\m=K.length - n) K.length
    ⟨0,by omega,rfl,by simp only[go_sem],by simp only[go_sem],by simp only[go_sem],by simp only[go_sem],by simp only[go_sem],by simp only[go_sem],by (simp only[go_sem]<;>rfl),by (simp only[go_sem]<;>rfl),rfl⟩ ?_
   rintro m T h' ⟨n,hn,rfl,P,t8,p,y,j,J,d,G,rfl⟩
   simp only[go_sem,J,G,List.length_map]
   refine ways (λe=>?_) (λe=>?_)
   ·have S:=dlt e
    have W:(n:Int)<K.length:=by omega
    have O:=Xha S
    have I:=weeks_snoc (b:=b) S
    simp only[go_sem]
    refine zn rfl [] 0 [(0,0,[]),(1,0,[]),(3,0,[]),(4,0,[]),(2,0,[]),(5,0,[]),(6,0,[]),(7,0,[]),(8,0,[]),(9,0,[]),(10,0,[])] rfl (by decide) (by decide) ?_
    cases q1:(K.take n).any λk=>qB b.shut k.2
    ·rw[q1] at I d
     simp only[go_sem,t8,J,d,G,g2,L,O,W,List.length_map,Int.toNat_natCast,Int.natCast_nonneg]
     refine zc (Yba _ s b K[n].2 (by have:=jXa F;omega)) ?_
     rintro _ N ⟨rfl,i⟩
     rw[i]
     simp only[go_sem,G]
     exact ⟨K.length - (n+1),by omega,n+1,by omega,P,t8,p,y,j,J,by rw[I];rfl,zx (by omega) rfl,rfl⟩
    ·rw[q1] at I d
     simp only[go_sem,t8,J,d,G,g2,L,O,W,List.length_map,Int.toNat_natCast,Int.natCast_nonneg]
     exact ⟨K.length - (n+1),by omega,n+1,by omega,P,p,y,j,by rw[I];rfl,zx (by omega) rfl,rfl⟩
   ·have ρ:=qU e
    have δ:n=K.length:=by omega
    subst δ
    rw[List.take_length] at d
    have V:(if A.2=0/\(A.1.length:Int)>200 then 210 else if A.2=0/\(K.any λk=>qB b.shut k.2)=true then 211 else A.2)=JL s b fx:=by
     unfold JL
     rw[<-hA, <-hK]
     have h2:A.2≠0->A.2≠0:=id
     by_cases z:A.2=0
     ·rw[z]
      simp only[true_and]
      by_cases D:(A.1.length:Int)>200
      ·have:decide ((A.1.length:Int)<=200)=false:=decide_eq_false (by omega)
       rw[if_pos D,this]
       cases K.any λk=>qB b.shut k.2<;>rfl
      ·have:decide ((A.1.length:Int)<=200)=true:=decide_eq_true (by omega)
       rw[if_neg D,this]
       cases K.any λk=>qB b.shut k.2<;>rfl
     ·rw[if_neg (λq=>z q.1),if_neg (λq=>z q.1)]
      have ζ:(A.2==0)=false:=by simpa using z
      simp[qH,ζ,z]
    have μ:h'[h.length+4]? =some (.box 69 (jE (ja (JL s b fx)))):=R
    cases z:A.2==0
    ·have C:A.2≠0:=by simpa using z
     have v:JL s b fx=A.2:=by rw[<-V,if_neg (λq=>C q.1),if_neg (λq=>C q.1)]
     simp only[go_sem,j,d,z,P,p,R,ja,v,beq_self_eq_true,zJ]
     rw[u]
     (first | refine zd ?_ | refine ze ?_ (by rfl))<;>(simp only[go_sem]<;>try rfl)
    ·have C:A.2=0:=by simpa using z
     cases Q:K.any λk=>qB b.shut k.2
     ·cases D:decide ((A.1.length:Int)>200)
      ·have o:¬ (A.1.length:Int)>200:=of_decide_eq_false D
       have v:JL s b fx=A.2:=by rw[<-V,if_neg (λq=>o q.2),if_neg (λq=>by rw[Q] at q;cases q.2)]
       simp only[go_sem,y,j,d,z,Q,D,P,p,R,ja,v,beq_self_eq_true,zJ,List.length_map]
       rw[u]
       (first | refine zd ?_ | refine ze ?_ (by rfl))<;>(simp only[go_sem]<;>try rfl)
      ·have o:(A.1.length:Int)>200:=of_decide_eq_true D
       have v:JL s b fx=210:=by rw[<-V,if_pos ⟨C,o⟩]
       simp only[go_sem,y,j,d,z,Q,D,P,p,R,ja,v,beq_self_eq_true,zJ,List.length_map]
       rw[u]
       (first | refine zd ?_ | refine ze ?_ (by rfl))<;>(simp only[go_sem]<;>try rfl)
     ·cases D:decide ((A.1.length:Int)>200)
      ·have o:¬ (A.1.length:Int)>200:=of_decide_eq_false D
       have v:JL s b fx=211:=by rw[<-V,if_neg (λq=>o q.2),if_pos ⟨C,Q⟩]
       simp only[go_sem,y,j,d,z,Q,D,P,p,R,ja,v,beq_self_eq_true,zJ,List.length_map]
       rw[u]
       (first | refine zd ?_ | refine ze ?_ (by rfl))<;>(simp only[go_sem]<;>try rfl)
      ·have o:(A.1.length:Int)>200:=of_decide_eq_true D
       have v:JL s b fx=210:=by rw[<-V,if_pos ⟨C,o⟩]
       simp only[go_sem,y,j,d,z,Q,D,P,p,R,ja,v,beq_self_eq_true,zJ,List.length_map]
       rw[u]
       (first | refine zd ?_ | refine ze ?_ (by rfl))<;>(simp only[go_sem]<;>try rfl)
end Go.Proofs.YtfmldcilgbbimaaGreat.Ax
namespace Go.Proofs.YtfmldcilgbbimaaGreat.bookWeeks
open Go.ChangeShapes Go.WideShapes Go.ChangeAt Go.RowKit
open Go.ChangeMaps (open_string shut_string)
theorem own:ownKnob Tryz.prog.godebug=none:=by kernel_rfl
theorem laidOut:laidOutB Tryz.prog=true:=by kernel_rfl
def IsRow (k:IntKind) (w:World) (a:Option Addr) (len cap:Nat) (b:List Int):Prop:=
 (a=none/\len=0/\cap=0/\b=[])∨
 ∃x,a=some x/\len<=cap/\cap<=maxLen/\b.length=cap/\(∀i,i<b.length->w.cell? (x.add i)=some (.int k (b.getD i 0)))/\∀n∈b,(Lit.int k n).wf=true
theorem walk (b:Value) (d:Value) (c:Value) (w:World) (k:Ax.InSet w b) (j:Ax.InCms w d) (m:Ax.InFx c):
  Calls Tryz.prog 9 #[b,d,c] w λe w'=>e= .returned (.bool true)/\Below w.heap.size w w':=by
 obtain ⟨s,a,g,ks,i⟩:=k
 obtain ⟨x,l,h,sl⟩:=j
 obtain ⟨f,rfl⟩:=m
 exact Ax.run_law (Ax.cBookWeeks [] s a ks i x l sl f) ⟨_,_,rfl,g,_,_,rfl,h,_,_,rfl,Ax.InFx.ar,rfl⟩
set_option maxRecDepth 100000 in
theorem lifted (os:Os) (started:os.Started) (H:Type) (enc:TypeId × Value->H):
  ReturnsInHanded {} Tryz.checked os 9 .any (Rows.bookWeeksSpec.pre6 enc Tryz.prog Tryz.f9 Rows.bookWeeksRow.domain false) (Rows.bookWeeksSpec.post enc Tryz.prog Tryz.f9 false true false false):=by
 refine returnsInHanded_of_change (C:=Tryz.checked) own started (by kernel_rfl) Tryz.func9
  (ChangeSpec.witness6 (enc:=enc) (C:=Tryz.checked) false ⟨#[], #[.agg #[.int .i64 0,.slice none 0 0,.int .i64 0,.int .i64 0,.slice none 0 0,.slice none 0 0,.slice none 0 0,.int .i64 0,.int .i64 0,.int .i64 0,.int .i64 0,.int .i64 0,.int .i64 0,.int .i64 0,.int .i64 0,.int .i64 0,.int .i64 0,.int .i64 0,.slice none 0 0,.int .i64 0,.int .i64 0,.int .i64 0,.slice none 0 0],.slice none 0 0,.agg #[.int .i64 0,.int .i64 0,.int .i64 0,.int .i64 0,.int .i64 0,.int .i64 0,.int .i64 0,.int .i64 0,.int .i64 0,.int .i64 0,.int .i64 0,.int .i64 0]],[]⟩ 8 (by kernel_rfl) (by kernel_rfl) (by kernel_rfl) (by kernel_rfl)) ?_
 intro W base args ds gs before b A B _
 have a:∀(j:Nat) t v,Tryz.f9.params[j]? =some t->args[j]? =some v->Value.okWide Tryz.prog W .any base t v:=b
 have l:=A
 obtain ⟨p,q,k,F,rfl,O,T⟩:=A
 have w:DataW.TrodAll enc Tryz.prog W 0 (λ_=>true) true Tryz.f9.params.toList args.toList ds p:=k
 rw[Tryz.params9] at w a
 obtain ⟨v0,Q,Z,K,R,q0,u,rfl,rfl,h0,V⟩:=trodAll_cons w
 obtain ⟨v1,U,d1,I,p1,Y,rfl,rfl,rfl,D,X⟩:=trodAll_cons V
 obtain ⟨s,N,d2,P,p2,q2,rfl,rfl,rfl,z,S⟩:=trodAll_cons X
 obtain ⟨rfl,rfl,rfl⟩:=trodAll_nil S
 obtain rfl:args= #[v0,v1,s]:=by cases args;simp_all
 obtain ⟨rfl,rfl⟩:=trodVars_none F
 have k0:=h0
 have o:∀x∈R,x.block<W.heap.size:=by obtain ⟨m,i⟩:=k0;exact DataW.trod_lt m _ _ _ i
 have J:=Ax.setup_in (a 0 30 v0 rfl rfl) h0
 have k1:=D
 have r:∀x∈p1,x.block<W.heap.size:=by obtain ⟨m,i⟩:=k1;exact DataW.trod_lt m _ _ _ i
 obtain ⟨d,f,g,rfl⟩:=okWide_slice Tryz.underlying62 (a 1 62 v1 rfl rfl)
 have G:=(by obtain ⟨y,E⟩:=D;exact Ax.cms_in (v:= .slice d f g) (by simpa [Value.cells] using E):Ax.InCms W (.slice d f g))
 have k2:=z
 have n:∀x∈p2,x.block<W.heap.size:=by obtain ⟨m,i⟩:=k2;exact DataW.trod_lt m _ _ _ i
 have L:=Ax.fx_in (a 2 75 s rfl rfl) z
 clear k b
 refine (walk v0 (.slice d f g) s W J G L).mono λe W' ⟨M,c⟩=>?_
 subst M
 exact ⟨_,rfl,_,_,_,[],_,[],l,trodAll_mk1 (shut_bool Tryz.underlying4 _),(trodAll_cons_mk (Below.trod laidOut (by kernel_rfl) (of_decide_eq_true (by kernel_rfl)) k0 c o) (trodAll_cons_mk (Below.trod laidOut (by kernel_rfl) (of_decide_eq_true (by kernel_rfl)) k1 c r) (trodAll_cons_mk (Below.trod laidOut (by kernel_rfl) (of_decide_eq_true (by kernel_rfl)) k2 c n) trodAll_mk0))),rfl,c.frame _,λh=>by cases h⟩
theorem over:Rows.bookWeeksRow.holds Tryz.pinned (OpenSpec.ofChange Rows.bookWeeksSpec):=
 OpenClaim.holds_of_wide 9 Tryz.f9 rfl rfl rfl rfl rfl rfl rfl ⟨rfl,rfl,rfl,rfl,rfl⟩ rfl rfl rfl rfl rfl (by kernel_rfl) Tryz.func9 (bookWeeksJ.rest bookWeeksJ.may bookWeeksJ.lift bookWeeksJ.make)
  (of_decide_eq_true (by kernel_rfl)) (by unfold Func.isWrapper;first | (rw[if_pos (by decide+kernel)];kernel_rfl) | (rw[if_neg (by decide+kernel)];exact ⟨rfl,rfl⟩))
  (λos started H enc _=>lifted os started H enc)
theorem proved:Rows.BookWeeksSaid:=over
#print axioms proved
end Go.Proofs.YtfmldcilgbbimaaGreat.bookWeeks
