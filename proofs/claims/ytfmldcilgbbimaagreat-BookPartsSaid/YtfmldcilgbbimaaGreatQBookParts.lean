/-
  BookParts: whatever the input, the call returns true and leaves its arguments as they were. No condition.
-/
import Derived.Test.YtfmldcilgbbimaaGreatK47
import Derived.Test.YtfmldcilgbbimaaGreatRows
import Derived.Test.YtfmldcilgbbimaaGreatO0BookParts
import Derived.Test.YtfmldcilgbbimaaGreatO1BookParts
import Derived.Test.YtfmldcilgbbimaaGreatO2BookParts
import Derived.WalkKit
import Derived.ProofKit
import Derived.OpenShut
import Derived.ShutString
import Derived.ChangeOld
import Derived.Below
import Derived.Deep.Matrix
set_option linter.unusedSimpArgs false
set_option linter.unusedVariables false
namespace Go.Proofs.YtfmldcilgbbimaaGreat.Ax
open Go Go.Proofs
set_option maxRecDepth 100000
theorem slOf_vw {h:List Ob} {x:AV} {e i n:Nat} {xs:List (List AV)} (k:SlOf h x e xs) (b:i+n<=xs.length):SlOf h (.vw x e i n) e ((xs.drop i).take n):=by
 refine ⟨?_,λa=>?_⟩
 ·rw[xy,k.rows,Option.bind_some,if_pos]
  refine ⟨b,?_⟩
  by_cases h0:n=0
  ·exact .inl h0
  ·exact .inr (k.at (i:=0) (by omega))
 ·rw[Ze,k.at (i:=0) (by
   cases xs with
   | nil=>simp at a
   | cons _ _=>simp),Option.bind_some,if_pos rfl]
theorem ans_all (l:List An):((l.map jE).all λr=>r.length==4 && r.all AV.one)=true:=by
 rw[List.all_eq_true];intro r a;obtain ⟨s,_,rfl⟩:=List.mem_map.1 a;rfl
set_option maxHeartbeats 4000000 in
theorem cBookParts (h:List Ob) (s:Setup) (a:SA) (k:SIn h s a) (f0:SFit0 s) (x:AV) (l:List Cm) (z:SlOf h x 16 (l.map Km)) (c:Int) (Z:0<=c/\c<256):
  ACalls Tryz.prog 10 [z6 s a,x,.v (.int .u8 c)] h λr h'=>r=bl true/\h'=h:=by
 refine zf Tryz.f10 [.tmp 6] 81 rfl rfl rfl rfl rfl rfl (by decide) (⟨_,_,⟨rfl,rfl⟩,.refl⟩) λB=>?_
 simp only[go_sem,k.w.one,k.e.one,k.c.one,k.g.one,k.r.one,k.t.one]
 refine zc (zgb _) ?_
 rintro _ A ⟨rfl,rfl⟩
 have N:∀M,SIn (h++M) s a:=λM=>k.app M
 simp only[go_sem,(N _).ones]
 refine zc (XZa _ s a (N _) f0.fit) ?_
 rintro _ A ⟨rfl,rfl⟩
 have q:=(vE (h:=h) s).ones
 cases β:zw s
 ·simp only[go_sem,Xqa,zA,xb,(N _).ones]
  refine zc (zab _ s a (N _) x l (z.app _)) ?_
  rintro _ A ⟨rfl,j⟩
  rw[j]
  cases R:(Wh s && decide (l.length<=40))
  ·simp only[go_sem,zJ]
   (first | refine zd ?_ | refine ze ?_ (by rfl))<;>(simp only[go_sem]<;>try rfl)
  ·simp only[go_sem,zJ,zib]
   (first | refine zd ?_ | refine ze ?_ (by rfl))<;>(simp only[go_sem]<;>try rfl)
 ·simp only[go_sem,q,(N _).ones]
  refine zc (zab _ s a (N _) x l (z.app _)) ?_
  rintro _ A ⟨rfl,j⟩
  rw[j]
  cases R:(Wh s && decide (l.length<=40))
  ·simp only[go_sem,zJ]
   (first | refine zd ?_ | refine ze ?_ (by rfl))<;>(simp only[go_sem]<;>try rfl)
  ·rw[Bool.and_eq_true,decide_eq_true_eq] at R
   obtain ⟨K,α⟩:=R
   have f:=f0.few K
   have u:=Vwa K
   have Y:=Yca K
   obtain ⟨n,hn⟩:∃n,n=c.toNat % (l.length+1):=⟨_,rfl⟩
   have δ:n<=l.length:=by
    have:=Nat.mod_lt c.toNat (show 0<l.length+1 by omega)
    omega
   have hw:IntKind.wrap .i64 ((l.length:Int)+1)=((l.length+1:Nat):Int):=jk (by omega)
   have S:IntKind.wrap .i64 c=c:=zI (by unfold Fit;omega)
   have W:¬ (((l.length+1:Nat):Int)=0):=by omega
   have P:Int.tmod c ((l.length+1:Nat):Int)=(n:Int):=by
    rw[Int.tmod_eq_emod_of_nonneg Z.1,hn,Int.natCast_emod,Int.toNat_of_nonneg Z.1]
   have J:∀M,zq (h++M) x=some (l.map Km):=λM=>(z.app M).rows
   simp only[go_sem,zJ,q,J,hw,S,W,P,bne_self_eq_false,List.length_map]
   refine zc (Y9a _ s f zUa (wSa s) x l (z.app _) (by omega) u) ?_
   rintro _ A ⟨rfl,j⟩
   rw[j]
   clear j
   have hR:xI s zUa l=((xI s (xI s zUa (l.take n)).1 (l.drop n)).1,(xI s zUa (l.take n)).2++(xI s (xI s zUa (l.take n)).1 (l.drop n)).2):=by
    have:=jJa (s:=s) (l.take n) (l.drop n) (b:=zUa)
    rw[List.take_append_drop] at this
    exact this
   have o:=QFa f u l (wSa s)
   have H:=jHa (l.take n) (wSa s)
   have p:=jHa (l.drop n) H
   have m:(xI s zUa (l.take n)).2.length=n:=by rw[jIa,List.length_take];omega
   have d:(xI s zUa l).2.length=l.length:=jIa l
   rw[hR] at o d⊢
   obtain ⟨b1,I⟩:∃b,b=(xI s zUa (l.take n)).1:=⟨_,rfl⟩
   obtain ⟨L,F⟩:∃b,b=(xI s zUa (l.take n)).2:=⟨_,rfl⟩
   rw[<-I, <-F] at o d⊢
   rw[<-I] at H p
   rw[<-F] at m
   obtain ⟨b2,E⟩:∃b,b=(xI s b1 (l.drop n)).1:=⟨_,rfl⟩
   obtain ⟨Q,D⟩:∃b,b=(xI s b1 (l.drop n)).2:=⟨_,rfl⟩
   rw[<-E, <-D]
   rw[<-D] at o d
   rw[<-E] at p
   simp only[go_sem,q]
   have y:(n:Int)<=l.length:=by omega
   have V:∀M,((0:Int)=(n:Int)∨eOf (h++M) x=some 16)=True:=λM=>by
    refine eq_true ?_
    by_cases h0:n=0
    ·left;omega
    ·exact .inr ((z.app M).at (i:=0) (by rw[List.length_map];omega))
   have X:∀M,((n:Int)=(l.length:Int)∨eOf (h++M) x=some 16)=True:=λM=>by
    refine eq_true ?_
    by_cases h0:n=l.length
    ·left;omega
    ·exact .inr ((z.app M).at (i:=0) (by rw[List.length_map];omega))
   have T:∀M,SlOf (h++M) (.vw x 16 0 n) 16 ((l.take n).map Km):=λM=>by
    have:=slOf_vw (i:=0) (n:=n) (z.app M) (by rw[List.length_map];omega)
    rw[List.drop_zero, <-List.map_take] at this
    exact this
   have U:∀M,SlOf (h++M) (.vw x 16 n (l.length - n)) 16 ((l.drop n).map Km):=λM=>by
    have:=slOf_vw (i:=n) (n:=l.length - n) (z.app M) (by rw[List.length_map];omega)
    rw[List.take_of_length_le (by rw[List.length_drop,List.length_map];omega), <-List.map_drop] at this
    exact this
   refine zn rfl [.res] 1 [(1,0,[]),(2,0,[]),(0,0,[]),(3,0,[]),(4,0,[]),(5,0,[]),(6,0,[]),(7,0,[]),(8,0,[]),(9,0,[]),(10,0,[])] rfl (by decide) (by decide) ?_
   simp only[go_sem,q,J,y,V,List.length_map,Int.toNat_natCast,Int.natCast_nonneg,Nat.sub_zero]
   refine zc (Y9a _ s f zUa (wSa s) _ (l.take n) (T _) (by rw[List.length_take];omega) u) ?_
   rintro _ A ⟨rfl,j⟩
   rw[j, <-I, <-F]
   clear j
   simp only[go_sem,q]
   refine zn rfl [.res] 1 [(1,0,[]),(2,0,[]),(0,0,[]),(3,0,[]),(4,0,[]),(5,0,[]),(6,0,[]),(7,0,[]),(8,0,[]),(9,0,[]),(10,0,[])] rfl (by decide) (by decide) ?_
   simp only[go_sem,q,J,y,X,Int.le_refl,List.length_map,Int.toNat_natCast,Int.natCast_nonneg]
   refine zc (Y9a _ s f b1 H _ (l.drop n) (U _) (by rw[List.length_drop];omega) u) ?_
   rintro _ A ⟨rfl,j⟩
   rw[j, <-E, <-D]
   clear j
   simp only[go_sem,q]
   refine zc (zeb _ s Y b2 p) ?_
   rintro _ A ⟨rfl,j⟩
   rw[j]
   clear j
   have a1:=ans_all L
   have a2:=ans_all Q
   have G:L.length*81<=140737488355328:=by rw[m];omega
   have C:(L.length+Q.length)*81<=140737488355328:=by rw[<-List.length_append,d];omega
   simp only[go_sem,q,a1,a2,G,C,List.length_map,List.length_append,List.length_nil,Nat.zero_add]
   have d:(L++Q).length=l.length:=d
   have O:((L.length:Int)==(n:Int))=true:=by rw[m];exact beq_self_eq_true _
   refine zc (zhb _ (L++Q) _ (X6 (ty:=69) (st:=2) (by rw[zm (k:=5) rfl,List.map_append];rfl)) (by omega) o) ?_
   rintro _ A ⟨rfl,j⟩
   rw[j]
   clear j
   simp only[go_sem,q,O,zJ,List.length_map]
   (first | refine zd ?_ | refine ze ?_ (by rfl))<;>(simp only[go_sem]<;>try rfl)
end Go.Proofs.YtfmldcilgbbimaaGreat.Ax
namespace Go.Proofs.YtfmldcilgbbimaaGreat.bookParts
open Go.ChangeShapes Go.WideShapes Go.ChangeAt Go.RowKit
open Go.ChangeMaps (open_string shut_string)
theorem own:ownKnob Tryz.prog.godebug=none:=by kernel_rfl
theorem laidOut:laidOutB Tryz.prog=true:=by kernel_rfl
def IsRow (k:IntKind) (w:World) (a:Option Addr) (len cap:Nat) (b:List Int):Prop:=
 (a=none/\len=0/\cap=0/\b=[])∨
 ∃x,a=some x/\len<=cap/\cap<=maxLen/\b.length=cap/\(∀i,i<b.length->w.cell? (x.add i)=some (.int k (b.getD i 0)))/\∀n∈b,(Lit.int k n).wf=true
theorem walk (b:Value) (c:Value) (a2:Int) (w:World) (i:Ax.InSet w b) (h:Ax.InCms w c) (j:(Lit.int .u8 a2).wf=true):
  Calls Tryz.prog 10 #[b,c,.int .u8 a2] w λe w'=>e= .returned (.bool true)/\Below w.heap.size w w':=by
 obtain ⟨s,a,d,ks,g⟩:=i
 obtain ⟨x,l,f,sl⟩:=h
 exact Ax.run_law (Ax.cBookParts [] s a ks g x l sl a2 (Ax.lit_u8 j)) ⟨_,_,rfl,d,_,_,rfl,f,_,_,rfl,rfl,rfl⟩
set_option maxRecDepth 100000 in
theorem lifted (os:Os) (started:os.Started) (H:Type) (enc:TypeId × Value->H):
  ReturnsInHanded {} Tryz.checked os 10 .any (Rows.bookPartsSpec.pre6 enc Tryz.prog Tryz.f10 Rows.bookPartsRow.domain false) (Rows.bookPartsSpec.post enc Tryz.prog Tryz.f10 false true false false):=by
 refine returnsInHanded_of_change (C:=Tryz.checked) own started (by kernel_rfl) Tryz.func10
  (ChangeSpec.witness6 (enc:=enc) (C:=Tryz.checked) false ⟨#[], #[.agg #[.int .i64 0,.slice none 0 0,.int .i64 0,.int .i64 0,.slice none 0 0,.slice none 0 0,.slice none 0 0,.int .i64 0,.int .i64 0,.int .i64 0,.int .i64 0,.int .i64 0,.int .i64 0,.int .i64 0,.int .i64 0,.int .i64 0,.int .i64 0,.int .i64 0,.slice none 0 0,.int .i64 0,.int .i64 0,.int .i64 0,.slice none 0 0],.slice none 0 0,.int .u8 0],[]⟩ 8 (by kernel_rfl) (by kernel_rfl) (by kernel_rfl) (by kernel_rfl)) ?_
 intro W base args ds gs before b y z _
 have a:∀(j:Nat) t v,Tryz.f10.params[j]? =some t->args[j]? =some v->Value.okWide Tryz.prog W .any base t v:=b
 have l:=y
 obtain ⟨p,q,i,E,rfl,N,S⟩:=y
 have s:DataW.TrodAll enc Tryz.prog W 0 (λ_=>true) true Tryz.f10.params.toList args.toList ds p:=i
 rw[Tryz.params10] at s a
 obtain ⟨v0,P,Y,J,Q,q0,r,rfl,rfl,h0,U⟩:=trodAll_cons s
 obtain ⟨v1,T,d1,G,p1,X,rfl,rfl,rfl,B,V⟩:=trodAll_cons U
 obtain ⟨A,M,Z,O,p2,q2,rfl,rfl,rfl,L,R⟩:=trodAll_cons V
 obtain ⟨rfl,rfl,rfl⟩:=trodAll_nil R
 obtain rfl:args= #[v0,v1,A]:=by cases args;simp_all
 obtain ⟨rfl,rfl⟩:=trodVars_none E
 have k0:=h0
 have n:∀x∈Q,x.block<W.heap.size:=by obtain ⟨m,k⟩:=k0;exact DataW.trod_lt m _ _ _ k
 have I:=Ax.setup_in (a 0 30 v0 rfl rfl) h0
 have k1:=B
 have o:∀x∈p1,x.block<W.heap.size:=by obtain ⟨m,k⟩:=k1;exact DataW.trod_lt m _ _ _ k
 obtain ⟨c,f,g,rfl⟩:=okWide_slice Tryz.underlying62 (a 1 62 v1 rfl rfl)
 have F:=(by obtain ⟨u,D⟩:=B;exact Ax.cms_in (v:= .slice c f g) (by simpa [Value.cells] using D):Ax.InCms W (.slice c f g))
 obtain ⟨a2,rfl,rfl,rfl,w⟩:=open_int Tryz.underlying5 (a 2 5 A rfl rfl) L
 clear i b
 refine (walk v0 (.slice c f g) a2 W I F w).mono λe W' ⟨K,d⟩=>?_
 subst K
 exact ⟨_,rfl,_,_,_,[],_,[],l,trodAll_mk1 (shut_bool Tryz.underlying4 _),(trodAll_cons_mk (Below.trod laidOut (by kernel_rfl) (of_decide_eq_true (by kernel_rfl)) k0 d n) (trodAll_cons_mk (Below.trod laidOut (by kernel_rfl) (of_decide_eq_true (by kernel_rfl)) k1 d o) (trodAll_cons_mk (shut_int Tryz.underlying5 w) trodAll_mk0))),rfl,d.frame _,λh=>by cases h⟩
theorem over:Rows.bookPartsRow.holds Tryz.pinned (OpenSpec.ofChange Rows.bookPartsSpec):=
 OpenClaim.holds_of_wide 10 Tryz.f10 rfl rfl rfl rfl rfl rfl rfl ⟨rfl,rfl,rfl,rfl,rfl⟩ rfl rfl rfl rfl rfl (by kernel_rfl) Tryz.func10 (bookPartsJ.rest bookPartsJ.may bookPartsJ.lift bookPartsJ.make)
  (of_decide_eq_true (by kernel_rfl)) (by unfold Func.isWrapper;first | (rw[if_pos (by decide+kernel)];kernel_rfl) | (rw[if_neg (by decide+kernel)];exact ⟨rfl,rfl⟩))
  (λos started H enc _=>lifted os started H enc)
theorem proved:Rows.BookPartsSaid:=over
#print axioms proved
end Go.Proofs.YtfmldcilgbbimaaGreat.bookParts
