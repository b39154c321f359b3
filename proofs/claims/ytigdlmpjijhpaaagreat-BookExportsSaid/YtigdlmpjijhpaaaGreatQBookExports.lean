/-
  BookExports: whatever the input, the call returns true and leaves its arguments as they were. No condition.
-/
import Derived.Test.YtigdlmpjijhpaaaGreatB45
import Derived.Test.YtigdlmpjijhpaaaGreatB47
import Derived.Test.YtigdlmpjijhpaaaGreatRows
import Derived.Test.YtigdlmpjijhpaaaGreatO0BookExports
import Derived.Test.YtigdlmpjijhpaaaGreatO1BookExports
import Derived.Test.YtigdlmpjijhpaaaGreatO2BookExports
import Derived.WalkKit
import Derived.ProofKit
import Derived.OpenShut
import Derived.ShutString
import Derived.ChangeOld
import Derived.Below
import Derived.Deep.Matrix
set_option linter.all false
namespace Go.Proofs.YtigdlmpjijhpaaaGreat.Ax
open Go Go.Proofs
set_option maxRecDepth 100000
abbrev cmK(k w wk:Int):Cm:=⟨k,⟨0,⟨0,0,0,0,0,0,0,0,0,0,0⟩⟩,w,wk,0⟩
theorem mem_insN_self{n:Int}{l:List Int}:jU (J1 n l) n=true:=by
 rw[Xp]
 exact zva.2 (.inl rfl)
theorem shut_after{s:Setup}{b:Bk}{wk:Int}(h:0<=wk/\wk<=52):jU (doP s b (cmK 5 0 wk)).1.shut wk=true:=by
 have e:doP s b (cmK 5 0 wk)=if(decide (wk≥0) && decide (wk<=52)) && !jU b.shut wk then(⟨b.evs,J1 wk b.shut⟩,xn 0) else(b,xn 212):=rfl
 rw[e,decide_eq_true h.1,decide_eq_true h.2]
 cases q:jU b.shut wk
 ·exact mem_insN_self
 ·exact q
theorem do_export{s:Setup}{b:Bk}{wk:Int}(h:jU b.shut wk=true):doP s b (cmK 7 0 wk)=(b,⟨0,ka s b wk,[],(jZ (ka s b wk)).1⟩):=by
 have e:doP s b (cmK 7 0 wk)=(b,if jU b.shut wk then⟨0,ka s b wk,[],(jZ (ka s b wk)).1⟩ else xn 212):=rfl
 rw[e,h]
 rfl
theorem do_row{s:Setup}{b:Bk}{w:Nat}{wk:Int}(c:w<s.rates.length)(h:0<=wk/\wk<=52):doP s b (cmK 3 w wk)=(b,⟨0,[jj s b.evs w wk],[],[]⟩):=by
 have e:doP s b (cmK 3 w wk)=(b,if Jk s 0 (cmK 3 w wk)==0 then⟨0,[jj s b.evs w wk],[],[]⟩ else xn (Jk s 0 (cmK 3 w wk))):=rfl
 have a:Jk s 0 (cmK 3 w wk)=0:=by
  unfold Jk
  rw[zua (by decide),zua (by decide)]
  refine⟨⟨rfl,?_⟩,?_⟩
  ·unfold xZ
   simp only[zl,decide_eq_true_eq]
   omega
  ·unfold JZ
   simp only[zl,decide_eq_true_eq]
   exact h
 rw[e,a]
 rfl
theorem rowsP_may{s:Setup}(f:SFit s)(e:qv s=true){b:Bk}(i:BkI s b){wk:Int}(h:0<=wk/\wk<=52):okW (ka s b wk)=true/\∀q∈ka s b wk,FitW q.1 q.2:=by
 have a:∀w:Nat,w<s.rates.length->ve s (w:Int) wk=0:=λw c=>by
  unfold ve
  rw[e,if_neg (by decide),if_neg (by simp;omega),if_neg (by simp;omega)]
 constructor
 ·unfold okW
  rw[zR]
  intro q d
  obtain⟨w,c,rfl⟩:=zw.1 d
  exact jIb f (a w (qT.1 c)) i.few
 ·intro q d
  obtain⟨w,c,rfl⟩:=zw.1 d
  exact jHb f (a w (qT.1 c)) i.few
theorem cWriteE(h:List Ob){b:List Int}{W:List (RowV × List Flg)}(d:By b)(a:wU b=some W)(i:W.length<4096):ACalls Tryz.prog 15 [.sl 27 (W.map xP)] h λr h'=>r= .tup [.sl 1 (b.map qX),i64 0]/\h'=h:=by
 obtain⟨j,e⟩:=Kva d a
 obtain⟨g,k⟩:=zLb d a
 have:=Y9a h (.sl 27 (W.map xP)) (upW W) (by rw[jKb];exact⟨rfl,λ_=>rfl⟩) (λq c=>by
  unfold upW at c
  obtain⟨p,f,rfl⟩:=zw.1 c
  exact⟨⟨rfl,λ_=>rfl⟩,g p f⟩) (by unfold upW;rw[zb];exact i)
 rw[jJb,e] at this
 exact this
set_option maxHeartbeats 8000000 in
theorem cBookExports(h:List Ob)(s:Setup)(a:SA)(k:SIn h s a)(f0:SFit0 s)(x:AV)(l:List Cm)(hx:SlOf h x 16 (l.map V1))(c:Int)(hc:0<=c/\c<256):
  ACalls Tryz.prog 6 [je s a,x,.v (.int .u8 c)] h λr h'=>r=bl true/\h'=h:=by
 have κ:=hx.one
 refine zj Tryz.f6 [.tmp 6] 137 rfl rfl rfl rfl rfl rfl (by decide) (⟨_,_,⟨rfl,rfl⟩,.refl⟩) λB=>?_
 simp only[go_sem,k.w.one,k.e.one,k.c.one,k.g.one,k.r.one,k.t.one,κ]
 refine zg (xJb _) ?_
 rintro _ o ⟨rfl,rfl⟩
 have Q:∀M,SIn (h++M) s a:=λM=>k.app M
 simp only[go_sem,(Q _).ones]
 refine zg (W7a _ s a (Q _) f0.fit) ?_
 rintro _ o ⟨rfl,rfl⟩
 have N:=(Q3 (h:=h) s).ones
 cases μ:qv s
 ·simp only[go_sem,Wga,zA,kW,(Q _).ones]
  refine zg (xCb _ s a (Q _) x l (hx.app _)) ?_
  rintro _ o ⟨rfl,d⟩
  rw[d]
  cases hf:(jRa s && decide (l.length<=40))
  ·simp only[go_sem,qD]
   refine zm ?_<;>(simp only[go_sem]<;>try rfl)
  ·simp only[go_sem,qD,xLb]
   refine zm ?_<;>(simp only[go_sem]<;>try rfl)
 ·simp only[go_sem,N,(Q _).ones]
  refine zg (xCb _ s a (Q _) x l (hx.app _)) ?_
  rintro _ o ⟨rfl,d⟩
  rw[d]
  cases hf:(jRa s && decide (l.length<=40))
  ·simp only[go_sem,qD]
   refine zm ?_<;>(simp only[go_sem]<;>try rfl)
  ·rw[zl,decide_eq_true_eq] at hf
   obtain⟨W,hll⟩:=hf
   have f:=f0.few W
   have D:=zHb W
   obtain⟨n,hn⟩:∃n,n=c.toNat % 53:=⟨_,rfl⟩
   have hnl:n<53:=by rw[hn];exact Nat.mod_lt _ (by decide)
   have Y:Int.tmod c 53=(n:Int):=by
    rw[Int.tmod_eq_emod_of_nonneg hc.1,hn,Int.natCast_emod,kK hc.1]
    rfl
   have ξ:IntKind.wrap .u8 (n:Int)=(n:Int):=by rw[IntKind.wrap_u8];omega
   have β:IntKind.wrap .i64 (n:Int)=(n:Int):=qp (by unfold Fit;omega)
   have n53:¬ ((53:Int)=0):=by decide
   simp only[go_sem,qD,N,Y,ξ,β,n53,bne_self_eq_false]
   refine zg (xBb _ s f jZa (Qya s) x l (hx.app _) (by omega) D) ?_
   rintro _ o ⟨rfl,d⟩
   rw[d]
   clear d o
   have j:=kNa l (Qya s)
   generalize (vG s jZa l).1=b0 at j⊢
   generalize (vG s jZa l).2=A0
   simp only[go_sem,N]
   have U:0<=(n:Int)/\(n:Int)<=52:=by omega
   refine zg (cDo _ s f b0 j (cmK 5 0 n) D) ?_
   rintro _ o ⟨rfl,d⟩
   rw[d]
   clear d o
   have γ:=shut_after (s:=s) (b:=b0) U
   have j:=VZa (cmK 5 0 n) j
   generalize (doP s b0 (cmK 5 0 n)).1=b at j γ⊢
   generalize (doP s b0 (cmK 5 0 n)).2=A1
   simp only[go_sem,N]
   refine zg (cDo _ s f b j (cmK 7 0 n) D) ?_
   rintro _ o ⟨rfl,d⟩
   rw[d,do_export γ]
   clear d o
   obtain⟨J,u⟩:=rowsP_may f μ j U
   have ε:=VZ (s:=s) (b:=b) (wk:=(n:Int))
   have F:∀i,i<s.rates.length->(ka s b (n:Int))[i]? =some (jj s b.evs (i:Int) n):=λi hi=>by
    rw[ka,zx,List.getElem?_range hi]
    rfl
   have X:∀R∈ka s b (n:Int),R.2.length<1099511627776:=λR hR=>by
    obtain⟨w,_,rfl⟩:=zw.1 hR
    have:=(XYa f b.evs (w:Int) n (by have:=j.few;omega)).2
    omega
   obtain⟨V,hV⟩:∃V,V=ka s b (n:Int):=⟨_,rfl⟩
   rw[<-hV] at J u ε F X⊢
   clear hV
   have q:=(zIb J u (by omega)).2
   have P:=zJb V
   have ρ:=zBb V
   have y:(V.map y5a).map xP=V.map xP:=by
    rw[vi]
    exact List.map_congr_left λp hp=>zKb (u p hp).tier (u p hp).tier1
   generalize (jZ V).1=bs at q P ρ⊢
   have η:∀H,ACalls Tryz.prog 15 [.sl 27 (V.map xP)] H λr h'=>r= .tup [.sl 1 (bs.map qX),i64 0]/\h'=H:=λH=>by
    rw[<-y]
    exact cWriteE H P q (by rw[zb];omega)
   simp only[go_sem,N]
   refine zg (zFb _ (.sl 1 (bs.map qX)) ⟨rfl,λ_=>rfl⟩ P (by omega) q) ?_
   rintro _ o ⟨rfl,d⟩
   rw[d,y]
   clear d o
   simp only[go_sem]
   refine zg (η _) ?_
   rintro _ o ⟨rfl,d⟩
   rw[d]
   clear d o
   simp only[go_sem]
   refine zP (by decide) (λm T H=>∃(i:Nat) (M:List Ob),i<=V.length/\H=(h++[.box 30 (qd s a),bkO s b,bkO s b,.box 71 (vo ⟨0,V,[],bs⟩)])++M/\
    T 3= .ptr h.length 0/\T 7=bl true/\T 8= .ptr (h.length+1) 0/\T 10=i64 n/\T 12= .ptr (h.length+3) 0/\T 13= .sl 27 (V.map xP)/\T 14=i64 0/\T 15= .sl 1 (bs.map qX)/\T 16=i64 0/\T 17=i64 i/\m=V.length - i) V.length
    ⟨0,[],by omega,(zF _).symm,by simp only[go_sem],by simp only[go_sem],by simp only[go_sem],by simp only[go_sem],by simp only[go_sem],by simp only[go_sem],by simp only[go_sem],by simp only[go_sem],by simp only[go_sem],by(simp only[go_sem]<;>rfl),rfl⟩ ?_
   rintro m T H ⟨i,M,hi,rfl,t3,t7,t8,t10,A,S,Z,O,δ,E,rfl⟩
   obtain⟨I,z⟩:∃I,I=h++[Ob.box 30 (qd s a),bkO s b,bkO s b,.box 71 (vo ⟨0,V,[],bs⟩)]:=⟨_,rfl⟩
   have b3:∀M,(I++M)[h.length]? =some (.box 30 (qd s a)):=λM=>zf (by rw[z,zM rfl];rfl)
   have b8:∀M,(I++M)[h.length+1]? =some (bkO s b):=λM=>zf (by rw[z,zK (k:=1) rfl];rfl)
   have C:∀M,(I++M)[h.length+3]? =some (.box 71 (vo ⟨0,V,[],bs⟩)):=λM=>zf (by rw[z,zK (k:=3) rfl];rfl)
   have α:∀M,∃L,I++M=h++L:=λM=>⟨_,by rw[z,zp]⟩
   rw[<-z]
   simp only[go_sem,E,A,C,zb]
   refine ways (λe=>?_) (λe=>?_)
   ·have hlt:=dlt e
    have G:=F i (by omega)
    simp only[go_sem,t8,t10,E,b8,N]
    refine zg (cDo _ s f b j (cmK 3 i n) D) ?_
    rintro _ o ⟨rfl,d⟩
    rw[d,do_row (by omega) U]
    clear d o
    have θ:=(XYa f b.evs (i:Int) n (by have:=j.few;omega)).2
    generalize jj s b.evs (i:Int) n=R at G θ⊢
    have K:(V.map xP)[i]? =some (xP R):=by rw[zx,G];rfl
    have ι:(i:Int)<V.length:=by omega
    simp only[go_sem,N]
    refine zV rfl [] 0 [(0,0,[]),(1,0,[]),(2,0,[]),(3,0,[]),(4,0,[]),(5,0,[]),(9,0,[]),(11,0,[]),(6,0,[]),(7,0,[]),(8,0,[]),(10,0,[]),(12,0,[]),(13,0,[]),(14,0,[]),(15,0,[]),(16,0,[])] rfl (by decide) (by decide) ?_
    simp only[go_sem,A,E,C,K,ι,xP,yX,List.cons_append,List.nil_append,bne_self_eq_false,zb,Int.toNat_natCast,zh]
    refine zg (jCb _ R (by omega)) ?_
    rintro _ o ⟨rfl,d⟩
    rw[d]
    clear d o
    simp only[go_sem,qD,Bool.not_true]
    simp only[go_sem,E]
    refine⟨V.length - (i+1),by omega,i+1,M++[bkO s b,.box 71 (vo ⟨0,[R],[],[]⟩)],by omega,by rfl,t3,t7,t8,t10,A,S,Z,O,δ,qm (by omega) rfl,rfl⟩
   ·have hge:=xb e
    have hiV:i=V.length:=by omega
    have hsl:SlOf (I++M) (.sl 27 (V.map xP)) 27 (V.map xP):=⟨rfl,λ_=>rfl⟩
    obtain⟨L,hL⟩:=α M
    have ο:z6 (I++M) a.r=some (s.rates.map qB):=by rw[hL];exact(Q L).r.rows
    simp only[go_sem,t7,A,C,qD,beq_self_eq_true,S,Z,O,δ]
    refine zg (xGb _ V (by omega) X) ?_
    rintro _ o ⟨rfl,d⟩
    rw[d]
    clear d o
    simp only[go_sem,t3,A,S,O,b3,C,qD,beq_self_eq_true,Kxa,KAa,ο,ε,zb]
    rw[hL]
    refine zm ?_<;>(simp only[go_sem]<;>try rfl)
end Go.Proofs.YtigdlmpjijhpaaaGreat.Ax
namespace Go.Proofs.YtigdlmpjijhpaaaGreat.bookExports
open Go.ChangeShapes Go.WideShapes Go.ChangeAt Go.RowKit
open Go.ChangeMaps (open_string shut_string)
theorem own:ownKnob Tryz.prog.godebug=none:=by kernel_rfl
theorem laidOut:laidOutB Tryz.prog=true:=by kernel_rfl
def IsRow(k:IntKind)(w:World)(a:Option Addr)(len cap:Nat)(b:List Int):Prop:=
 (a=none/\len=0/\cap=0/\b=[])∨
 ∃x,a=some x/\len<=cap/\cap<=maxLen/\b.length=cap/\(∀i,i<b.length->w.cell? (x.add i)=some (.int k (b.getD i 0)))/\∀n∈b,(Lit.int k n).wf=true
theorem walk(c:Value)(b:Value)(a2:Int)(w:World)(f:Ax.InSet w c)(j:Ax.InCms w b)(d:(Lit.int .u8 a2).wf=true):
  Calls Tryz.prog 6 #[c,b,.int .u8 a2] w λe w'=>e= .returned (.bool true)/\Below w.heap.size w w':=by
 obtain⟨s,a,h,ks,g⟩:=f
 obtain⟨x,l,i,sl⟩:=j
 exact Ax.run_law (Ax.cBookExports [] s a ks g x l sl a2 (Ax.lit_u8 d)) ⟨_,_,rfl,h,_,_,rfl,i,_,_,rfl,rfl,rfl⟩
set_option maxRecDepth 100000 in
theorem lifted(os:Os)(started:os.Started)(H:Type)(enc:TypeId × Value->H):
  ReturnsInHanded {} Tryz.checked os 6 .any (Rows.bookExportsSpec.pre6 enc Tryz.prog Tryz.f6 Rows.bookExportsRow.domain false) (Rows.bookExportsSpec.post enc Tryz.prog Tryz.f6 false true false false):=by
 refine returnsInHanded_of_change (C:=Tryz.checked) own started (by kernel_rfl) Tryz.func6
  (ChangeSpec.witness6 (enc:=enc) (C:=Tryz.checked) false ⟨#[], #[.agg #[.int .i64 0,.slice none 0 0,.int .i64 0,.int .i64 0,.slice none 0 0,.slice none 0 0,.slice none 0 0,.int .i64 0,.int .i64 0,.int .i64 0,.int .i64 0,.int .i64 0,.int .i64 0,.int .i64 0,.int .i64 0,.int .i64 0,.int .i64 0,.int .i64 0,.slice none 0 0,.int .i64 0,.int .i64 0,.int .i64 0,.slice none 0 0],.slice none 0 0,.int .u8 0],[]⟩ 8 (by kernel_rfl) (by kernel_rfl) (by kernel_rfl) (by kernel_rfl)) ?_
 intro W base args ds gs before b z w _
 have a:∀(j:Nat) t v,Tryz.f6.params[j]? =some t->args[j]? =some v->Value.okWide Tryz.prog W .any base t v:=b
 have n:=z
 obtain⟨p,q,i,G,rfl,I,J⟩:=z
 have B:DataW.TrodAll enc Tryz.prog W 0 (λ_=>true) true Tryz.f6.params.toList args.toList ds p:=i
 rw[Tryz.params6] at B a
 obtain⟨v0,U,Y,O,Q,X,r,rfl,rfl,h0,M⟩:=trodAll_cons B
 obtain⟨v1,K,d1,S,p1,q1,rfl,rfl,rfl,s,V⟩:=trodAll_cons M
 obtain⟨A,T,d2,N,p2,Z,rfl,rfl,rfl,L,R⟩:=trodAll_cons V
 obtain⟨rfl,rfl,rfl⟩:=trodAll_nil R
 obtain rfl:args= #[v0,v1,A]:=by cases args;simp_all
 obtain⟨rfl,rfl⟩:=trodVars_none G
 have k0:=h0
 have o:∀x∈Q,x.block<W.heap.size:=by obtain⟨m,k⟩:=k0;exact DataW.trod_lt m _ _ _ k
 have E:=Ax.setup_in (a 0 30 v0 rfl rfl) h0
 have k1:=s
 have l:∀x∈p1,x.block<W.heap.size:=by obtain⟨m,k⟩:=k1;exact DataW.trod_lt m _ _ _ k
 obtain⟨c,d,g,rfl⟩:=okWide_slice Tryz.underlying61 (a 1 61 v1 rfl rfl)
 have P:=(by obtain⟨y,F⟩:=s;exact Ax.cms_in (v:= .slice c d g) (by simpa [Value.cells] using F):Ax.InCms W (.slice c d g))
 obtain⟨a2,rfl,rfl,rfl,u⟩:=open_int Tryz.underlying5 (a 2 5 A rfl rfl) L
 clear i b
 refine(walk v0 (.slice c d g) a2 W E P u).mono λe W' ⟨D,f⟩=>?_
 subst D
 exact⟨_,rfl,_,_,_,[],_,[],n,trodAll_mk1 (shut_bool Tryz.underlying4 _),(trodAll_cons_mk (Below.trod laidOut (by kernel_rfl) (of_decide_eq_true (by kernel_rfl)) k0 f o) (trodAll_cons_mk (Below.trod laidOut (by kernel_rfl) (of_decide_eq_true (by kernel_rfl)) k1 f l) (trodAll_cons_mk (shut_int Tryz.underlying5 u) trodAll_mk0))),rfl,f.frame _,λh=>by cases h⟩
theorem over:Rows.bookExportsRow.holds Tryz.pinned (OpenSpec.ofChange Rows.bookExportsSpec):=
 OpenClaim.holds_of_wide 6 Tryz.f6 rfl rfl rfl rfl rfl rfl rfl ⟨rfl,rfl,rfl,rfl,rfl⟩ rfl rfl rfl rfl rfl (by kernel_rfl) Tryz.func6 (bookExportsJ.rest bookExportsJ.may bookExportsJ.lift bookExportsJ.make)
  (of_decide_eq_true (by kernel_rfl)) (by unfold Func.isWrapper;first|(rw[if_pos (by decide+kernel)];kernel_rfl)|(rw[if_neg (by decide+kernel)];exact⟨rfl,rfl⟩))
  (λos started H enc _=>lifted os started H enc)
theorem proved:Rows.BookExportsSaid:=over
#print axioms proved
end Go.Proofs.YtigdlmpjijhpaaaGreat.bookExports
