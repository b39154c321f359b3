/-
  Joined.
-/
import Derived.Test.YtfmldcilgbbimaaGreatK34
import Derived.Test.YtfmldcilgbbimaaGreatK24
import Derived.OrdersIn
import Derived.RangeFuncCalls
import Derived.RangeFuncNested
import Derived.RangeFuncLeaves
set_option linter.unusedSimpArgs false
set_option linter.unusedVariables false
namespace Go.Proofs.YtfmldcilgbbimaaGreat.Ax
open Go Go.Proofs
set_option maxRecDepth 100000
def Zt (o:List Int) (d:Int):List Int:=match o.getLast? with
 | none=>[d]
 | some x=>if x<d then o++[d] else o
theorem Zqa (o:List Int) (d:Int):(Zt o d).length<=o.length+1:=by
 unfold Zt
 split
 ·simp
 ·split<;>simp
def Jy (o:List Int) (a:Int):Nat->List Int
 | 0=>o
 | k+1=>Zt (Jy o a k) (a+k)
theorem Wa (o:List Int) (a:Int):∀k,(Jy o a k).length<=o.length+k
 | 0=>Nat.le_refl _
 | k+1=>by
   have b:=Wa o a k
   have c:=Zqa (Jy o a k) (a+k)
   rw[Jy];omega
def jR (o:List Int) (s:Spn):List Int:=Jy o (qL s.from_) (qL (s.to_ - 1) - qL s.from_+1).toNat
def zQ (l:List Spn):List Int:=(zE l).foldl jR []
theorem vv (n:Int):0<=qL n/\qL n<371:=by
 unfold qL ofI zO
 have h0:0<=min (max n 0) 32054399/\min (max n 0) 32054399<=32054399:=by omega
 rw[Int.tdiv_eq_ediv_of_nonneg h0.1,zI (by unfold Fit;omega)]
 omega
theorem q3a (o:List Int) (s:Spn):(jR o s).length<=o.length+372:=by
 have a:=Wa o (qL s.from_) (qL (s.to_ - 1) - qL s.from_+1).toNat
 have b:=vv s.from_
 have c:=vv (s.to_ - 1)
 unfold jR
 omega
theorem KAa (F:List (Nat × Ob)) (h0 h:List Ob) (i:Nat) (o:List Int) (d:Int) (k:LIn F h0 h i 27 3 1 (o.map zz)) (K:o.length<1099511627776):
  ACalls Tryz.prog 217 [i64 d,.ptr i 0] h λr h'=>r= .tup []/\LIn F h0 h' i 27 3 1 ((Zt o d).map zz):=by
 have hex:∃r h',(r=AV.tup []/\LIn F h0 h' i 27 3 1 ((Zt o d).map zz))/\ResK h h':=by
  obtain ⟨h',E,G⟩:=k.any ((Zt o d).map zz)
  exact ⟨_,h',⟨rfl,E⟩,G⟩
 obtain ⟨x,c,n⟩:=k.at_
 have g:zq h x=some (o.map zz):=n.rows.rows
 have J:List.length (zz d)=1:=rfl
 have f:(o.length+1)*9<=140737488355328:=by omega
 refine zf Tryz.f217 [] 21 rfl rfl rfl rfl rfl rfl (by decide) (hex) λB=>?_
 simp only[go_sem,c,g,List.length_map]
 rcases n with ⟨rfl,m⟩ | ⟨id,st,I,rfl,j⟩
 ·have s:o=[]:=by simpa using m
  subst s
  have b:∀M,(h++M)[i]? =some (.box 27 [.v (.slice none 0 0)]):=λM=>zb c
  simp only[go_sem,c,b]
  exact ⟨_,rfl,.inl ⟨rfl,k.push_nil (zg rfl (zi rfl)) (by omega) (by rw[zm (k:=1) rfl];rfl)⟩⟩
 ·have A:∀M,(h++M)[id]? =some (.row 3 1 (o.map zz) st):=λM=>zb j
  have b:∀M,(h++M)[i]? =some (.box 27 [.tl id st]):=λM=>zb c
  have u:id≠i:=λq=>by rw[q,c] at j;cases j
  have e:∀M o',((h++M).set id o')[i]? =some (.box 27 [.tl id st]):=λM o'=>by
   rw[List.getElem?_set_ne u];exact b M
  have app:∀M,NoRes M->Zt o d=o++[d]->LIn F h0 (((h++M).set id (.row 3 1 (o.map zz++[[i64 d]]) (st+1))).set i (.box 27 [.tl id (st+1)])) i 27 3 1 ((Zt o d).map zz):=λM D q=>by
   rw[q,List.map_append]
   exact k.push_own D I j
  cases a:o.getLast? with
  | none=>
    have s:o=[]:=by simpa using a
    subst s
    simp only[go_sem,c]
    simp only[go_sem,b,A,f,e]
    exact ⟨_,rfl,.inl ⟨rfl,app _ (zi rfl) rfl⟩⟩
  | some z=>
    have C:0<o.length:=by cases o with | nil=>cases a | cons _ _=>simp
    have w:(o.map zz)[o.length - 1]? =some [i64 z]:=by
     rw[List.getElem?_map]
     rw[List.getLast?_eq_getElem?] at a
     rw[a];rfl
    have p:((o.length:Int)==0)=false:=by rw[beq_eq_false_iff_ne];omega
    have y:IntKind.wrap .i64 ((o.length:Int) - 1)=((o.length - 1:Nat):Int):=J9 (by omega) (by omega)
    have l:((o.length - 1:Nat):Int)<o.length:=by omega
    have g:zq h (.tl id st)=some (o.map zz):=g
    have H:eOf h (.tl id st)=some 1:=by rw[qE,j,km]
    cases q:decide (z<d)
    ·have t:Zt o d=o:=by unfold Zt;rw[a];simp only;rw[if_neg (of_decide_eq_false q)]
     simp only[go_sem,p,c,j,y,w,l,zJ,q,List.length_map,Int.toNat_natCast,Int.natCast_nonneg]
     exact ⟨_,rfl,.inl ⟨rfl,by rw[t];exact k⟩⟩
    ·have t:Zt o d=o++[d]:=by unfold Zt;rw[a];simp only;rw[if_pos (of_decide_eq_true q)]
     simp only[go_sem,p,c,j,y,w,l,zJ,q,List.length_map,Int.toNat_natCast,Int.natCast_nonneg]
     simp only[go_sem,b,A,f,e,List.length_map]
     exact ⟨_,rfl,.inl ⟨rfl,app _ (zi rfl) t⟩⟩
theorem KBa (h:List Ob) (x:AV) (l:List Spn) (hx:SlOf h x 2 (l.map zH)) (hl:l.length<1048576):
  ACalls Tryz.prog 164 [x] h λr h'=>∃L,h'=h++L/\NoRes L/\New h 1 r ((zQ l).map zz) L:=by
 have hex:∃r h',(∃L,h'=h++L/\NoRes L/\New h 1 r ((zQ l).map zz) L)/\ResK h h':=
  ⟨.sl 1 _,_,⟨[],rfl,qh,λ_ _=>⟨rfl,λ_=>rfl⟩⟩,zR⟩
 refine zf Tryz.f164 [.cell 2 27] 37 rfl rfl rfl rfl rfl rfl (by decide) (hex) λB=>?_
 simp only[go_sem]
 refine zc (Qk _ x l (hx.app _) (by omega)) ?_
 rintro _ h4 ⟨rfl,rfl⟩
 have s:zQ l=((zE l).take (zE l).length).foldl jR []:=by rw[List.take_length];rfl
 have A:= @jZ l
 rw[s]
 obtain ⟨v,R⟩:∃v,v=zE l:=⟨_,rfl⟩
 have δ:v.length<1048576:=by have:=zy l;rw[R];omega
 rw[<-R] at A⊢
 obtain ⟨W,Q⟩:∃W,W=(v.take v.length).foldl jR []:=⟨_,rfl⟩
 rw[<-Q]
 simp only[go_sem,List.length_map]
 refine zj (by decide) (λm T h'=>∃(i:Nat) (o:List Int),i<=v.length/\o=(v.take i).foldl jR []/\o.length<=372*i/\LIn [] h h' h.length 27 3 1 (o.map zz)/\T 2= .ptr h.length 0/\T 3= .fn (.func 217) [] [.ptr h.length 0]/\T 10=spv v/\T 11=i64 v.length/\T 12=i64 i/\m=v.length - i) v.length
  ⟨0,[],by omega,rfl,by simp,⟨⟨_,rfl,zi rfl⟩,Nat.le_refl _,(λz H=>by cases H),_,by rw[zo rfl];rfl,.inl ⟨rfl,rfl⟩⟩,by simp only[go_sem],by simp only[go_sem],by simp only[go_sem],by (simp only[go_sem]<;>rfl),by (simp only[go_sem]<;>rfl),rfl⟩ ?_
 rintro m T h' ⟨i,o,hi,E,γ,k,t2,t3,t10,d,b,rfl⟩
 simp only[go_sem,d,b]
 refine ways (λe=>?_) (λe=>?_)
 ·have p:=dlt e
  have g:=Zs p
  have J:(i:Int)<v.length:=by omega
  have hb:=A _ (List.getElem_mem p)
  have C:(v.take (i+1)).foldl jR []=jR o v[i]:=by rw[<-List.take_append_getElem p,List.foldl_append, <-E];rfl
  obtain ⟨z,H⟩:∃z,z=v[i]:=⟨_,rfl⟩
  rw[<-H] at g C hb
  simp only[go_sem,t10,b,g,J,List.length_map,Int.toNat_natCast,Int.natCast_nonneg]
  refine zc (Wta z.from_ _) ?_
  rintro _ O ⟨rfl,rfl⟩
  have U:IntKind.wrap .i64 (z.to_ - 1)=z.to_ - 1:=zI (n:=z.to_ - 1) (by unfold Fit;omega)
  simp only[go_sem,U]
  refine zc (Wta (z.to_ - 1) _) ?_
  rintro _ O ⟨rfl,rfl⟩
  have r1:=vv z.from_
  have r2:=vv (z.to_ - 1)
  have Z:IntKind.wrap .i64 (qL (z.to_ - 1) - qL z.from_)=qL (z.to_ - 1) - qL z.from_:=zI (n:=qL (z.to_ - 1) - qL z.from_) (by unfold Fit;omega)
  have X:IntKind.wrap .i64 (qL (z.to_ - 1) - qL z.from_+1)=qL (z.to_ - 1) - qL z.from_+1:=zI (n:=qL (z.to_ - 1) - qL z.from_+1) (by unfold Fit;omega)
  simp only[go_sem,Z,X]
  obtain ⟨a,I⟩:∃a,a=qL z.from_:=⟨_,rfl⟩
  obtain ⟨c,S⟩:∃c,c=qL (z.to_ - 1) - qL z.from_+1:=⟨_,rfl⟩
  have D:jR o z=Jy o a c.toNat:=by unfold jR;rw[I,S]
  rw[show qL (z.to_ - 1) - qL z.from_+1=c from S.symm,show qL z.from_=a from I.symm]
  rw[<-I] at r1
  have V:c<=371:=by omega
  refine zj (by decide) (λm f F=>∃j:Nat,j<=c.toNat/\LIn [] h F h.length 27 3 1 ((Jy o a j).map zz)/\f 2= .ptr h.length 0/\f 3= .fn (.func 217) [] [.ptr h.length 0]/\f 6=i64 a/\f 10=spv v/\f 11=i64 v.length/\f 12=i64 i/\f 25=i64 c/\f 26=i64 j/\m=c.toNat - j) c.toNat
   ⟨0,by omega,k.app (zi rfl),by simp only[go_sem,t2],by simp only[go_sem,t3],by simp only[go_sem],by simp only[go_sem,t10],by simp only[go_sem,d],by simp only[go_sem,b],by simp only[go_sem],by (simp only[go_sem]<;>rfl),rfl⟩ ?_
  clear k t2 t3 t10 d b
  rintro m f F ⟨j,hj,k,t2,t3,t6,t10,d,b,t25,q,rfl⟩
  simp only[go_sem,t25,q]
  refine ways (λe=>?_) (λe=>?_)
  ·have P:(j:Int)<c:=of_decide_eq_true e
   have Y:IntKind.wrap .i64 (a+j)=a+j:=zI (n:=a+j) (by unfold Fit;omega)
   have ε:=Wa o a j
   simp only[go_sem,t3,t6,q,Y]
   refine zc (KAa [] h F h.length (Jy o a j) (a+j) k (by omega)) ?_
   rintro _ O ⟨rfl,k6⟩
   simp only[go_sem,q]
   exact ⟨c.toNat - (j+1),by omega,j+1,by omega,k6,t2,t3,t6,t10,d,b,t25,zx (by omega) rfl,rfl⟩
  ·have K:¬ (j:Int)<c:=of_decide_eq_false e
   have G:j=c.toNat:=by omega
   subst G
   simp only[go_sem,b]
   have η:=q3a o z
   exact ⟨v.length - (i+1),by omega,i+1,jR o z,by omega,C.symm,by omega,by rw[D];exact k,t2,t3,t10,d,zx (by omega) rfl,rfl⟩
 ·have K:=qU e
  have M:i=v.length:=by omega
  subst M
  rw[<-Q] at E
  subst E
  obtain ⟨N,t,y⟩:=k.at_
  have u:=k.pre
  have w:AV.cells N=some [N]:=y.rows.cells
  simp only[go_sem,t2,t,w]
  rw[zT t]
  exact Xk (by simp only[go_sem,t2,t]) u y
theorem wg {n:Nat}:∀l:List Int,zU n (l.map zz)=true
 | []=>rfl
 | s::l=>by
   rw[List.map_cons,zU,wg l];rfl
theorem Zra (h:List Ob) (x:AV) (l:List Spn) (b:SlOf h x 2 (l.map zH)) (a:l.length<1048576):
  ACalls Tryz.prog 164 [x] h λr h'=>r= .sl 1 ((zQ l).map zz)/\h'=h:=qK (by decide) (wg _) (KBa h x l b a)
end Go.Proofs.YtfmldcilgbbimaaGreat.Ax
namespace Go.Proofs.YtfmldcilgbbimaaGreat.Ax
open Go Go.RowKit
section
variable {P:Program} {ops:Array Oper} {Q:Exit->Act->World->Prop}
theorem Ja (l n:Nat) {o:Oper} {a:Act} {w:World} {K K':Act->World->Prop} (s:∀c,o.op≠ .defer c) (d:∀a w,K a w->K' a w) (h:o.wpIn Fence.wide n P a w K Q):o.wpIn (Fence.wide.inRound l) n P a w K' Q:=by
 unfold Oper.wpIn at h⊢
 refine ⟨λ_ _=>trivial,?_⟩
 have h:=h.2
 rw[Oper.semAt_eq _ _ _ s] at h⊢
 generalize (execOp a.eval o).run P w=r at h⊢
 have b:∀row args w' (R k:Value->World->Prop),(∀v w,R v w->k v w)->RowsIn Fence.wide (n - 1) P row args w' R->RowsIn (Fence.wide.inRound l) (n - 1) P row args w' k:=λrow args w' R k t h c cs i=>by
  obtain ⟨v,m,j,u⟩:=h c cs (room_wide _)
  exact ⟨v,m,t _ _ j,u⟩
 cases r with
 | ok x w'=>
   cases x with
   | value v=>exact d _ _ h
   | skip=>exact d _ _ h
   | enter f ar=>exact ⟨λg=>(by cases g),CallsIn.inRound l (h.2.mono λe m q=>by cases e<;>first | exact d _ _ q | exact q)⟩
   | row r ar=>exact ⟨λg=>(by cases g),b _ _ _ _ _ (λ_ _=>d _ _) h.2⟩
   | round l' f y aZ p=>exact ⟨λg=>(by cases g),(show RoundIn Fence.wide _ P l' f y aZ p _ _ from h.2.mono λe m q=>by cases e<;>first | exact d _ _ q | exact q)⟩
   | _=>first | exact h | exact h.elim | exact d _ _ h
 | halt x w'=>
   cases x<;>first | exact h | exact h.elim
def QT (ops:Array Oper):Bool:=ops.toList.all λo=>match o.op with | .defer _=>false | _=>true
theorem Wc (h:QT ops=true) {i:Nat} {o:Oper} (a:ops[i]? =some o):∀c,o.op≠ .defer c:=by
 intro c b
 unfold QT at h
 rw[List.all_eq_true] at h
 have:=h o (by rw[<-Array.getElem?_toList] at a;exact List.mem_of_getElem? a)
 rw[b] at this
 cases this
theorem xVa (l n:Nat) (d:¬ LetsOut Q) (e:QT ops=true) {i:Nat} {a:Act} {w:World} {K:Act->World->Prop} (h:wpOp P ops Q i K a w):wpOpIn (Fence.wide.inRound l) n P ops Q i K a w:=by
 unfold wpOp at h
 unfold wpOpIn
 cases c:ops[i]? with
 | none=>rw[c] at h;exact h
 | some o=>
   rw[c] at h
   simp only at h⊢
   split
   ·rename_i b
    rw[if_pos b] at h
    rcases h with h | ⟨_,h⟩
    ·exact Ja l n (Wc e c) (λ_ _ q=>q) (yF n h)
    ·exact absurd h d
   ·rename_i b
    rw[if_neg b] at h
    exact ⟨λ_ _=>trivial,h⟩
theorem Ky (l n:Nat) (d:¬ LetsOut Q) (c:QT ops=true):∀(b:Nat) (listed:Array Bool) (a:Act) (w:World),wpAny P .any ops Q b listed a w->wpAnyIn (Fence.wide.inRound l) n P .any ops Q b listed a w
 | 0,_,_,_,h=>h
 | b+1,_,_,_,h=>⟨h.1,λi e=>xVa l n d c (wpOp_mono (λf w' h'=>Ky l n d c b _ f w' h') (h.2 i e))⟩
theorem Wd (b n:Nat):∀(l:List Oper) {a:Act} {w:World},(∀o∈l,∀c,o.op≠ .defer c)->wpListIn Fence.wide n P ops Q l a w->wpListIn (Fence.wide.inRound b) n P ops Q l a w
 | [],_,_,_,h=>h
 | o::l,a,w,e,h=>by
   have f:∀a w,wpListIn Fence.wide n P ops Q l a w->wpListIn (Fence.wide.inRound b) n P ops Q l a w:=λa w=>Wd b n l λx g=>e x (.tail _ g)
   unfold wpListIn at h⊢
   split
   ·rename_i d
    rw[if_pos d] at h
    exact Ja b n (e o (.head _)) f h
   ·rename_i d
    rw[if_neg d] at h
    exact ⟨λ_ _=>trivial,f _ _ h.2⟩
end
section
variable {P:Program} {N b:Nat} {T:Env} {h:List Ob} {c c':Code} {ops:Array Oper} {Q Q':jv}
def RWp (P:Program) (N b l:Nat) (c:Code) (Q:jv) (T:Env) (h:List Ob):Prop:=
 ∀(φ:Nat->Ob),Upto φ h.length->∀(w:World) (g:Gh) (a:Act),Rel N ⟨b,[]⟩ w g (fill φ h) a T->c.wpIn (Fence.wide.inRound l) 0 P (λe f w'=>∃d h',Q e d h'/\Aft N ⟨b,[]⟩ φ w g h d h' f w') a w
theorem Jsa {l:Nat} (k:RWp P N b l c (vO (RWp P N b l c' Q) Q) T h):RWp P N b l (.seq c c') Q T h:=λφ i w g a r=>by
 refine wpIn_seq (Code.wpIn_mono (λe u w' ⟨s,h',f,d⟩=>?_) (k φ i w g a r))
 have q:=d.len
 cases e<;>first
  | (obtain ⟨g',m,p,v⟩:=d;exact Code.wpIn_mono (λ_ _ _ ⟨o,n,j,t⟩=>⟨o,n,j,t.trans m v⟩) (f φ (i.mono q) w' g' u p))
  | exact ⟨s,h',f,d⟩
theorem YG {l id:Nat} (k:RWp P N b l c (y9 id Q) T h):RWp P N b l (.block id c) Q T h:=λφ n w g a r=>by
 refine wpIn_block (Code.wpIn_mono (λe o w' ⟨j,h',d,m⟩=>?_) (k φ n w g a r))
 cases e with
 | exit i=>
   simp only[y9] at d
   simp only[Exit.inBlock]
   split
   ·rename_i f;rw[if_pos f] at d;exact ⟨j,h',d,m⟩
   ·rename_i f;rw[if_neg f] at d;exact ⟨j,h',d,m⟩
 | _=>exact ⟨j,h',d,m⟩
theorem Zu {l id:Nat} (e:ops.toList.all (xq N)=true) (f:QT ops=true) (k:wpR P ops (Q .normal) ops.toList T h):RWp P N b l (.region id ops false) Q T h:=λφ m w g a r=>by
 refine wpIn_region ?_
 rw[List.range_eq_range', <-Array.length_toList,wpOpsIn_eq_wpListIn ops.toList 0 (by simp)]
 refine Wd l 0 ops.toList (λo c=>?_) (wx ops.toList e m (qCa _ k) r λj h' w' n k' q=>⟨j,h',k',q⟩)
 obtain ⟨i,d⟩:=List.mem_iff_getElem?.1 c
 exact Wc f (i:=i) (by rw[<-Array.getElem?_toList];exact d)
theorem Zsa {l id:Nat} (E:P.follows .mixedOrders=true) (L:List Ob) (k:Nat) (c:List Ent) (O:L=List.replicate k .res) (W:ops.toList.all (xq N)=true) (f:Vy ops k c=true) (X:QT ops=true) (s:∀T h,¬ Q .outgrown T h) (J:wpQ P ops h.length (Q .normal) c T (h++L)):RWp P N b l (.region id ops true) Q T h:=λφ A w g a r=>by
 have kk:=yTa _ (O▸J)
 simp only[Vy,Bool.and_eq_true,List.all_eq_true,decide_eq_true_eq,List.contains_eq_mem,List.mem_range] at f
 obtain ⟨⟨⟨⟨⟨G,I⟩,B⟩,V⟩,Y⟩,v⟩:=f
 have m:=Good.drew (g:=g) r.ok r.hB
 have z:=XF m.size k m.ok
 have u:=m.trans z
 have y:fill φ (h++List.replicate k .res)=fill φ h++List.replicate k .res:=qR A
 rw[<-y] at u
 have D:Rel N ⟨b,[]⟩ w.drew g (fill φ (h++List.replicate k .res)) a T:=⟨u.ok,u.size,λi=>AR.le u.le _ _ (r.t i),r.d,r.n⟩
 refine wpIn_region_any E (Ky l 0 ?_ X _ _ _ _ ?_)
 ·rintro ⟨a1,w1,T1,h1,C,_⟩
  exact s _ _ C
 have R:Rest ops (Array.replicate ops.size false) c:=by
  refine ⟨by simp,Y,λi j=>?_,yx c G,λq s=>⟨k,B q s⟩,λi o x M=>?_⟩
  ·simp[Array.getD_eq_getD_getElem?,j]
   have:=V i j
   simpa using this
  ·have j:i<ops.size:=by
    rcases Nat.lt_or_ge i ops.size with h | h
    ·exact h
    ·rw[Array.getElem?_eq_none h] at x;cases x
   simp[Array.getD_eq_getD_getElem?,j] at M
 refine Yq (K:=Q .normal) A I W ops.size _ c v R (by simp) (λq s o x U=>?_) kk D λF h' w' g' a' k' Z S q=>⟨F,h',k',g',λi j=>?_,S,u.trans q⟩
 ·obtain ⟨o',e,_,_,H,_⟩:=wH (B q s)
  rw[x] at e
  injection e with e
  subst e
  have:=H U
  rw[List.getElem?_append_right (by omega),Nat.add_sub_cancel_left,List.getElem?_replicate,if_pos this]
 ·have p:=(List.getElem?_eq_some_iff.1 j).1
  exact Z i p (by rw[List.getElem?_append_left p];exact j)
abbrev yR:=Exit->List Deferred->Env->List Ob->Prop
def Q5 (P:Program) (N b:Nat) (ds:List Deferred) (c:Code) (Q:yR) (T:Env) (h:List Ob):Prop:=
 ∀ (φ:Nat->Ob),Upto φ h.length->∀(w:World) (g:Gh) (a:Act),Rel N ⟨b,ds⟩ w g (fill φ h) a T->
   c.wp P (λe i w'=>∃d f h',Q e d f h'/\∃g',ResK h h'/\Rel N ⟨b,d⟩ w' g' (fill φ h') i f/\Good b w g (fill φ h) w' g' (fill φ h')) a w
variable {ds:List Deferred} {X X':yR}
theorem k2a (k:AWp P N ⟨b,ds⟩ c Q T h) (l:∀e T h,Q e T h->X e ds T h):Q5 P N b ds c X T h:=λφ n w g a r=>
 wp_mono (k φ n w g a r) λe o w' ⟨i,h',j,g',m,f,d⟩=>⟨ds,i,h',l _ _ _ j,g',m,f,d⟩
def Wua (K:List Deferred->Env->List Ob->Prop) (X:yR):yR
 | .normal,ds,T,h=>K ds T h
 | e,ds,T,h=>X e ds T h
theorem We (k:Q5 P N b ds c (Wua (λd T h=>Q5 P N b d c' X T h) X) T h):Q5 P N b ds (.seq c c') X T h:=λφ n w g a r=>by
 refine wp_seq (wp_mono (k φ n w g a r) λe x w' ⟨d,u,h',m,g',j,l,i⟩=>?_)
 have t:h.length<=h'.length:=wE i
 cases e<;>first
  | exact wp_mono (m φ (n.mono t) w' g' x l) λ_ _ _ ⟨f,s,p,o,q,v,z3,z4⟩=>⟨f,s,p,o,q,j.trans v,z3,i.trans z4⟩
  | exact ⟨d,u,h',m,g',j,l,i⟩
theorem Kz {id:Nat} (k:Q5 P N b ds c (λe d T h=>e= .normal/\X .normal d T h) T h):Q5 P N b ds (.block id c) X T h:=λφ m w g a r=>by
 refine wp_block (wp_mono (k φ m w g a r) λe n w' ⟨d,i,h',⟨f,j⟩,l⟩=>?_)
 subst f
 exact ⟨d,i,h',j,l⟩
end
section
variable {P:Program}
theorem q4a {g:Operand} {k:Array Tmp} {assign body:Code} {Q:Exit->Act->World->Prop} {a:Act} {w:World} {n c:Nat} {i:Array Value}
  (q:a.eval g= .func (.func c) #[] i) (o:∀args w,(callFunc c args).run P w= .ok (.enter c args) w)
  (h:∀(fn:FuncId) (rec:LoopState->Option Code->Loop),rec=(λst j=>{ state:=st,pending:=j,fn,tmps:=a.tmps,params:=k,assign,body,defers:=w.heap.size })->
   CallsIn Fence.wide (n - 1) P c (#[.func (.yield (w.heap.size+1)) #[] #[]]++i) ((w.alloc (.deferred (some []))).alloc (.loop (rec .ready none))) λe l=>(∃v,e= .returned v)/\
    l.heap[w.heap.size+1]? =some (.loop (rec .ready none))/\Q .normal { a with defers:={ target:= .collected w.heap.size,args:= #[] }::a.defers } (l.putObj (w.heap.size+1) (.loop (rec .exhausted none)))):
  (Code.rangeFunc g k assign body).wpIn Fence.wide n P Q a w:=by
 refine wpIn_rangeFunc ?_
 intro fn m
 obtain ⟨rec,b⟩:∃rec:LoopState->Option Code->Loop,rec=λst j=>{ state:=st,pending:=j,fn,tmps:=a.tmps,params:=k,assign,body,defers:=w.heap.size }:=⟨_,rfl⟩
 obtain ⟨d,f⟩:∃d,(w.alloc (.deferred (some []))).alloc (.loop (rec .ready none))=d:=⟨_,rfl⟩
 have h:=h fn rec b
 rw[f] at h
 refine ⟨w.heap.size+1,[{ target:= .collected w.heap.size,args:= #[] }],d,{ target:= .fn (.func c) i,args:= #[.func (.yield (w.heap.size+1)) #[] #[]] },d,c,
  #[.func (.yield (w.heap.size+1)) #[] #[]]++i,d,?_,?_,?_,?_,λh=>(by cases h),?_⟩
 ·rw[<-f,b];exact run_enterLoop_outer _ _ _ _ _
 ·simp only[resolve,q]
  simp[go_sem]
 ·intro t _;exact trivial
 ·simp[invoke,go_sem,o]
 ·refine h.mono ?_
  rintro e s ⟨⟨v,rfl⟩,p,r⟩
  exact ⟨none,_,by have:=run_endLoop (P:=P) p (by rw[b];simp);rw[b] at this ⊢;exact this,r⟩
end
def KeepB (n:Nat) (h h':List Ob):Prop:=∀(j:Nat) (ty:TypeId) (cs:List AV),n<=j->h[j]? =some (.box ty cs)->h'[j]? =some (.box ty cs)
theorem KeepB.trans {n:Nat} {a b c:List Ob} (h:KeepB n a b) (k:KeepB n b c):KeepB n a c:=λj ty cs d q=>k j ty cs d (h j ty cs d q)
theorem KeepB.raw {n i:Nat} {a:List Ob} {l o ks us o'} (b:a[i]? =some (.raw l o ks us)):KeepB n a (a.set i (.raw l o' ks us)):=λj ty cs _ q=>by
 have:i≠j:=λe=>by rw[e,q] at b;cases b
 rw[List.getElem?_set_ne this];exact q
theorem KeepB.mono {n m:Nat} {a b:List Ob} (h:KeepB n a b) (c:n<=m):KeepB m a b:=λj ty cs d q=>h j ty cs (by omega) q
def KCa (P:Program) (c:FuncId) (b:List AV) (Rd:List Ob->Prop) (xs:List AV):Prop:=
 ∀ (l:Nat) (K:Nat->List Ob->Prop) (a:List Ob),K 0 a->(∀i h' M,NoRes M->K i h'->K i (h'++M))->(∀i h',K i h'->Rd h')->(∃h',K xs.length h'/\ResK a h')->(∀i h',K i h'->a.length<=h'.length)->
   (∀i x h',xs[i]? =some x->K i h'->Vn P l [x] h' λh''=>K (i+1) h''/\KeepB a.length h' h'')->ACalls P c (.v (.func (.yield l) #[] #[])::b) a λ_ h'=>K xs.length h'
def RawK (h h':List Ob):Prop:=∀(j l:Nat) (o:Obj) (ks:List AV) (us:List Value),h[j]? =some (.raw l o ks us)->h'[j]? =some (.raw l o ks us)
def Zta (N:Nat) (T:Env):Env:=λi=>if i<N then T i else .bad
theorem Zua (N:Nat) (T:Env) (i:Nat):Zta N T i=if i<N then T i else .bad:=id rfl
section
variable {P:Program} {N b:Nat} {T:Env} {h:List Ob} {ds:List Deferred}
theorem wsa {T:Env} {c:Ctx} {a:Act} (g:kU c T a):∀(n:Nat) (us:List Value),us.length=n->(∀i,i<n->us[i]? =some (a.tmps.getD i undef))->ARs c ((List.range n).map T) us:=λn us h j=>
 j1a (by simp[h]) λk x b=>by
  rw[List.getElem?_map] at b
  cases e:(List.range n)[k]? with
  | none=>rw[e] at b;cases b
  | some i=>
    rw[e] at b
    injection b with b
    obtain ⟨f,d⟩:=List.getElem?_eq_some_iff.1 e
    rw[List.getElem_range] at d
    subst d b
    rw[List.length_range] at f
    exact ⟨_,j _ f,g k⟩
theorem wta {T:Env} {c:Ctx}:∀ {n:Nat} {us:List Value},ARs c ((List.range n).map T) us->us.length=n/\∀i,i<n->∃u,us[i]? =some u/\AR c (T i) u:=λ{n us} k=>by
 have b:=kC k
 rw[List.length_map,List.length_range] at b
 refine ⟨b.symm,λi d=>?_⟩
 obtain ⟨u,e,a⟩:=vM k i (by simpa using d)
 refine ⟨u,e,?_⟩
 have:nth ((List.range n).map T) i=T i:=JS (by rw[List.getElem?_map,List.getElem?_range d];rfl)
 rw[this] at a
 exact a
theorem Zva {b:FuncId} (k1:Vm P b=true):∀args w,(callFunc b args).run P w= .ok (.enter b args) w:=λargs w=>by
 have a:∃fn,P.funcs[b]? =some fn/\fn.name≠ "runtime.NumGoroutine" /\fn.body.isSome=true:=by
  unfold Vm at k1
  split at k1
  ·rename_i fn a
   simp only[Bool.and_eq_true,bne_iff_ne,ne_eq] at k1
   exact ⟨fn,a,k1.1,k1.2⟩
  ·cases k1
 obtain ⟨fn,d,e,f⟩:=a
 have f5:(fn.name== "runtime.NumGoroutine")=false:=by simpa using e
 have g:fn.body.isNone=false:=by cases c:fn.body<;>simp[c] at f⊢
 simp only[callFunc,Sem.run_bind,run_program,d,g,f5,Bool.false_eq_true,if_false,Result.andThen_ok,Sem.run_pure]
theorem wua {n m l:Nat} {f:FuncId} {tmps:Array Value} {assign body:Code} {w:World} {R:Ending->World->Prop} (k:RoundIn Fence.wide n P l f tmps assign body w R):RoundIn Fence.wide m P l f tmps assign body w R:=
 ⟨k.1,λc cs _=>k.2 c cs (room_wide _)⟩
theorem Wf {p:Nat} {g:Operand} {assign body:Code} {gf:FuncId} {lb:List AV} {xs:List AV} (hp:p<N) (hok1:Vm P gf=true) (hg:ev T g= .fn (.func gf) [] lb) {Rd:List Ob->Prop} (hseq:KCa P gf lb Rd xs)
  (K:Nat->List Ob->Prop) (Q:Nat->AV->Env->List Ob->Prop)
  (hK0:∀M,NoRes M->K 0 (h++M)) (happ:∀i h' M,NoRes M->K i h'->K i (h'++M)) (hrd:∀i h',K i h'->Rd h') (ν:∀M,NoRes M->∃h',K xs.length h'/\ResK (h++M) h'/\RawK (h++M) h')
  (U:∀i h' j l o ks us o',h.length<=j->K i h'->h'[j]? =some (.raw l o ks us)->K i (h'.set j (.raw l o' ks us)))
  (γ:∀i x H c j l o ks us o',h.length<=j->Q i x H c->c[j]? =some (.raw l o ks us)->Q i x H (c.set j (.raw l o' ks us)))
  (hass:∀b l i x h',xs[i]? =some x->K i h'->RWp P N b l assign (λe H c=>e= .normal/\Q i x H c/\RawK h' c/\KeepB h.length h' c) (upd (Zta N T) p x) h')
  (ζ:∀b l i x H c,xs[i]? =some x->Q i x H c->RWp P N b l body (λe _ h3=>e= .normal/\K (i+1) h3/\RawK c h3/\KeepB h.length c h3) H c):
  Q5 P N b ds (.rangeFunc g #[p] assign body) (λe ds' T' h'=>e= .normal/\T'=T/\∃D id:Nat,ds'=⟨.collected D, #[]⟩::ds/\h.length<=id/\h'[id]? =some (.raw D (.deferred (some [])) [] [])/\K xs.length h') T h:=λφ hu w g0 a r=>by
 have hgv:=qJ r.t g
 rw[hg] at hgv
 obtain ⟨us0,Y,e1,e2,e3⟩:=hgv
 have e2:us0.toList=[]:=e2
 have e2:us0= #[]:=by simpa using e2
 subst e2
 refine (wpIn_wide (n:=1)).1 (q4a e1 (Zva hok1) ?_)
 intro fn rec C
 obtain ⟨D,hD⟩:∃D,D=w.heap.size:=⟨_,rfl⟩
 obtain ⟨l,hl⟩:∃l,l=D+1:=⟨_,rfl⟩
 obtain ⟨ks,υ⟩:∃ks,ks=(List.range N).map T:=⟨_,rfl⟩
 obtain ⟨us,hus⟩:∃us,us=a.tmps.toList:=⟨_,rfl⟩
 have hark:ARs (ctx w g0 (fill φ h)) ks us:=by
  rw[υ,hus]
  refine wsa r.t N _ (by rw[Array.length_toList];exact r.n) λi hi=>?_
  rw[Array.getElem?_toList,Array.getD_eq_getD_getElem?]
  rw[Array.getElem?_eq_getElem (by rw[r.n];exact hi)]
  rfl
 have k1:=Vd (g:=g0) r.ok r.hB (.deferred (some [])) (ks:=[]) (us:=[]) rfl
 have k2:=Vd k1.ok k1.size (.loop (rec .ready none)) (ARs.le k1.le _ _ hark)
 have k12:=k1.trans k2
 rw[<-hD] at k12
 have hs1:(w.alloc (.deferred (some []))).heap.size=l:=by rw[World.size_alloc,hl,hD]
 rw[hs1] at k12
 obtain ⟨L,y⟩:∃L,L=h++[.raw D (.deferred (some [])) [] [],.raw l (.loop (rec .ready none)) ks us]:=⟨_,rfl⟩
 have hfl:fill φ L=fill φ h++[.raw D (.deferred (some [])) [] []]++[.raw l (.loop (rec .ready none)) ks us]:=by rw[y,qR hu];simp
 rw[<-hfl] at k12
 obtain ⟨W1,hW1⟩:∃W1,W1=(w.alloc (.deferred (some []))).alloc (.loop (rec .ready none)):=⟨_,rfl⟩
 rw[<-hW1] at k12⊢
 have hp1:Pre h L:=⟨_,y,zg rfl (zi rfl)⟩
 have δ:L.length=h.length+2:=by rw[y];simp
 have z:∀st O,(Loop.params (rec st O))= #[p]/\(rec st O).tmps=a.tmps/\(rec st O).assign=assign/\(rec st O).body=body/\(rec st O).state=st/\(rec st O).pending=O/\(rec st O).fn=fn:=λst O=>by rw[C];exact ⟨rfl,rfl,rfl,rfl,rfl,rfl,rfl⟩
 obtain ⟨KK,s⟩:∃KK:Nat->List Ob->Prop,KK=λi h'=>K i h'/\h'[h.length]? =some (.raw D (.deferred (some [])) [] [])/\h'[h.length+1]? =some (.raw l (.loop (rec .ready none)) ks us):=⟨_,rfl⟩
 have hy:∀i x h',xs[i]? =some x->KK i h'->Vn P l [x] h' λh''=>KK (i+1) h''/\KeepB L.length h' h'':=by
  intro i x h' hx ψ I ο B' w' g' vs hh hB hvs
  rw[s] at ψ
  obtain ⟨q1,W,q3⟩:=ψ
  obtain ⟨v,r0,rfl,hv,θ⟩:=hvs
  have θ:r0=[]:=θ
  subst θ
  obtain ⟨hb1,hb2,hb3⟩:=hh.ok _ _ (zN (φ:=I) q3 rfl)
  have τ:=run_yield (P:=P) (w:=w') (args:= #[v]) hb2 (by rw[(z _ _).1];rfl)
  rw[(z _ _).1,(z _ _).2.1,(z _ _).2.2.1,(z _ _).2.2.2.1,(z _ _).2.2.2.2.2.2] at τ
  refine ⟨_,_,_,_,τ,λm=>wua (n:=0) (roundIn_of_wpIn trivial ?_)⟩
  have htm:((#[p].zip #[v]).foldl (λtmps (t,a)=>tmps.setIfInBounds t a) a.tmps:Array Value)=a.tmps.setIfInBounds p v:=by simp
  have hT2:kU (ctx w' g' (fill I h')) (Zta N T) a:=λi=>by
   unfold Zta
   split
   ·rename_i hi
    rw[υ] at hb3
    obtain ⟨u,z1,z2⟩:=(wta hb3).2 i hi
    rw[hus,Array.getElem?_toList] at z1
    rw[Array.getD_eq_getD_getElem?,z1]
    exact z2
   ·trivial
  have F:Rel N ⟨B',[]⟩ w' g' (fill I h') ⟨a.tmps.setIfInBounds p v,[]⟩ (upd (Zta N T) p x):=
   ⟨hh,hB,kMa (a:=a) hT2 hv (by rw[r.n];exact hp),rfl,by simp[r.n]⟩
  refine Code.wpIn_mono ?_ (hass B' l i x h' hx q1 I ο w' g' _ (by first | (rw[htm];exact F) | simpa using F))
  rintro e a1 w1 ⟨H,c,⟨rfl,hmid,ξ,hkb⟩,g2,qk1,ε,E⟩
  have A:=ξ _ _ _ _ _ q3
  have ι:=E.ok.ok _ _ (zN (φ:=I) A rfl)
  have Z:{ rec .ready none with state:= .busy }=rec .busy none:=by rw[C]
  refine ⟨_,run_beginRound ι.2.1 (z _ _).2.2.2.2.1,?_⟩
  rw[Z]
  have kt:=yD E.ok E.size (zN (φ:=I) A rfl) (.loop (rec .busy none))
  rw[<-qn rfl] at kt
  have R:h.length+1<c.length:=(List.getElem?_eq_some_iff.1 A).1
  have β:Rel N ⟨B',[]⟩ (w1.putObj l (.loop (rec .busy none))) g2 (fill I (c.set (h.length+1) (.raw l (.loop (rec .busy none)) ks us))) a1 H:=⟨kt.ok,kt.size,λi=>AR.le kt.le _ _ (ε.t i),ε.d,ε.n⟩
  refine Code.wpIn_mono ?_ (ζ B' l i x H _ hx (γ _ _ _ _ _ _ _ _ _ _ (by omega) hmid A) I (ο.mono (by rw[List.length_set];exact wE E)) _ g2 a1 β)
  rintro e a2 w3 ⟨T3,h3,⟨rfl,hk3,S,σ⟩,g3,qk2,qr2,J⟩
  have q3s:(c.set (h.length+1) (.raw l (.loop (rec .busy none)) ks us))[h.length+1]? =some (.raw l (.loop (rec .busy none)) ks us):=List.getElem?_set_self R
  have B:=S _ _ _ _ _ q3s
  have α:=J.ok.ok _ _ (zN (φ:=I) B rfl)
  have V:=run_endRound (P:=P) none α.2.1
  have hrdy:{ rec .busy none with state:=if (none:Option Code).isNone then .ready else .done,pending:=none }=rec .ready none:=by rw[C];rfl
  rw[hrdy] at V
  refine ⟨_,_,V,?_⟩
  have ω:=yD J.ok J.size (zN (φ:=I) B rfl) (.loop (rec .ready none))
  rw[<-qn rfl] at ω
  have hd1:=ξ _ _ _ _ _ W
  have hd2:(c.set (h.length+1) (.raw l (.loop (rec .busy none)) ks us))[h.length]? =some (.raw D (.deferred (some [])) [] []):=by
   rw[List.getElem?_set_ne (by omega)];exact hd1
  have hd3:=S _ _ _ _ _ hd2
  have ρ:h.length+1<h3.length:=(List.getElem?_eq_some_iff.1 B).1
  refine ⟨h3.set (h.length+1) (.raw l (.loop (rec .ready none)) ks us),g3,rfl,⟨?_,((((hkb.trans (.raw A)).trans σ).trans (.raw B)).mono (by rw[δ];omega))⟩,?_,(E.trans kt).trans (J.trans ω)⟩
  ·rw[s]
   exact ⟨U _ _ _ _ _ _ _ _ (by omega) hk3 B,by rw[List.getElem?_set_ne (by omega)];exact hd3,List.getElem?_set_self ρ⟩
  ·exact ((qk1.trans (zC A rfl)).trans qk2).trans (zC B rfl)
 have hc:=hseq l KK L
  (by rw[s];exact ⟨by rw[y];exact hK0 _ (zg rfl (zi rfl)),by rw[y,zo rfl];rfl,by rw[y,zm (k:=1) rfl];rfl⟩)
  (λi h' M hM q=>by
   rw[s] at q⊢
   obtain ⟨q1,W,q3⟩:=q
   exact ⟨happ i h' M hM q1,zb W,zb q3⟩) (λi h' q=>by rw[s] at q;exact hrd i h' q.1)
  (by
   obtain ⟨h',z1,z2,z3⟩:=ν [.raw D (.deferred (some [])) [] [],.raw l (.loop (rec .ready none)) ks us] (zg rfl (zi rfl))
   rw[s]
   exact ⟨h',⟨z1,z3 _ _ _ _ _ (by rw[zo rfl];rfl),z3 _ _ _ _ _ (by rw[zm (k:=1) rfl];rfl)⟩,by rw[y];exact z2⟩)
  (λi h' q=>by
   rw[s] at q
   have:=(List.getElem?_eq_some_iff.1 q.2.2).1
   omega) hy
 have η:ARs (ctx W1 g0 (fill φ L)) (.v (.func (.yield l) #[] #[])::lb) (Value.func (.yield l) #[] #[]::Y.toList):=⟨_,_,rfl,rfl,ARs.le k12.le _ _ e3⟩
 have G:=hc.2.2 φ (hu.mono hp1.len) b W1 g0 _ k12.ok k12.size η
 refine callsIn_wide.2 ?_
 have harr:(Value.func (.yield l) #[] #[]::Y.toList).toArray= #[.func (.yield (w.heap.size+1)) #[] #[]]++Y:=by
  rw[hl,hD];simp
 rw[harr] at G
 refine G.mono λe W2 ⟨v,_,c,g2,q1,W,q5,q6,_⟩=>⟨⟨v,q1⟩,?_⟩
 rw[s] at W
 obtain ⟨W,q3,B⟩:=W
 have hraw:=q6.ok.ok _ _ (zN (φ:=φ) B rfl)
 have X:=yD q6.ok q6.size (zN (φ:=φ) B rfl) (.loop (rec .exhausted none))
 rw[<-qn rfl] at X
 rw[<-hD, <-hl]
 have R:h.length+1<c.length:=(List.getElem?_eq_some_iff.1 B).1
 have f:=(k12.trans q6).trans X
 refine ⟨hraw.2.1,_,T,c.set (h.length+1) (.raw l (.loop (rec .exhausted none)) ks us),⟨rfl,rfl,D,h.length,rfl,Nat.le_refl _,by rw[List.getElem?_set_ne (by omega)];exact q3,U _ _ _ _ _ _ _ _ (by omega) W B⟩,g2,?_,?_,f⟩
 ·have:ResK h L:=by rw[y];exact zR
  exact (this.trans q5).trans (zC B rfl)
 ·exact ⟨f.ok,f.size,λi=>AR.le f.le _ _ (r.t i),by simp[r.d],r.n⟩
theorem k3a:∀ {ar:List AV} {i:Nat},ar.length<=i->nth ar i= .bad
 | [],_,_=>rfl
 | x::ar,0,h=>absurd h (Nat.not_succ_le_zero _)
 | x::ar,i+1,h=>k3a (ar:=ar) (Nat.le_of_succ_le_succ h)
theorem Jta {B:Nat} {w:World} {g:Gh} {a:Act} {fn:Func} {r:AV} (p:HOk B w g h) (hB:B<=w.heap.size) (s:kU (ctx w g h) T a) (b:KR P T h fn.results.toList=some r):∃v,(results fn a.tmps).run P w= .ok v w/\AR (ctx w g h) r v:=by
 unfold KR at b
 cases i:vZ P T h fn.results.toList with
 | none=>rw[i] at b;cases b
 | some xs=>
   rw[i] at b
   injection b with b
   obtain ⟨us,l,j⟩:=Za p hB s _ xs i
   have m:(fn.results.mapM (vEa a.tmps)).run P w= .ok us.toArray w:=by
    rw[Array.mapM_eq_mapM_toList]
    simp[l]
   have c:(results fn a.tmps).run P w= .ok (if h:us.toArray.size=1 then us.toArray[0] else .tuple us.toArray) w:=by
    rw[Vq,Sem.run_bind,m]
    rfl
   refine ⟨_,c,?_⟩
   have o:=kC j
   unfold QMa at b
   split at b
   ·rename_i x
    subst b
    obtain ⟨u,q,n,k,f⟩:=j
    have f:q=[]:=f
    subst f n
    simpa using k
   ·rename_i e
    subst b
    rw[dif_neg]
    ·exact ⟨us.toArray,rfl,by simpa using j⟩
    ·intro d
     have d:us.length=1:=by simpa using d
     rw[<-o] at d
     match xs,d with
     | [x],_=>exact e x rfl
def Wva (P:Program) (rs:List ResultVar) (h:List Ob) (R:AV->Prop):yR:=λe ds T h'=>
 (e= .ret∨e= .normal)/\(ds=[]∨∃D id:Nat,ds=[⟨.collected D, #[]⟩]/\h.length<=id/\h'[id]? =some (.raw D (.deferred (some [])) [] []))/\Pre h h'/\(∃r,(∀a,KR P T a rs=some r)/\r.lt h.length=true/\R r)
theorem KA {f:FuncId} (fn:Func) {c:Code} {ar:List AV} {R:AV->Prop} (rs:List ResultVar) (N:Nat) (Y:P.funcs[f]? =some fn) (hb:fn.body=some c) (hN:fn.ntmps=N) (Q:fn.results.toList=rs) (V:ar.length.ble N=true) (K:Vm P f=true) (hex:∃r,R r)
  (k:∀b,Q5 P N b [] c (Wva P rs h R) (nth ar) h):ACalls P f ar h λr h'=>R r/\h'=h:=by
 subst hN Q
 have V:=Nat.le_of_ble_eq_true V
 refine ⟨K,(let ⟨r,q⟩:=hex;⟨r,h,⟨q,rfl⟩,.refl⟩),λφ T B w g vs W hB a=>?_⟩
 have X:=kC a
 refine (callsIn_wide (n:=0)).1 (callsIn_of_wp_marks (F:=Fence.wide) Y hb trivial (wpIn_wide.2 ?_))
 have y:Rel fn.ntmps ⟨B,[]⟩ w g (fill φ h) { tmps:=vs.toArray++Array.replicate (fn.ntmps - vs.toArray.size) undef,defers:=[] } (nth ar):=by
  refine ⟨W,hB,λi=>?_,rfl,by simp;omega⟩
  by_cases hi:i<ar.length
  ·obtain ⟨u,e1,e2⟩:=vM a i hi
   have:(vs.toArray++Array.replicate (fn.ntmps - vs.toArray.size) undef).getD i undef=u:=by
    rw[Array.getD_eq_getD_getElem?,Array.getElem?_append_left (by simp;omega)]
    simp[e1]
   simp only[this]
   exact e2
  ·rw[k3a (by omega)]
   trivial
 refine wp_mono (k B φ T w g _ y) λe E w' ⟨ds,Z,h',⟨he,M,s,⟨r,O,I,J⟩⟩,g',ek,G,x⟩=>?_
 obtain ⟨L,rfl,hL⟩:=s
 have fin:∀(m:World) (C:List Ob),Good B w g (fill φ h) m g' (fill φ C)->kU (ctx m g' (fill φ C)) Z E->(∃L2,C=h++L2)->∃v,(results fn E.tmps).run P m= .ok v m/\∃v' S h'' g'',Ending.returned v= .returned v'/\(R S/\h''=h)/\ResK h h''/\Good B w g (fill φ h) m g'' (fill φ h'')/\AR (ctx m g'' (fill φ h'')) S v':=by
  rintro m C l H ⟨L2,rfl⟩
  obtain ⟨v,p,o⟩:=Jta (fn:=fn) l.ok l.size H (O _)
  rw[qR T] at l o
  refine ⟨v,p,v,r,h,g',rfl,⟨J,rfl⟩,.refl,l.drop rfl (by have:=W.ids;exact this),AR.less (xx m g' (fill φ h) L2) _ _ (by rw[qm];exact I) o⟩
 have main:LeavesInM Fence.wide 0 P fn E.tmps (λe w'=>∃v r h' g',e= .returned v/\(R r/\h'=h)/\ResK h h'/\Good B w g (fill φ h) w' g' (fill φ h')/\AR (ctx w' g' (fill φ h')) r v) E.defers .returning w':=by
  rw[G.d]
  rcases M with rfl | ⟨D,id,rfl,z,U⟩
  ·obtain ⟨v,p,o⟩:=fin w' _ x G.t ⟨L,rfl⟩
   exact ⟨v,p,o⟩
  ·have A:=x.ok.ok _ _ (zN (φ:=φ) U rfl)
   have j:=yD x.ok x.size (zN (φ:=φ) U rfl) (.deferred none)
   rw[<-qn rfl] at j
   obtain ⟨v,p,o⟩:=fin _ _ (x.trans j) (λi=>AR.le j.le _ _ (G.t i)) ⟨L.set (id - h.length) _,by rw[List.set_append_right _ _ z]⟩
   exact ⟨by simp,.inl ⟨D,_,rfl,run_takeDeferred A.2.1,v,p,o⟩⟩
 rcases he with rfl | rfl
 ·exact main
 ·exact main
end
theorem KeepB.app {n:Nat} {a M:List Ob}:KeepB n a (a++M):=λj ty cs _ q=>zb q
theorem KeepB.setL {n i:Nat} {a:List Ob} {o:Ob} (c:i<n):KeepB n a (a.set i o):=λj ty cs b q=>by
 rw[List.getElem?_set_ne (by omega)];exact q
theorem KeepB.setR {n i:Nat} {a:List Ob} {o:Ob} {ty e rows st} (b:a[i]? =some (.row ty e rows st)):KeepB n a (a.set i o):=λj ty cs c q=>by
 have:i≠j:=λe=>by rw[e,q] at b;cases b
 rw[List.getElem?_set_ne this];exact q
theorem RawK.trans {a b c:List Ob} (h:RawK a b) (k:RawK b c):RawK a c:=λj l o ks us q=>k j l o ks us (h j l o ks us q)
theorem RawK.app {a M:List Ob}:RawK a (a++M):=λj l o ks us q=>zb q
theorem RawK.setB {i:Nat} {a:List Ob} {o:Ob} {ty cs} (b:a[i]? =some (.box ty cs)):RawK a (a.set i o):=λj l _ ks us q=>by
 have:i≠j:=λe=>by rw[e,q] at b;cases b
 rw[List.getElem?_set_ne this];exact q
theorem RawK.setR {i:Nat} {a:List Ob} {o:Ob} {ty e rows st} (b:a[i]? =some (.row ty e rows st)):RawK a (a.set i o):=λj l _ ks us q=>by
 have:i≠j:=λe=>by rw[e,q] at b;cases b
 rw[List.getElem?_set_ne this];exact q
section
variable {F:List (Nat × Ob)} {h0 h:List Ob} {i bty ty e:Nat} {rows rows':List (List AV)}
theorem LIn.raw (k:LIn F h0 h i bty ty e rows) {j l o ks us o'} (n:h0.length<=j) (a:h[j]? =some (.raw l o ks us)):LIn F h0 (h.set j (.raw l o' ks us)) i bty ty e rows:=by
 obtain ⟨k1,k2,k3,x,k4,k5⟩:=k
 have f:∀(z:Nat) t cs,h[z]? =some (.box t cs)->(h.set j (.raw l o' ks us))[z]? =some (.box t cs):=λz t cs q=>by
  have:j≠z:=λe=>by rw[e,q] at a;cases a
  rw[List.getElem?_set_ne this];exact q
 refine ⟨k1.set n rfl,k2,λz b=>⟨(k3 z b).1,(k3 z b).2.1,?_⟩,x,f _ _ _ k4,?_⟩
 ·obtain ⟨r,⟨t,cs,m⟩,d⟩:=k3 z b
  rw[m] at d⊢
  exact f _ _ _ d
 ·rcases k5 with ⟨rfl,p⟩ | ⟨id,st,g,rfl,c⟩
  ·exact .inl ⟨rfl,p⟩
  ·refine .inr ⟨id,st,g,rfl,?_⟩
   have:j≠id:=λe=>by rw[e,c] at a;cases a
   rw[List.getElem?_set_ne this];exact c
theorem LIn.box (k:LIn F h0 h i bty ty e rows):∃x,h[i]? =some (.box bty [x]):=⟨_,k.at_.choose_spec.1⟩
theorem LIn.raws (k:LIn F h0 h i bty ty e rows) {M:List Ob} {o:Ob}:RawK h ((h++M).set i o):=by
 obtain ⟨x,a⟩:=k.box
 exact RawK.app.trans (.setB (zb a))
theorem LIn.raws_own (k:LIn F h0 h i bty ty e rows) {M:List Ob} {o o':Ob} {id:Nat} {b ee:Nat} {a:List (List AV)} {st:Nat} (d:h[id]? =some (.row b ee a st)):RawK h (((h++M).set id o').set i o):=by
 obtain ⟨x,f⟩:=k.box
 have c:id≠i:=λq=>by rw[q,f] at d;cases d
 exact (RawK.app.trans (.setR (zb d))).trans (.setB (by rw[List.getElem?_set_ne c];exact zb f))
theorem LIn.anyR (k:LIn F h0 h i bty ty e rows) (rows':List (List AV)):∃h',LIn F h0 h' i bty ty e rows'/\ResK h h'/\RawK h h':=by
 have q:=k.push_nil (M:=[.row ty e rows' 0]) (zi rfl) (id:=h.length) (Nat.le_refl _) (by rw[zo rfl];rfl)
 exact ⟨_,q,k.pre.resK q.pre,k.raws⟩
end
section
variable {P:Program} {N b:Nat} {T:Env} {h:List Ob} {ds:List Deferred}
def Zwa (P:Program) (N b:Nat) (ds:List Deferred) [x:Held (Code × yR)] (T:Env) (h:List Ob):Prop:=Q5 P N b ds x.it.1 x.it.2 T h
theorem k4a {c:Code} {X:yR} (k:Q5 P N b ds c X T h): @Zwa P N b ds ⟨(c,X)⟩ T h:=k
theorem YH {c:Code} {X Y:yR} (k:Q5 P N b ds c X T h) (j:∀e ds T h,X e ds T h->Y e ds T h):Q5 P N b ds c Y T h:=λφ l w g a r=>
 wp_mono (k φ l w g a r) λe m w' ⟨d,f,h',i,q⟩=>⟨d,f,h',j _ _ _ _ i,q⟩
end
section
variable {P:Program} {N b:Nat} {T:Env} {h:List Ob} {ds:List Deferred}
def xWa (P:Program) (N b:Nat) (ds:List Deferred) [x:Held (Code × yR)]:jv
 | .normal,T,h=> @Zwa P N b ds x T h
 | e,T,h=>x.it.2 e ds T h
theorem Zxa (x:Held (Code × yR)): @xWa P N b ds x .normal T h= @Zwa P N b ds x T h:=id rfl
theorem Zya (c:Code) (X:yR): @xWa P N b ds ⟨(c,X)⟩ .ret T h=X .ret ds T h:=id rfl
attribute [go_sem] Zxa Zya
theorem jK {c c':Code} {X:yR} (a:okC N c=true) (k:wpC P N ⟨b,ds⟩ c (@xWa P N b ds ⟨(c',X)⟩) T h):Q5 P N b ds (.seq c c') X T h:=
 We (k2a (zL _ a k) λe T h q=>by cases e<;>exact q)
theorem YI {c:Code} {X:yR} (a:okC N c=true) (k:wpC P N ⟨b,ds⟩ c (λe T h=>X e ds T h) T h):Q5 P N b ds c X T h:=
 k2a (zL _ a k) λe T h q=>q
theorem Zza {rs:List ResultVar} {h0 h':List Ob} {T:Env} {R:AV->Prop} {ds:List Deferred} (a:ds=[]∨∃D id:Nat,ds=[⟨.collected D, #[]⟩]/\h0.length<=id/\h'[id]? =some (.raw D (.deferred (some [])) [] [])) (f:Pre h0 h') {r:AV} (e:∀b,KR P T b rs=some r) (d:r.lt h0.length=true) (c:R r):Wva P rs h0 R .ret ds T h':=
 ⟨.inl rfl,a,f,⟨r,e,d,c⟩⟩
end
end Go.Proofs.YtfmldcilgbbimaaGreat.Ax
namespace Go.Proofs.YtfmldcilgbbimaaGreat.Ax
open Go Go.Proofs
set_option maxRecDepth 100000
theorem zHa {v:List Spn} {i:Nat} {k:Int} (h:i<v.length):qf k (v.drop i)=(if (v[i]).from_>k then [⟨k,(v[i]).from_⟩] else [])++qf (v[i]).to_ (v.drop (i+1)):=by
 rw[List.drop_eq_getElem_cons h,qf]
theorem YJ {α:Type} {L r:List α} {n:Nat} {x:α} (h:L.drop n=x::r):L[n]? =some x/\L.drop (n+1)=r:=by
 have a:(L.drop n)[0]? =some x:=by rw[h];rfl
 rw[List.getElem?_drop] at a
 refine ⟨a,?_⟩
 rw[<-List.drop_drop,h];rfl
theorem q5a {α:Type} {L:List α} {n:Nat} (h:L.drop n=[]) (a:n<=L.length):n=L.length:=by
 have:(L.drop n).length=0:=by rw[h];rfl
 rw[List.length_drop] at this
 omega
def Wg (s:Spn):AV:= .ag (zH s)
theorem wva (j:Nat) (v:List Spn) (Q:v.length<1048576):KCa Tryz.prog 224 [.ptr j 0] (λh=>h[j]? =some (.box 55 [spv v])) ((qf 0 v).map Wg):=by
 intro l K I s f x p u L
 have hex:∃(r:AV) (h':List Ob),K ((qf 0 v).map Wg).length h'/\ResK I h':=by
  obtain ⟨h',q⟩:=p
  exact ⟨.tup [],h',q⟩
 have M:=x 0 I s
 refine zf Tryz.f224 [] 34 rfl rfl rfl rfl rfl rfl (by decide) (hex) λB=>?_
 simp only[go_sem,M,List.length_map]
 refine zj (by decide) (λm T h'=>∃(i n:Nat) (k:Int),i<=v.length/\n<=(qf 0 v).length/\(qf 0 v).drop n=qf k (v.drop i)/\K n h'/\T 0= .v (.func (.yield l) #[] #[])/\T 3=i64 k/\T 6=spv v/\T 7=i64 v.length/\T 8=i64 i/\m=v.length - i) v.length
  ⟨0,0,0,by omega,by omega,rfl,s,by simp only[go_sem],by simp only[go_sem],by simp only[go_sem],by (simp only[go_sem]<;>rfl),by (simp only[go_sem]<;>rfl),rfl⟩ ?_
 rintro m T h' ⟨i,n,k,P,J,a,g,t0,t3,t6,y,t8,rfl⟩
 simp only[go_sem,y,t8]
 refine ways (λe=>?_) (λe=>?_)
 ·have o:=dlt e
  have d:=Zs o
  have F:(i:Int)<v.length:=by omega
  rw[zHa o] at a
  obtain ⟨z,N⟩:∃z,z=v[i]:=⟨_,rfl⟩
  rw[<-N] at d a
  simp only[go_sem,t3,t6,t8,d,F,List.length_map,Int.toNat_natCast,Int.natCast_nonneg]
  cases q:decide (z.from_>k)
  ·rw[if_neg (of_decide_eq_false q),List.nil_append] at a
   simp only[go_sem,q,t3,t8,zJ]
   exact ⟨v.length - (i+1),by omega,i+1,n,_,by omega,J,a,f _ _ _ (zi rfl) g,t0,rfl,t6,y,zx (by omega) rfl,rfl⟩
  ·rw[if_pos (of_decide_eq_true q)] at a
   obtain ⟨t,D⟩:=YJ a
   have E:n<(qf 0 v).length:=(List.getElem?_eq_some_iff.1 t).1
   simp only[go_sem,q,t0,t3,t8,zJ]
   refine ZY (L n (Wg ⟨k,z.from_⟩) _ (by rw[List.getElem?_map,t];rfl) (f _ _ _ (zi rfl) g)) ?_
   rintro H ⟨c,w⟩
   have A:H[h'.length]? =some (.box 134 (zH z)):=w _ _ _ (u _ _ g) (by rw[zo rfl];rfl)
   simp only[go_sem,q,t0,t3,t8,zJ,A]
   exact ⟨v.length - (i+1),by omega,i+1,n+1,_,by omega,by omega,D,c,rfl,t6,y,zx (by omega) rfl,rfl⟩
 ·have O:=qU e
  have G:i=v.length:=by omega
  subst G
  rw[List.drop_length,qf] at a
  simp only[go_sem,t3]
  refine ways (λC=>?_) (λC=>?_)
  ·rw[if_pos (of_decide_eq_true C)] at a
   obtain ⟨t,D⟩:=YJ a
   have E:n<(qf 0 v).length:=(List.getElem?_eq_some_iff.1 t).1
   simp only[go_sem,t0,t3]
   refine ZY (L n (Wg ⟨k,32054400⟩) _ (by rw[List.getElem?_map,t];rfl) g) ?_
   rintro H ⟨c,_⟩
   have b:n+1=((qf 0 v).map Wg).length:=by
    rw[List.length_map];exact q5a D (by omega)
   rw[b,List.length_map] at c
   simp only[go_sem]
   exact ⟨_,rfl,.inl c⟩
  ·rw[if_neg (of_decide_eq_false C)] at a
   have b:n=((qf 0 v).map Wg).length:=by
    rw[List.length_map];exact q5a a J
   rw[b,List.length_map] at g
   simp only[go_sem]
   exact ⟨_,rfl,.inl g⟩
theorem Jua (h:List Ob) (v:List Spn):ACalls Tryz.prog 175 [spv v] h λr h'=>r= .fn (.func 224) [] [.ptr h.length 0]/\h'=h++[.box 55 [spv v]]:=by
 refine zf Tryz.f175 [.tmp 2] 4 rfl rfl rfl rfl rfl rfl (by decide) (⟨_,_,⟨rfl,rfl⟩,zR⟩) λB=>?_
 simp only[go_sem]
 exact ⟨_,rfl,.inl ⟨rfl,rfl⟩⟩
theorem Jz (h:List Ob) (x y:AV) (a b:List Spn) (f:SlOf h x 2 (a.map zH)) (hy:SlOf h y 2 (b.map zH)) (X:a.length<1048576) (hb:b.length<524288):
  ACalls Tryz.prog 105 [x,y] h λr h'=>r=spv (qx a b)/\h'=h:=by
 refine KA Tryz.f105 [.tmp 4] 18 rfl rfl rfl rfl rfl rfl (⟨_,rfl⟩) λbs=>?_
 refine jK (by decide) ?_
 simp only[go_sem]
 refine jK (by decide) ?_
 simp only[go_sem]
 refine We ?_
 refine jK (by decide) ?_
 simp only[go_sem]
 refine zc (Qk _ y b (hy.app _) (by omega)) ?_
 rintro _ h3 ⟨rfl,rfl⟩
 simp only[go_sem]
 refine zc (Jua _ (zE b)) ?_
 rintro _ h4 ⟨rfl,rfl⟩
 simp only[go_sem]
 have G:(zE b).length<1048576:=by have:=zy b;omega
 obtain ⟨v,T⟩:∃v,v=zE b:=⟨_,rfl⟩
 rw[<-T] at G⊢
 have Y:=Jv v 0
 have W:v.length<524288:=by have:=zy b;rw[T];omega
 have base:LIn [(h.length+1,.box 55 [spv v])] h (h++[.box 55 [.v (.slice none 0 0)],.box 55 [spv v]]) h.length 55 134 2 []:=⟨⟨_,rfl,zg rfl (zi rfl)⟩,Nat.le_refl _,(λz S=>by
  cases S with
  | head=>exact ⟨by show h.length+1≠h.length;omega,⟨_,_,rfl⟩,by rw[zm (k:=1) rfl];rfl⟩
  | tail _ S=>cases S),_,by rw[zo rfl];rfl,.inl ⟨rfl,rfl⟩⟩
 have w:qx a b=Xj a (qf 0 v):=by rw[T];rfl
 refine k4a (Kz (YH (Wf (p:=10) (by decide) rfl (by simp only[go_sem]) (wva (h.length+1) v G)
  (λn h'=>LIn [(h.length+1,.box 55 [spv v])] h h' h.length 55 134 2 (((qf 0 v).take n).map zH))
  (λn x I d=>I 5= .ptr h.length 0/\∃s j,(qf 0 v)[n]? =some s/\I 6= .ptr j 0/\d[j]? =some (.box 134 (zH s))/\LIn [(h.length+1,.box 55 [spv v])] h d h.length 55 134 2 (((qf 0 v).take n).map zH))
  ?_ (λn h' M B k=>k.app B) (λn h' k=>k.keep (.head _)) ?_ ?_ ?_ ?_ ?_) ?_))
 ·exact λM B=>base.app B
 ·intro M B
  exact (base.app B).anyR _
 ·intro n h' j l o ks us o' R k J
  exact k.raw (Nat.le_trans (by rw[List.length_append];exact Nat.le_add_right _ _) R) J
 ·rintro n x I d j l o ks us o' R ⟨t5,s,m,P,O,E,k⟩ J
  refine ⟨t5,s,m,P,O,?_,k.raw (Nat.le_trans (by rw[List.length_append];exact Nat.le_add_right _ _) R) J⟩
  have:j≠m:=λe=>by rw[e,E] at J;cases J
  rw[List.getElem?_set_ne this];exact E
 ·intro Z l n x h' f k
  rw[List.getElem?_map] at f
  cases N:(qf 0 v)[n]? with
  | none=>rw[N] at f;cases f
  | some s=>
    rw[N] at f
    injection f with f
    subst f
    refine Zu (by decide) (by decide) ?_
    simp only[go_sem,Zua,Wg]
    exact ⟨⟨s,h'.length,rfl,rfl,by rw[zo rfl];rfl,k.app (zi rfl)⟩,.app,.app⟩
 ·rintro Z l n x I d f ⟨t5,s,m,P,O,E,k⟩
  obtain ⟨V,c,t⟩:=k.at_
  refine YG (Zu (by decide) (by decide) ?_)
  have H:(((qf 0 v).take n).length+1)*17<=140737488355328:=by rw[List.length_take];omega
  have u:((qf 0 v).take n).map zH++[zH s]=((qf 0 v).take (n+1)).map zH:=by
   obtain ⟨hn,N⟩:=List.getElem?_eq_some_iff.1 P
   rw[<-List.take_append_getElem hn,List.map_append,N];rfl
  have hi:=k.lt
  rcases t with ⟨rfl,F⟩ | ⟨id,st,u1,rfl,A⟩
  ·rw[F,List.nil_append] at u
   have g:∀M,(d++M)[h.length]? =some (.box 55 [.v (.slice none 0 0)]):=λM=>zb c
   simp only[go_sem,t5,O,E,c,g]
   have q:=k.push_nil (M:=[.row 134 2 [zH s] 0,.row 134 2 [zH s] 0]) (zg rfl (zi rfl)) (id:=d.length+1) (by omega) (by rw[zm (k:=1) rfl];rfl)
   refine ⟨by rw[<-u];exact q,k.raws,KeepB.app.trans (.setL (by omega))⟩
  ·have hg:∀M,(d++M)[id]? =some (.row 134 2 (((qf 0 v).take n).map zH) st):=λM=>zb A
   have g:∀M,(d++M)[h.length]? =some (.box 55 [.tl id st]):=λM=>zb c
   have U:id≠h.length:=λq=>by rw[q,c] at A;cases A
   have C:∀M o',((d++M).set id o')[h.length]? =some (.box 55 [.tl id st]):=λM o'=>by
    rw[List.getElem?_set_ne U];exact g M
   simp only[go_sem,t5,O,E,c,g,hg,C,List.length_map,H]
   have q:=k.push_own (M:=[.row 134 2 [zH s] 0]) (zi rfl) u1 A (rows':=((qf 0 v).take (n+1)).map zH)
   refine ⟨by rw[<-u] at q ⊢;exact q,k.raws_own A,(KeepB.app.trans (.setR (zb A))).trans (.setL (by omega))⟩
 ·rintro e ds I d ⟨rfl,rfl,D,id,rfl,hid,K,k⟩
  rw[List.length_append] at hid
  rw[List.length_map,List.take_length] at k
  obtain ⟨V,c,t⟩:=k.at_
  have i:=k.pre
  refine ⟨rfl,(jK (by decide) ?_:Q5 _ _ _ _ _ _ _ _)⟩
  simp only[go_sem,c]
  have Q:SlOf d x 2 (a.map zH):=by
   obtain ⟨L,rfl,_⟩:=i
   exact f.app _
  refine zc (Kya _ x V a (qf 0 v) Q t.rows X (by omega)) ?_
  rintro _ h6 ⟨rfl,rfl⟩
  simp only[go_sem]
  refine k4a (YI (by decide) ?_)
  simp only[go_sem]
  exact Zza (.inr ⟨D,id,rfl,by omega,K⟩) i (r:=spv (Xj a (qf 0 v))) (λ_=>rfl) (Zr _) (by rw[w])
theorem Wwa (h:List Ob) (x:AV) (l:List Spn) (n:Int) (b:SlOf h x 2 (l.map zH)) (q:l.length<524288) (t:Fit n):
  ACalls Tryz.prog 262 [x,i64 n] h λr h'=>r=spv (Qh l n)/\h'=h:=by
 refine Jx ?_
 refine zf Tryz.f262 [.tmp 4] 16 rfl rfl rfl rfl rfl rfl (by decide) (⟨_,_,⟨.inl rfl,rfl⟩,.refl⟩) λB=>?_
 simp only[go_sem]
 refine ways (λe=>?_) (λe=>?_)
 ·simp only[go_sem]
  exact ⟨_,rfl,.inl ⟨.inr ⟨rfl,by unfold Qh;rw[if_pos (of_decide_eq_true e)];rfl⟩,rfl⟩⟩
 ·have a:¬ n<=0:=of_decide_eq_false e
  simp only[go_sem]
  refine zc (k0a _ x l b (by omega)) ?_
  rintro _ v ⟨rfl,rfl⟩
  have k:=V5 (l:=zE l) (λs o=>jZ s o)
  have f:=zy l
  obtain ⟨m,d⟩:∃m:Int,m=if 32054400<n then 32054400 else n:=⟨_,rfl⟩
  have c:m=min n 32054400:=by rw[d];split<;>omega
  have i:0<m/\m<=32054400:=by omega
  have g:IntKind.wrap .i64 (qZ (zE l) - m)=qZ (zE l) - m:=zI (n:=qZ (zE l) - m) (by unfold Fit;omega)
  simp only[go_sem, <-d,g]
  refine zc (zGa _ x l _ b (by omega) (by unfold Fit;omega)) ?_
  rintro _ p ⟨rfl,rfl⟩
  simp only[go_sem]
  have j:(zP l (qZ (zE l) - m)).length<=(zE l).length:=jt _ _
  refine zc (Jz _ x _ l (zP l (qZ (zE l) - m)) b (qP _) (by omega) (by omega)) ?_
  rintro _ u ⟨rfl,rfl⟩
  simp only[go_sem]
  exact ⟨_,rfl,.inl ⟨.inl (by unfold Qh;rw[if_neg a, <-c];rfl),rfl⟩⟩
end Go.Proofs.YtfmldcilgbbimaaGreat.Ax
