import Derived.Test.YtigdlmpjijhpaaaGreatBA
import Derived.Test.YtigdlmpjijhpaaaGreatB43
import Derived.Test.YtigdlmpjijhpaaaGreatB34
import Derived.Test.YtigdlmpjijhpaaaGreatB35
import Derived.Test.YtigdlmpjijhpaaaGreatB41
import Derived.Test.YtigdlmpjijhpaaaGreatB38
import Derived.Test.YtigdlmpjijhpaaaGreatB39
import Derived.Test.YtigdlmpjijhpaaaGreatB40
set_option linter.all false
namespace Go.Proofs.YtigdlmpjijhpaaaGreat.Ax
open Go Go.Proofs Go.RowKit
set_option maxRecDepth 100000
theorem XTa{z k:Int × Int}{ks:List (Int × Int)}:z∈Q6 ks k↔z∈ks∨z=k:=by
 unfold Q6
 split
 ·rename_i h
  constructor
  ·exact .inl
  ·rintro (q|rfl)
   ·exact q
   ·exact h
 ·simp
theorem wQa{k:Int × Int}{ks:List (Int × Int)}(h:ks.Nodup):(Q6 ks k).Nodup:=by
 unfold Q6
 split
 ·exact h
 ·rename_i e
  rw[List.nodup_append]
  exact⟨h,by simp,λa d b c=>by simp at c;subst c;intro q;subst q;exact e d⟩
theorem q3a{z:Int × Int}:∀ {L ks:List (Int × Int)},z∈L.foldl Q6 ks↔z∈ks∨z∈L
 | [],ks=>by simp
 | k::L,ks=>by rw[List.foldl_cons,q3a,XTa,zE,or_assoc]
theorem WC:∀ {L ks:List (Int × Int)},ks.Nodup->(L.foldl Q6 ks).Nodup
 | [],_,h=>h
 | k::L,ks,h=>WC (L:=L) (wQa h)
structure Vis (es:Array MapEntry) (seen:Array Nat) (vs:List (Int × Int)):Prop where
 nodup:vs.Nodup
 iff:∀e∈es.toList,∀k,e.key=vg k->(k∈vs↔e.born∈seen)
 sub:∀k∈vs,∃e∈es.toList,e.key=vg k
theorem V5a(es:Array MapEntry):Vis es #[] []:=⟨.nil,λ_ _ _ _=>by simp,λ_ h=>by cases h⟩
theorem zDa{es:Array MapEntry}{seen:Array Nat}{e:MapEntry}:e∈(leftOf es seen).toList↔e∈es.toList/\e.born∉seen:=by
 unfold leftOf
 rw[Array.toList_filter,qq]
 simp
theorem XUa{es:Array MapEntry}{c:Nat}{ks:List (Int × Int)}(h:KM es c ks):∀ {a b:MapEntry},a∈es.toList->b∈es.toList->a.born=b.born->a=b:=by
 have key:∀(l:List MapEntry),(l.map (·.born)).Nodup->∀ {a b:MapEntry},a∈l->b∈l->a.born=b.born->a=b:=λl=>by
  induction l with
  | nil=>exact λ_ _ _ h=>by cases h
  | cons x l k=>
    intro g a b j i d
    rw[List.map_cons,List.nodup_cons] at g
    rcases zE.1 j with f|f<;>rcases zE.1 i with e|e
    ·rw[f,e]
    ·subst f;exact absurd (zw.2 ⟨b,e,d.symm⟩) g.1
    ·subst e;exact absurd (zw.2 ⟨a,f,d⟩) g.1
    ·exact k g.2 f e d
 exact λ{a b} j i d=>key _ h.born j i d
theorem V6a{es:Array MapEntry}{c:Nat}{ks:List (Int × Int)}(h:KM es c ks)(e:ks.Nodup):∀ {a b:MapEntry},a∈es.toList->b∈es.toList->a.key=b.key->a=b:=by
 have k:(es.toList.map (·.key)).Nodup:=by
  rw[h.keys]
  exact List.Pairwise.map _ (λa b d q=>d (K4 q)) e
 have key:∀(l:List MapEntry),(l.map (·.key)).Nodup->∀ {a b:MapEntry},a∈l->b∈l->a.key=b.key->a=b:=λl=>by
  induction l with
  | nil=>exact λ_ _ _ h=>by cases h
  | cons x l m=>
    intro e a b j i d
    rw[List.map_cons,List.nodup_cons] at e
    rcases zE.1 j with g|g<;>rcases zE.1 i with f|f
    ·rw[g,f]
    ·subst g;exact absurd (zw.2 ⟨b,f,d.symm⟩) e.1
    ·subst f;exact absurd (zw.2 ⟨a,g,d⟩) e.1
    ·exact m e.2 g f d
 exact λ{a b} j i d=>key _ k j i d
theorem VW{es:Array MapEntry}{c:Nat}{ks:List (Int × Int)}(h:KM es c ks){e:MapEntry}(b:e∈es.toList):∃k,e.key=vg k/\k∈ks:=by
 have:e.key∈ks.map vg:=by rw[<-h.keys];exact zw.2 ⟨e,b,rfl⟩
 obtain⟨k,d,a⟩:=zw.1 this
 exact⟨k,a.symm,d⟩
theorem Vis.more{es:Array MapEntry}{c:Nat}{ks vs:List (Int × Int)}{seen:Array Nat}(h:KM es c ks)(r:ks.Nodup)(v:Vis es seen vs){e:MapEntry}(m:e∈(leftOf es seen).toList){k:Int × Int}(i:e.key=vg k):Vis es (seen.push e.born) (vs++[k])/\(leftOf es (seen.push e.born)).size<(leftOf es seen).size:=by
 obtain⟨g,o⟩:=zDa.1 m
 have j:k∉vs:=λq=>o ((v.iff e g k i).1 q)
 refine⟨⟨?_,λx l k' d=>?_,λz f=>?_⟩,?_⟩
 ·rw[List.nodup_append]
  exact⟨v.nodup,by simp,λa p b n=>by simp at n;subst n;intro q;subst q;exact j p⟩
 ·rw[zJ,zN,v.iff x l k' d,Array.mem_push]
  constructor
  ·rintro (q|q)
   ·exact .inl q
   ·subst q
    have:=V6a h r l g (d.trans i.symm)
    rw[this];exact .inr rfl
  ·rintro (q|q)
   ·exact .inl q
   ·have:=XUa h l g q
    subst this
    exact .inr (K4 (d.symm.trans i))
 ·rcases zJ.1 f with f|f
  ·exact v.sub z f
  ·rw[zN] at f
   subst f
   exact⟨e,g,i⟩
 ·exact left_shrinks es seen e m
theorem Vis.all{es:Array MapEntry}{c:Nat}{ks vs:List (Int × Int)}{seen:Array Nat}(h:KM es c ks)(v:Vis es seen vs)(g:(leftOf es seen).size=0):∀z,z∈vs↔z∈ks:=λz=>by
 have f:∀e∈es.toList,e.born∈seen:=λe a=>by
  by_cases i:e.born∈seen
  ·exact i
  ·have:=zDa.2 ⟨a,i⟩
   rw[<-qH] at g
   rw[zC g] at this
   cases this
 constructor
 ·intro q
  obtain⟨e,a,d⟩:=v.sub z q
  obtain⟨k,b,j⟩:=VW h a
  rw[K4 (d.symm.trans b)]
  exact j
 ·intro q
  have:vg z∈es.toList.map (·.key):=by rw[h.keys];exact zw.2 ⟨z,q,rfl⟩
  obtain⟨e,a,d⟩:=zw.1 this
  exact(v.iff e a z d).2 (f e a)
theorem j2a{α:Type}(l M:List α)(k:Nat)(o:α):(l++M).set (l.length+k) o=l++M.set k o:=by
 rw[zL _ _ (by omega),Nat.add_sub_cancel_left]
theorem OwnS.set_raw{h0 h:List Ob}{ty e:Nat}{x:AV}{rows:List (List AV)}(k:OwnS h0 h ty e x rows){i l:Nat}{ob:Obj}{ks us}(hi:h[i]? =some (.raw l ob ks us))(o:Ob):OwnS h0 (h.set i o) ty e x rows:=by
 rcases k with k|⟨id,st,k1,k2,k3⟩
 ·exact .inl k
 ·refine .inr ⟨id,st,k1,k2,?_⟩
  have:i≠id:=λq=>by rw[q,k3] at hi;cases hi
  rw[zc this]
  exact k3
abbrev HT(h:List Ob)(s:Setup)(a:SA)(q:Fx)(l:Nat)(es:Array MapEntry)(c:Nat):List Ob:=h++[.box 30 (qd s a),.box 77 (fxC q),.raw l (.map es c) [] [],.box 166 [.v (.map (some l))]]
theorem K8{α:Type}[DecidableEq α]:∀ {a b:List α},a.Nodup->(∀x∈a,x∈b)->a.length<=b.length
 | [],_,_,_=>Nat.zero_le _
 | x::a,b,h,c=>by
   obtain⟨g,f⟩:=List.nodup_cons.1 h
   have d:=c x (.head _)
   have:=K8 (a:=a) (b:=b.erase x) f λy e=>(List.mem_erase_of_ne (λq=>by subst q;exact g e)).2 (c y (.tail _ e))
   rw[List.length_erase_of_mem d] at this
   have i:=List.length_pos_of_mem d
   rw[List.length_cons]
   omega
theorem q4a(s:Setup)(e:Ev):(XH s e).length<=53:=by
 have b:=Q1 (wr (jl e.at_ 32054399 - wr (jl s.unit 604800+jl s.cap 604800)))
 have a:=Q1 (wr (jl e.at_ 32054399+wr (jl s.unit 604800+jl s.cap 604800)))
 unfold XH J0 VR
 rw[zb,zb,xi]
 simp only
 omega
theorem q5a(s:Setup)(l:List Ev)(x:Fx):(K2 s l x).length<=106:=by
 have b:=q4a s (Jf l x.ev.id).1
 have a:=q4a s x.ev
 unfold K2
 rw[ze]
 split<;>split<;>simp<;>omega
abbrev HU(h:List Ob)(s:Setup)(a:SA)(q:Fx)(l:Nat)(es:Array MapEntry)(c:Nat)(e:Ev):List Ob:=h++[.box 30 (qd s a),.box 77 (fxC q),.raw l (.map es c) [] [],.box 166 [.v (.map (some l))],.box 75 (evC e)]
theorem QGa(h:List Ob)(s:Setup)(a:SA)(k:SIn h s a)(x:AV)(l:List Ev)(q:Fx)(hx:SlOf h x 11 (l.map evC))(hl:l.length<1048576):
  ACalls Tryz.prog 37 [je s a,x,.ag (fxC q)] h λr h'=>∃L,h'=h++L/\NoRes L/\New h 2 r ((xL s l q).map Qw) L:=by
 have hex:∃r h',(∃L,h'=h++L/\NoRes L/\New h 2 r ((xL s l q).map Qw) L)/\ResK h h':=
  ⟨.sl 2 _,_,⟨[],rfl,jf,λ_ _=>⟨rfl,λ_=>rfl⟩⟩,qS⟩
 refine xF (N:=50) (rs:=[.tmp 6]) (fn:=Tryz.f37) rfl rfl rfl rfl (qC rfl) rfl (hex) λB=>?_
 refine qf (by decide) ?_
 simp only[go_sem,k.ones]
 refine qK (qf (by decide) ?_)
 simp only[go_sem]
 refine qK (wKa (id:=h.length+2) (j:=h.length+3) (by rw[zK (k:=2) rfl];rfl) (by rw[zK (k:=3) rfl];rfl) λm k0=>?_)
 rw[j2a,j2a]
 have hH:∀es c,h++[Ob.box 30 (qd s a),.box 77 (fxC q),.raw m (.map es c) [] [],.box 166 [.v (.map (some m))]]=HT h s a q m es c:=λ_ _=>rfl
 simp only[List.set_cons_zero,List.set_cons_succ]
 rw[hH]
 have ι:(HT h s a q m #[] k0)[h.length+1]? =some (.box 77 (fxC q)):=by rw[zK (k:=1) rfl];rfl
 have G:∀es c,(HT h s a q m es c).length=h.length+4:=λes c=>by simp
 have g0:∀es c e,(HU h s a q m es c e)[h.length]? =some (.box 30 (qd s a)):=λes c M=>by rw[zM rfl];rfl
 have g1:∀es c e,(HU h s a q m es c e)[h.length+1]? =some (.box 77 (fxC q)):=λes c M=>by rw[zK (k:=1) rfl];rfl
 have g2:∀es c e,(HU h s a q m es c e)[h.length+2]? =some (.raw m (.map es c) [] []):=λes c M=>by rw[zK (k:=2) rfl];rfl
 have g3:∀es c e,(HU h s a q m es c e)[h.length+3]? =some (.box 166 [.v (.map (some m))]):=λes c M=>by rw[zK (k:=3) rfl];rfl
 have g4:∀es c e,(HU h s a q m es c e)[h.length+4]? =some (.box 75 (evC e)):=λes c M=>by rw[zK (k:=4) rfl];rfl
 have w:∀es c es' c' e,(HU h s a q m es c e).set (h.length+2) (.raw m (.map es' c') [] [])=HU h s a q m es' c' e:=λes c es' c' M=>by
  rw[j2a]
  rfl
 obtain⟨d,A⟩:∃d,d=Jf l q.ev.id:=⟨_,rfl⟩
 clear hH
 refine qf (by decide) ?_
 simp only[go_sem]
 have ζ:∀es c,SlOf (HT h s a q m es c) x 11 (l.map evC):=λes c=>hx.app _
 have kM:∀es c e,SIn (HU h s a q m es c e) s a:=λes c e=>k.app _
 refine qK (yy (λT h'=>∃es c,h'=HU h s a q m es c d.1/\KM es c ((if d.2 && j7 q then XH s d.1 else []).foldl Q6 [])/\T 5= .ptr (h.length+1) 0/\T 7= .ptr (h.length+3) 0/\T 8= .fn (.func 94) [] [.ptr h.length 0,.ptr (h.length+3) 0]) (by decide) ?_ ?_)
 ·simp only[go_sem,ι]
  refine zg (q7b _ x l q.ev.id (ζ _ _) hl) ?_
  rintro _ h1 ⟨rfl,rfl⟩
  rw[<-A]
  simp only[go_sem,G]
  cases R:d.2
  ·simp only[go_sem,R,qD]
   exact⟨_,_,rfl,wIa _⟩
  ·simp only[go_sem,R,qD,g1]
   refine zg (XFa q _) ?_
   rintro _ h1 ⟨rfl,rfl⟩
   simp only[go_sem]
   cases q2:j7 q
   ·simp only[go_sem,q2]
    exact⟨_,_,rfl,wIa _⟩
   ·simp only[go_sem,q2,g4]
    refine zg (yVa _ s a (kM _ _ _) h.length (h.length+3) (h.length+2) m (g0 _ _ _) (g3 _ _ _) _ _ [] (g2 _ _ _) (wIa _) d.1) ?_
    rintro _ h2 ⟨rfl,es',c',z1,z2⟩
    rw[w] at z2
    subst z2
    simp only[go_sem]
    exact⟨es',c',rfl,z1⟩
 rintro T h' ⟨υ,c1,rfl,z1,t5,Y,t8⟩
 refine yy (λT h'=>∃es c,h'=HU h s a q m es c d.1/\KM es c ((K2 s l q).foldl Q6 [])/\T 7= .ptr (h.length+3) 0) (by decide) ?_ ?_
 ·simp only[go_sem,t5,g1]
  refine zg (W5a q _) ?_
  rintro _ h1 ⟨rfl,rfl⟩
  simp only[go_sem]
  cases R:vn q
  ·simp only[go_sem,R,qD]
   refine⟨υ,c1,rfl,?_,by simp only[go_sem,Y]⟩
   unfold K2
   rw[<-A,R]
   simpa using z1
  ·simp only[go_sem,R,qD,t8,t5,g1]
   refine zg (yVa _ s a (kM _ _ _) h.length (h.length+3) (h.length+2) m (g0 _ _ _) (g3 _ _ _) _ _ _ (g2 _ _ _) z1 q.ev) ?_
   rintro _ h2 ⟨rfl,es',c',z2,z3⟩
   rw[w] at z3
   subst z3
   simp only[go_sem]
   refine⟨es',c',rfl,?_,by simp only[go_sem,Y]⟩
   unfold K2
   rw[<-A,R,qY]
   simpa using z2
 rintro T h' ⟨es,c,rfl,O,Y⟩
 clear z1 t5 t8
 obtain⟨ks,K⟩:∃ks,ks=(K2 s l q).foldl Q6 []:=⟨_,rfl⟩
 rw[<-K] at O
 have ω:ks.Nodup:=by rw[K];exact WC .nil
 have P:∀z,z∈ks↔z∈xL s l q:=λz=>by
  unfold xL
  rw[K3,K,q3a]
  simp
 have X:∀vs:List (Int × Int),vs.Nodup->(∀z∈vs,z∈ks)->vs.length<=106:=λvs h1 h2=>by
  have h3:=K8 (b:=K2 s l q) h1 λz C=>by
   have:=(P z).1 (h2 z C)
   exact K3.1 this
  have h4:=q5a s l q
  omega
 refine qf (by decide) ?_
 simp only[go_sem]
 obtain⟨H,F⟩:∃H,H=HU h s a q m es c d.1:=⟨_,rfl⟩
 have E:=g2 es c d.1
 have Q:=g3 es c d.1
 have I:Pre h H:=⟨_,F,zr rfl (zr rfl (zr rfl (zr rfl (zG rfl))))⟩
 have Z:H.length=h.length+5:=by rw[F];simp
 rw[<-F] at E Q⊢
 clear F g0 g1 g2 g3 g4 w ζ kM ι G
 refine qK (ZX (ZX (zAa [_,_] [] rfl (by decide) ⟨rfl,yP (by decide) ?_⟩)))
 simp only[go_sem,Y,Q]
 refine⟨rfl,wLa (by decide) (id:=h.length+2) (l:=m) (es:=es) (c:=c) rfl (by simp only[go_sem]) E λr=>?_⟩
 simp only[go_sem]
 obtain⟨T1,D⟩:∃T1:Env,T1=upd (upd (upd T 11 (.v (.slice none 0 0))) 37 (.v (.map (some m)))) 38 (.v (.pointer (some ⟨r,0,none⟩))):=⟨_,rfl⟩
 have f:T1 11= .v (.slice none 0 0):=by rw[D];simp only[go_sem]
 have g:T1 38= .v (.pointer (some ⟨r,0,none⟩)):=by rw[D];simp only[go_sem]
 have u:Pre h (H++[.raw r (.mapIter (some m) c #[] c) [] []]):=I.app (zG rfl)
 have gm:(H++[.raw r (.mapIter (some m) c #[] c) [] []])[h.length+2]? =some (.raw m (.map es c) [] []):=zf E
 have gi:(H++[.raw r (.mapIter (some m) c #[] c) [] []])[h.length+5]? =some (.raw r (.mapIter (some m) c #[] c) [] []):=by rw[<-Z,zM rfl];rfl
 rw[<-D]
 clear D
 obtain⟨H1,α⟩:∃H1,H1=H++[.raw r (.mapIter (some m) c #[] c) [] []]:=⟨_,rfl⟩
 rw[<-α] at u gm gi⊢
 clear α Z E Q I Y
 refine xE (Zt (λn T h'=>∃(seen:Array Nat) (vs:List (Int × Int)) (y:AV),Pre h h'/\h'[h.length+2]? =some (.raw m (.map es c) [] [])/\h'[h.length+5]? =some (.raw r (.mapIter (some m) c seen c) [] [])/\OwnS h h' 90 2 y (vs.map Qw)/\Vis es seen vs/\T 11=y/\T 38= .v (.pointer (some ⟨r,0,none⟩))/\n=(leftOf es seen).size) (leftOf es #[]).size
  ⟨#[],[],_,u,gm,gi,.inl ⟨rfl,rfl⟩,V5a es,f,g,rfl⟩ ?_)
 rintro n T2 h' ⟨seen,vs,y,k1,k2,k3,k4,k5,f,g,rfl⟩
 refine ZX (zAa [_] [_] rfl (by decide) ⟨rfl,QEa (by decide) rfl g k2 k3 O.lt (zn _) (λC=>?_) (λe he=>?_)⟩)
 ·simp only[go_sem]
  refine qf (by decide) ?_
  simp only[go_sem]
  have p:=k5.all O C
  have χ:=X vs k5.nodup λz C=>(p z).1 C
  refine qf (by decide) ?_
  rcases k4 with⟨rfl,t⟩|⟨id,st,u1,rfl,U⟩
  ·simp only[go_sem,f]
   refine zg (V4a _ _) ?_
   rintro _ h3 ⟨rfl,rfl⟩
   simp only[go_sem]
   refine qK (qn _ (by decide) ?_)
   simp only[go_sem,f]
   have S:vs=[]:=List.map_eq_nil_iff.1 t
   have hts:xL s l q=[]:=by
    rw[List.eq_nil_iff_forall_not_mem]
    intro z hz2
    have:=(p z).2 ((P z).2 hz2)
    rw[S] at this
    cases this
   obtain⟨L,hL,hN⟩:=k1
   exact⟨.v (.slice none 0 0),by simp only[go_sem],.inl ⟨L,hL,hN,by rw[hts];exact λ_ _=>⟨rfl,λq=>absurd rfl q⟩⟩⟩
  ·simp only[go_sem,f]
   refine zg (zmb _ id st vs (xL s l q) U (by omega) k5.nodup (zta _) λz=>(p z).trans (P z)) ?_
   rintro _ h3 ⟨rfl,rfl⟩
   simp only[go_sem]
   refine qK (qn _ (by decide) ?_)
   simp only[go_sem,f]
   have k1':=k1.set (i:=id) (o:= .row 90 2 ((xL s l q).map Qw) st) u1 rfl
   have own:OwnS h (h'.set id (.row 90 2 ((xL s l q).map Qw) st)) 90 2 (.tl id st) ((xL s l q).map Qw):= .inr ⟨id,st,u1,rfl,zq U⟩
   obtain⟨L,hL,hN⟩:=k1'
   rw[hL] at own⊢
   exact⟨_,by simp only[go_sem],.inl ⟨L,rfl,hN,own.new (zn _)⟩⟩
 ·obtain⟨κ,_⟩:=zDa.1 he
  obtain⟨ky,W,hkm2⟩:=VW O κ
  obtain⟨v2,v3⟩:=k5.more O ω he W
  have χ:=X vs k5.nodup λz C=>by
   obtain⟨x,hx,hk⟩:=k5.sub z C
   obtain⟨k',hk',hm'⟩:=VW O hx
   rw[K4 (hk.symm.trans hk')]
   exact hm'
  have j1:=k1.set (i:=h.length+5) (o:= .raw r (.mapIter (some m) c (seen.push e.born) c) [] []) (by omega) rfl
  have j2:(h'.set (h.length+5) (.raw r (.mapIter (some m) c (seen.push e.born) c) [] []))[h.length+2]? =some (.raw m (.map es c) [] []):=by rw[zc (by omega)];exact k2
  have j3:(h'.set (h.length+5) (.raw r (.mapIter (some m) c (seen.push e.born) c) [] []))[h.length+5]? =some (.raw r (.mapIter (some m) c (seen.push e.born) c) [] []):=zq k3
  have j4:=k4.set_raw k3 (.raw r (.mapIter (some m) c (seen.push e.born) c) [] [])
  obtain⟨J,hJ⟩:∃J,J=h'.set (h.length+5) (.raw r (.mapIter (some m) c (seen.push e.born) c) [] []):=⟨_,rfl⟩
  rw[<-hJ] at j1 j2 j3 j4⊢
  clear hJ k1 k2 k3 k4
  simp only[go_sem]
  refine qf (by decide) ?_
  simp only[go_sem]
  refine qK (xE (ZX (zAa [_] [_,_,_] rfl (by decide) ⟨rfl,wMa (by decide) rfl (by simp only[go_sem,g]) j2 j3 κ O.born ?_⟩)))
  rw[W]
  simp only[vg,ofV]
  simp only[go_sem]
  refine qn _ (by decide) ?_
  have hJl:=j1.len
  rcases j4 with⟨rfl,t⟩|⟨id,st,u1,rfl,U⟩
  ·simp only[go_sem,f]
   have S:vs=[]:=List.map_eq_nil_iff.1 t
   subst S
   refine⟨_,v3,_,_,_,j1.app (zr rfl (zr rfl (zG rfl))),zf j2,zf j3,.inr ⟨J.length+2,0,by omega,rfl,?_⟩,v2,rfl,g,rfl⟩
   rw[zK (k:=2) rfl]
   rfl
  ·have V:(vs.length+1)*17<=140737488355328:=by omega
   have ε:∀M,(J++M)[id]? =some (.row 90 2 (vs.map Qw) st):=λM=>zf U
   have hidl:=(zd.1 U).1
   simp only[go_sem,f,ε,zb,V]
   have j1':=(j1.app (M:=[.box 90 (Qw ky),.row 90 2 [Qw ky] 0]) (zr rfl (zG rfl))).set (i:=id) (o:= .row 90 2 (vs.map Qw++[Qw ky]) (st+1)) u1 rfl
   have δ:∀ {z:Nat} {l ob ks us},J[z]? =some (.raw l ob ks us)->id≠z:=λC q=>by rw[<-q,U] at C;cases C
   refine⟨_,v3,_,_,_,j1',?_,?_,.inr ⟨id,st+1,u1,rfl,?_⟩,v2,rfl,g,rfl⟩
   ·rw[zc (δ j2)];exact zf j2
   ·rw[zc (δ j3)];exact zf j3
   ·rw[zy]
    exact zq (ε _)
theorem XVa(h:List Ob)(s:Setup)(a:SA)(k:SIn h s a)(x:AV)(l:List Ev)(q:Fx)(b:SlOf h x 11 (l.map evC))(c:l.length<1048576):
  ACalls Tryz.prog 37 [je s a,x,.ag (fxC q)] h λr h'=>r= .sl 2 ((xL s l q).map Qw)/\h'=h:=
 jT (by decide) (XRa _) (QGa h s a k x l q b c)
end Go.Proofs.YtigdlmpjijhpaaaGreat.Ax
namespace Go.Proofs.YtigdlmpjijhpaaaGreat.Ax
open Go Go.Proofs
set_option maxRecDepth 100000
def zEa(a:List Int)(e:Int)(k:Int × Int):Int:=jM e (!jU a k.2) 211
theorem q6a(a:List Int):∀(L:List (Int × Int)) (e:Int),L.foldl (zEa a) e=jM e (!L.any λk=>jU a k.2) 211
 | [],e=>by simp[jM]
 | k::L,e=>by
   rw[List.foldl_cons,q6a a L,List.any_cons]
   unfold zEa jM
   by_cases h:e=0
   ·subst h
    cases jU a k.2<;>cases (L.any λk=>jU a k.2)<;>simp
   ·have:(e==0)=false:=by simpa using h
    simp[this]
theorem wRa(e d:Int):jM e true d=e:=by simp[jM]
theorem V7a{l:List (Int × Int)}{i:Nat}(h:i<l.length):(l.map Qw)[i]? =some [i64 (l[i]).1,i64 (l[i]).2]:=by rw[zx,zi h];rfl
theorem kWa(s:Setup)(l:List Ev)(x:Fx):(xL s l x).length<=106:=by
 have c:(xL s l x).Nodup:=(zta _).imp λ{a b} h q=>by subst q;rw[vf] at h;omega
 have e:=K8 (b:=K2 s l x) c λz d=>K3.1 d
 have:=q5a s l x
 omega
section
variable {h:List Ob} {d:Nat} {s:Setup} {a:SA} {x c:AV} {rows segs bytes:AV} {q:Cm}
def XWa(s:Setup)(b:Bk)(f:Fx)(x:AV):AV:=if WL s b f==0 then .sl 11 ((jw s b.evs f).1.map evC) else x
theorem jnb(f:h[d]? =some (.box 154 (qG s a x c 0 rows segs bytes q)))(k:SIn h s a)(b:Bk)(hx:SlOf h x 11 (b.evs.map evC))(hl:b.evs.length<262144)(hc:SlOf h c 1 (b.shut.map qB))(R:b.shut.length<1048576)(ζ:AV.one x=true):
  ACalls Tryz.prog 78 [.ptr d 0] h λr h'=>r= .tup []/\∃L,h'=h.set d (.box 154 (qG s a (XWa s b q.fx x) c (WL s b q.fx) rows segs bytes q))++L/\NoRes L:=by
 refine zj Tryz.f78 [] 71 rfl rfl rfl rfl rfl rfl (by decide) (⟨_,_,⟨rfl,[],rfl,jf⟩,by rw[zF];exact qj f rfl⟩) λB=>?_
 simp only[go_sem]
 refine zV rfl [] 0 [(0,0,[]),(1,0,[]),(2,0,[]),(3,0,[]),(5,0,[]),(6,0,[]),(7,0,[]),(8,0,[]),(10,0,[]),(11,0,[]),(12,0,[]),(13,0,[]),(4,0,[]),(9,0,[]),(14,0,[]),(15,0,[]),(16,0,[]),(17,0,[]),(18,0,[]),(19,0,[]),(20,0,[])] rfl (by decide) (by decide) ?_
 simp only[go_sem,f,k.ones]
 refine zg (zbb h s a k x b.evs q.fx hx (by omega)) ?_
 rintro _ h1 ⟨rfl,e1⟩
 rw[e1]
 obtain⟨A,V⟩:∃A,A=jw s b.evs q.fx:=⟨_,rfl⟩
 rw[<-V]
 simp only[go_sem,f]
 refine zg (JY f (A.2==0) A.2) ?_
 rintro _ h2 ⟨rfl,rfl⟩
 obtain⟨F,D⟩:∃F,F=jM 0 (A.2==0) A.2:=⟨_,rfl⟩
 rw[<-D]
 have S:=zq (b:=Ob.box 154 (qG s a x c F rows segs bytes q)) f
 simp only[go_sem,zb]
 refine zg (JY S (decide ((A.1.length:Int)<=200)) 210) ?_
 rintro _ h3 ⟨rfl,rfl⟩
 rw[zU]
 obtain⟨j,w⟩:∃j,j=jM F (decide ((A.1.length:Int)<=200)) 210:=⟨_,rfl⟩
 rw[<-w]
 have U:=zq (b:=Ob.box 154 (qG s a x c j rows segs bytes q)) f
 have K:=hx.keep (.setB (o:= .box 154 (qG s a x c j rows segs bytes q)) f)
 have k2:=k.keep (.setB (o:= .box 154 (qG s a x c j rows segs bytes q)) f)
 simp only[go_sem]
 refine zV rfl [] 0 [(0,0,[]),(1,0,[]),(2,0,[]),(3,0,[]),(5,0,[]),(6,0,[]),(7,0,[]),(8,0,[]),(10,0,[]),(11,0,[]),(12,0,[]),(13,0,[]),(17,0,[]),(4,0,[]),(9,0,[]),(14,0,[]),(15,0,[]),(16,0,[])] rfl (by decide) (by decide) ?_
 simp only[go_sem,U,k.ones]
 refine zg (XVa _ s a k2 x b.evs q.fx K (by omega)) ?_
 rintro _ h4 ⟨rfl,e4⟩
 rw[e4]
 obtain⟨W,hW⟩:∃W,W=xL s b.evs q.fx:=⟨_,rfl⟩
 have O:=kWa s b.evs q.fx
 rw[<-hW] at O⊢
 simp only[go_sem,zb]
 have G:∀e M,SlOf (h.set d (.box 154 (qG s a x c e rows segs bytes q))++M) c 1 (b.shut.map qB):=λe M=>(hc.keep (.setB f)).app _
 refine zP (by decide) (λm T h'=>∃(i:Nat) (M:List Ob),i<=W.length/\h'=h.set d (.box 154 (qG s a x c ((W.take i).foldl (zEa b.shut) j) rows segs bytes q))++M/\NoRes M/\T 0= .ptr d 0/\T 2= .sl 11 (A.1.map evC)/\T 50= .sl 2 (W.map Qw)/\T 51=i64 W.length/\T 52=i64 i/\m=W.length - i) W.length
  ⟨0,[],by omega,by rw[zF];rfl,jf,by simp only[go_sem],by simp only[go_sem],by simp only[go_sem],by(simp only[go_sem]<;>rfl),by(simp only[go_sem]<;>rfl),rfl⟩ ?_
 rintro m T h' ⟨i,M,hi,rfl,Y,t0,t2,t50,t51,p,rfl⟩
 simp only[go_sem,t51,p]
 refine ways (λe=>?_) (λe=>?_)
 ·have v:=dlt e
  have n:=V7a v
  have J:(i:Int)<W.length:=by omega
  have t:(W.take (i+1)).foldl (zEa b.shut) j=zEa b.shut ((W.take i).foldl (zEa b.shut) j) W[i]:=by rw[<-zI v,qY];rfl
  obtain⟨z,hz⟩:∃z,z=W[i]:=⟨_,rfl⟩
  rw[<-hz] at n t
  obtain⟨E,X⟩:∃E,E=(W.take i).foldl (zEa b.shut) j:=⟨_,rfl⟩
  rw[<-X] at t⊢
  obtain⟨H,y⟩:∃H,H=h.set d (.box 154 (qG s a x c E rows segs bytes q))++M:=⟨_,rfl⟩
  have Z:H[d]? =some (.box 154 (qG s a x c E rows segs bytes q)):=by rw[y];exact zf (zq f)
  have g:∀M,(H++M)[d]? =some (.box 154 (qG s a x c E rows segs bytes q)):=λM=>zf Z
  have I:SlOf H c 1 (b.shut.map qB):=by rw[y];exact G E M
  have l:d<(h.set d (.box 154 (qG s a x c E rows segs bytes q))).length:=by rw[zz];exact(zd.1 f).1
  have u:∀e N,(H++N).set d (.box 154 (qG s a x c e rows segs bytes q))=h.set d (.box 154 (qG s a x c e rows segs bytes q))++(M++N):=λe N=>by
   rw[y,zp,qb _ _ l,zU]
  rw[<-y]
  clear y
  simp only[go_sem,t0,t50,p,n,J,zb,Int.toNat_natCast,zh]
  refine zg (WZ (g _) b.shut (I.app _) R z.2) ?_
  rintro _ h6 ⟨rfl,e6⟩
  rw[e6]
  simp only[go_sem]
  refine zg (JY (g _) (!(b.shut.any (z.2== ·))) 211) ?_
  rintro _ h7 ⟨rfl,rfl⟩
  rw[u]
  simp only[go_sem,p]
  refine⟨W.length - (i+1),by omega,i+1,M++[.box 90 (Qw z)],by omega,?_,?_,t0,t2,t50,t51,qm (by omega) rfl,rfl⟩
  ·rw[t]
   rfl
  ·intro o C
   rcases zJ.1 C with C|C
   ·exact Y o C
   ·exact zG rfl o C
 ·have μ:=xb e
  have P:i=W.length:=by omega
  subst P
  rw[zZ,q6a]
  have Q:jM j (!W.any λk=>jU b.shut k.2) 211=WL s b q.fx:=by unfold WL;rw[w,D,V,hW]
  rw[Q]
  obtain⟨E,X⟩:∃E,E=WL s b q.fx:=⟨_,rfl⟩
  have l:d<(h.set d (.box 154 (qG s a x c E rows segs bytes q))).length:=by rw[zz];exact(zd.1 f).1
  have g:∀M,(h.set d (.box 154 (qG s a x c E rows segs bytes q))++M)[d]? =some (.box 154 (qG s a x c E rows segs bytes q)):=λM=>zf (zq f)
  unfold XWa
  rw[<-X]
  simp only[go_sem,t0]
  refine zg (JY (g M) true 0) ?_
  rintro _ h7 ⟨rfl,rfl⟩
  rw[wRa,qb _ _ l,zU]
  cases q1:E==0
  ·simp only[go_sem,q1]
   exact⟨_,rfl,.inl ⟨rfl,M,rfl,Y⟩⟩
  ·simp only[go_sem,q1,t0,t2,g]
   rw[qb _ _ l,zU]
   exact⟨_,rfl,.inl ⟨rfl,M,by rw[V],Y⟩⟩
abbrev V8a(q:Cm):Cm:=⟨q.kind,⟨1,q.fx.ev⟩,q.worker,q.week,q.last⟩
theorem V9a(e:h[d]? =some (.box 154 (qG s a x c 0 rows segs bytes q)))(k:SIn h s a)(b:Bk)(l:SlOf h x 11 (b.evs.map evC))(o:b.evs.length<262144)(n:SlOf h c 1 (b.shut.map qB))(i:b.shut.length<1048576)(g:AV.one x=true):
  ACalls Tryz.prog 77 [.ptr d 0] h λr h'=>r= .tup []/\∃L,h'=h.set d (.box 154 (qG s a (XWa s b ⟨1,q.fx.ev⟩ x) c (WL s b ⟨1,q.fx.ev⟩) rows segs bytes (V8a q)))++L/\NoRes L:=by
 refine zj Tryz.f77 [] 9 rfl rfl rfl rfl rfl rfl (by decide) (⟨_,_,⟨rfl,[],rfl,jf⟩,by rw[zF];exact qj e rfl⟩) λB=>?_
 simp only[go_sem,e]
 have f:=zq (b:=Ob.box 154 (qG s a x c 0 rows segs bytes (V8a q))) e
 refine zg (jnb (q:=V8a q) f (k.keep (.setB e)) b (l.keep (.setB e)) o (n.keep (.setB e)) i g) ?_
 rintro _ p ⟨rfl,L,m,j⟩
 rw[m,zU]
 simp only[go_sem]
 exact⟨_,rfl,.inl ⟨rfl,L,rfl,j⟩⟩
end
end Go.Proofs.YtigdlmpjijhpaaaGreat.Ax
namespace Go.Proofs.YtigdlmpjijhpaaaGreat.Ax
open Go Go.RowKit
section
variable {B:Nat} {w w':World} {g g':Gh} {h h' L:List Ob} {P:Program}
theorem znb(f:HOk B w g h)(hB:B<=w.heap.size){id:Nat}{ty:TypeId}{cs cs':List AV}(c:h[id]? =some (.box ty cs))(m:∀vs:List Value,ARs (ctx w g h) cs vs->ARs (ctx w g (h.set id (.box ty cs'))) cs' vs):Good B w g h w g (h.set id (.box ty cs')):=by
 have d:w.grownBy w ((Ob.box ty cs).blk g id):=⟨rfl,rfl,rfl,zn _,λ_ _ _=>rfl⟩
 have e:=Le.turn (g':=g) (o':= .box ty cs') c rfl d (λ_ _=>rfl) (λ_ _=>rfl) (λb a=> .inl a) (λ_=>⟨rfl,λs l=>by cases l⟩)
 obtain⟨j,vs,i,k⟩:=f.ok id _ c
 exact⟨f.turn c d (λ_ _=>rfl) (λ_ _=>rfl) (λb a=> .inl a) e ⟨j,vs,i,m _ k⟩,e,Below.refl _ _,hB⟩
theorem VX(f:HOk B w g h)(hB:B<=w.heap.size){id:Nat}{ty:TypeId}{cs cs':List AV}(d:h[id]? =some (.box ty cs)){vs:List Value}(i:∃vs':Array Value,w.heap[g.β id]? =some (.cells vs' ty (0,0))/\vs'.toList=vs)(m:ARs (ctx w g h) cs' vs):Good B w g h w g (h.set id (.box ty cs')):=by
 have e:w.grownBy w ((Ob.box ty cs).blk g id):=⟨rfl,rfl,rfl,zn _,λ_ _ _=>rfl⟩
 have c:=Le.turn (g':=g) (o':= .box ty cs') d rfl e (λ_ _=>rfl) (λ_ _=>rfl) (λb a=> .inl a) (λ_=>⟨rfl,λs l=>by cases l⟩)
 obtain⟨k,_⟩:=f.ok id _ d
 obtain⟨vs',j,rfl⟩:=i
 exact⟨f.turn d e (λ_ _=>rfl) (λ_ _=>rfl) (λb a=> .inl a) c ⟨k,vs',j,ARs.le c _ _ m⟩,c,Below.refl _ _,hB⟩
theorem Kh{n:Nat}:∀ {a b:List AV},qz n (a++b)=(qz n a && qz n b)
 | [],_=>rfl
 | x::a,b=>by
   rw[List.cons_append,qz,Kh,qz,Bool.and_assoc]
theorem j3a{c:Ctx}:∀ {h:List AV} {x:AV} {e:List AV} {us:List Value},ARs c (h++x::e) us->∃b u d,us=b++u::d/\ARs c h b/\AR c x u/\ARs c e d
 | [],x,e,us,⟨u,r,g,f,i⟩=>⟨[],u,r,g,rfl,f,i⟩
 | a::h,x,e,us,⟨u,r,g,f,i⟩=>by
   obtain⟨b,v,d,m,k,l,j⟩:=j3a i
   subst m
   exact⟨u::b,v,d,g,⟨u,b,rfl,f,k⟩,l,j⟩
theorem wSa{c:Ctx}:∀ {i:List AV} {x:AV} {f:List AV} {b d:List Value} {u:Value},ARs c i b->AR c x u->ARs c f d->ARs c (i++x::f) (b++u::d)
 | [],x,f,b,d,u,h,g,j=>by
   have h:b=[]:=h
   subst h
   exact⟨u,d,rfl,g,j⟩
 | a::i,x,f,b,d,u,⟨v,r,e,k1,k2⟩,g,j=>by
   subst e
   exact⟨v,_,rfl,k1,wSa k2 g j⟩
theorem XXa{n:Nat}{d:Nat}{o:Ob}(b:∀p∈h,Kq n p=true)(a:Kq n o=true):∀p∈h.set d o,Kq n p=true:=xza b a
theorem yY{f:FuncId}{ar:List AV}{d:Nat}{ty:TypeId}{e cs:List AV}(l:h[d]? =some (.box ty e))(j:∀n,qz n e=true->qz n cs=true)(c:ACalls P f ar h λr h'=>r= .tup []/\∃L,h'=h.set d (.box ty cs)++L/\NoRes L):
  ACalls P f ar h λr h'=>r= .tup []/\h'=h.set d (.box ty cs):=by
 refine⟨c.1,⟨_,_,⟨rfl,rfl⟩,qj l rfl⟩,λφ o B w g vs q hB i=>?_⟩
 refine(c.2.2 φ o B w g vs q hB i).mono λz w' ⟨v,r,h',g',y,⟨t,L,s,_⟩,_,p,m⟩=>?_
 subst t s
 have k:Upto φ (h.set d (.box ty cs)).length:=by rw[zz];exact o
 rw[jC k,jc rfl] at p m
 have hid:=q.ids
 have b:=hid _ (qi (qy (φ:=φ) l rfl))
 have b:qz (fill φ h).length e=true:=b
 have a:((fill φ h).set d (.box ty cs)).length=(fill φ h).length:=zz
 refine⟨v,_,_,g',y,⟨rfl,rfl⟩,qj l rfl,?_,?_⟩
 ·rw[jc rfl]
  exact p.drop a (by rw[a];exact XXa hid (j _ b))
 ·obtain⟨us,x,u⟩:=m
  exact⟨us,x,u⟩
theorem vQ{f:FuncId}{ar:List AV}{d:Nat}{ty:TypeId}{o i j:List AV}{e:Nat}{rows:List (List AV)}(W:0<e)(R:h[d]? =some (.box ty o))(I:∀n,qz n o=true->qz n i=true/\qz n j=true)(hr:∀n,qQ n rows=true)
  (c:ACalls P f ar h λr h'=>r= .tup []/\∃L x,h'=h.set d (.box ty (i++x::j))++L/\NoRes L/\New h e x rows L):
  ACalls P f ar h λr h'=>r= .tup []/\h'=h.set d (.box ty (i++ .sl e rows::j)):=by
 refine⟨c.1,⟨_,_,⟨rfl,rfl⟩,qj R rfl⟩,λφ T B w g vs N hB t=>?_⟩
 refine(c.2.2 φ T B w g vs N hB t).mono λe' w' ⟨v,r,h',g',e1,⟨e2,L,x,V,_,m⟩,_,z,K⟩=>?_
 subst e2 V
 have F:Upto φ (h.set d (.box ty (i++x::j))).length:=by rw[zz];exact T
 rw[jC F,jc rfl] at z K
 have hid:=N.ids
 have q:=qy (φ:=φ) R rfl
 have p:=hid _ (qi q)
 have p:qz (fill φ h).length o=true:=p
 obtain⟨k1,k2⟩:=I _ p
 obtain⟨H,M⟩:∃H,H=fill φ h:=⟨_,rfl⟩
 have A:H.length=h.length:=by rw[M,q9]
 rw[<-M] at z K hid q k1 k2 N⊢
 have l:d<H.length:=(zd.1 q).1
 have E:(H.set d (.box ty (i++x::j))++L)[d]? =some (.box ty (i++x::j)):=by rw[zH (by rw[zz];exact l),zo l]
 obtain⟨b1,D,b2,b3⟩:=z.ok.ok _ _ E
 obtain⟨u1,u,Y,c1,c2,c3,X⟩:=j3a b3
 have y:=znb z.ok z.size E (cs':=i++ .bad::j) λvs hv=>by
  have U:Le (ctx w' g' (H.set d (.box ty (i++x::j))++L)) (ctx w' g' ((H.set d (.box ty (i++x::j))++L).set d (.box ty (i++ .bad::j)))):=
   Le.turn (g':=g') (o':= .box ty (i++ .bad::j)) E rfl ⟨rfl,rfl,rfl,zn _,λ_ _ _=>rfl⟩ (λ_ _=>rfl) (λ_ _=>rfl) (λb hb=> .inl hb) (λ_=>⟨rfl,λs hs=>by cases hs⟩)
  obtain⟨a1,a,a2,z1,z2,z3,z4⟩:=j3a hv
  rw[z1]
  exact wSa (ARs.le U _ _ z2) trivial (ARs.le U _ _ z4)
 have C:(H.set d (.box ty (i++x::j))++L).set d (.box ty (i++ .bad::j))=H.set d (.box ty (i++ .bad::j))++L:=by
  rw[qb _ _ (by rw[zz];exact l),zU]
 rw[C] at y
 have G2:=z.trans y
 have k:(H.set d (.box ty (i++ .bad::j))).length=H.length:=zz
 have O:=G2.drop k (by
  rw[k]
  refine XXa hid ?_
  show qz H.length (i++ .bad::j)=true
  rw[Kh,qz,k1,k2];rfl)
 have Q:SlOf (H.set d (.box ty (i++ .bad::j))++L) x e rows:=m _ (by rw[k,A])
 have G:AR (ctx w' g' (H.set d (.box ty (i++ .bad::j))++L)) x u:=AR.le y.le _ _ c3
 have J:=QT y.ok W G Q (λid hid=>by rw[k,A];exact m.root id hid) (hr _)
 have Z:(H.set d (.box ty (i++ .bad::j)))[d]? =some (.box ty (i++ .bad::j)):=zo l
 have S:=VX O.ok O.size Z (cs':=i++ .sl e rows::j) (vs:=u1++u::Y) ⟨D,b2,c1⟩ (by
  refine wSa ?_ J ?_
  ·exact ARs.less (xD w' g' _ L) _ _ (by rw[k];exact k1) (ARs.le y.le _ _ c2)
  ·exact ARs.less (xD w' g' _ L) _ _ (by rw[k];exact k2) (ARs.le y.le _ _ X))
 rw[zU] at S
 refine⟨v,_,_,g',e1,⟨rfl,rfl⟩,qj R rfl,?_,?_⟩
 ·rw[jc rfl, <-M]
  exact O.trans S
 ·obtain⟨us,q1,q2⟩:=K
  exact⟨us,q1,q2⟩
end
end Go.Proofs.YtigdlmpjijhpaaaGreat.Ax
namespace Go.Proofs.YtigdlmpjijhpaaaGreat.Ax
open Go Go.Proofs
set_option maxRecDepth 100000
abbrev j4a(l:List Int)(st:Nat):Ob:= .row 3 1 (l.map qB) st
theorem zFa(e:Int):Vu (qB e)=e:=rfl
theorem kXa{l:List Int}{i:Nat}{e:Int}(h:l[i]? =some e):(l.map qB)[i]? =some (qB e):=by rw[zx,h];rfl
theorem QHa(p:Int->Bool)(l:List Int):(JB (l.map qB) (λr=>p (Vu r))= -1/\∀e∈l,p e=false)∨∃A x R,l=A++x::R/\JB (l.map qB) (λr=>p (Vu r))=(A.length:Int)/\p x=true/\∀e∈A,p e=false:=by
 by_cases h:∀e∈l,p e=false
 ·refine .inl ⟨yj λj b=>?_,h⟩
  rw[List.getElem_map,zFa]
  exact h _ (zD _)
 ·right
  induction l with
  | nil=>exact absurd (λe a=>by cases a) h
  | cons y l i=>
    cases c:p y with
    | true=>exact⟨[],y,l,rfl,wK (rows:=(y::l).map qB) (k:=0) (by simp) (λj b=>by omega) c,c,λe a=>by cases a⟩
    | false=>
      obtain⟨A,x,R,rfl,m,d,g⟩:=i (λq=>h λe a=>by
       rcases zE.1 a with rfl|a
       ·exact c
       ·exact q e a)
      have f:∀e∈y::A,p e=false:=λe a=>by
       rcases zE.1 a with rfl|a
       ·exact c
       ·exact g e a
      refine⟨y::A,x,R,rfl,?_,d,f⟩
      refine wK (by simp) (λj b=>?_) ?_
      ·rw[List.getElem_map,zFa]
       have:(y::(A++x::R))[j]'(by simp at b ⊢;omega)=(y::A)[j]:=by
        have q:((y::A)++x::R)[j]'(by simp at b ⊢;omega)=(y::A)[j]:=List.getElem_append_left b
        exact q
       rw[this]
       exact f _ (zD _)
      ·rw[List.getElem_map,zFa]
       have:(y::(A++x::R))[(y::A).length]'(by simp)=x:=by
        rw[List.getElem_of_eq (show y::(A++x::R)=(y::A)++x::R from rfl),List.getElem_append_right (zn _)]
        simp
       rw[this]
       exact d
theorem zGa{p:Int->Bool}{l:List Int}(h:∀e∈l,p e=false):l.filter (λe=> !p e)=l:=List.filter_eq_self.2 λe a=>by simp[h e a]
theorem Waa(h:List Ob)(id st:Nat)(l:List Int)(f:FuncId)(cs:List AV)(p:Int->Bool)(hi:h[id]? =some (j4a l st))(hl:l.length<1048576)(Z:∀e∈l,∀o L,ACalls Tryz.prog f ([i64 e]++cs) (h.set id o++L) λr h'=>r=bl (p e)/\h'=h.set id o++L):
  ACalls Tryz.prog 167 [.tl id st,.fn (.func f) [] cs] h λr h'=>∃l2,h'=h.set id (j4a l2 st)/\(r= .tl id st∨∃n,r= .vw (.tl id st) 1 0 n)/\SlOf h' r 1 ((l.filter λe=> !p e).map qB):=by
 have hex:∃r h',(∃l2,h'=h.set id (j4a l2 st)/\(r=AV.tl id st∨∃n,r= .vw (.tl id st) 1 0 n)/\SlOf h' r 1 ((l.filter λe=> !p e).map qB))/\ResK h h':=
  ⟨.tl id st,_,⟨l.filter λe=> !p e,rfl,.inl rfl,by rw[qU,zq hi,kQ,if_pos rfl],λ_=>by rw[jI,zq hi,vT]⟩,qj hi rfl⟩
 have hx:SlOf h (.tl id st) 1 (l.map qB):=⟨by rw[qU,hi,kQ,if_pos rfl],λ_=>by rw[jI,hi,vT]⟩
 have H:Zy h f cs K8a (l.map qB) (λr=>p (Vu r)):=λrow C L=>by
  obtain⟨e,he,rfl⟩:=zw.1 C
  have:=Z e he (j4a l st) L
  rw[qM hi] at this
  exact this
 refine zj Tryz.f167 [.tmp 4] 42 rfl rfl rfl rfl rfl rfl (by decide) (hex) λB=>?_
 simp only[go_sem]
 refine zg (qwb h _ f cs _ _ (by rw[zb];omega) (λr hr=>by obtain⟨e,_,rfl⟩:=zw.1 hr;rfl) hx H) ?_
 rintro _ t ⟨rfl,e1⟩
 subst e1
 rcases QHa p l with⟨K,N⟩|⟨A,x,R,rfl,K,N,q3⟩
 ·rw[K]
  simp only[go_sem]
  exact⟨.tl id st,by simp only[go_sem],.inl ⟨l,(qM hi).symm,.inl rfl,by rw[zGa N];exact hx⟩⟩
 ·rw[K]
  have Q:((A.length:Int)== -1)=false:=by simp
  simp only[ze,List.length_cons] at hl
  have w1:wr ((A.length:Int)+1)=((A.length+1:Nat):Int):=xx (by omega)
  have z:((A++[x]).filter λe=> !p e)=A:=by rw[q8,zGa q3];simp[N]
  simp only[go_sem,Q,w1]
  refine zP (by decide) (λn T h'=>∃(P X c:List Int) (L:List Ob),P++c=A++x::R/\(P.filter λe=> !p e).length+X.length=P.length/\0<X.length/\h'=t.set id (j4a ((P.filter λe=> !p e)++(X++c)) st)++L/\T 0= .tl id st/\T 1= .fn (.func f) [] cs/\T 5=i64 (P.filter λe=> !p e).length/\T 6=i64 P.length/\n=c.length) R.length
   ⟨A++[x],[x],R,[],by simp,by rw[z];simp,by simp,by rw[z,zF];exact(qM hi).symm,by simp only[go_sem],by simp only[go_sem],by(simp only[go_sem]<;>rw[z]),by(simp only[go_sem]<;>simp),rfl⟩ ?_
  rintro n T h' ⟨P,X,c,L,j,O,S,rfl,t0,t1,t5,t6,rfl⟩
  have G:∀M o,(t.set id o++M)[id]? =some o:=λM o=>zf (zq hi)
  have D:=congrArg List.length j
  simp only[ze,List.length_cons] at D
  simp only[go_sem,t6,t0,G,zb,ze]
  refine ways (λe=>?_) (λe=>?_)
  ·have g:=dlt e
   cases c with
   | nil=>first|omega|(simp at g;omega)|(simp at g)
   | cons v c=>
   simp only[List.length_cons] at g D
   obtain⟨a,i⟩:∃a,a=P.filter λe=> !p e:=⟨_,rfl⟩
   rw[<-i] at O t5 g⊢
   have hv:v∈A++x::R:=by rw[<-j];simp
   have J:(a++(X++v::c))[P.length]? =some v:=by
    rw[<-zp]
    rw[zQ (by rw[ze];omega),show P.length - (a++X).length=0 by rw[ze];omega]
    rfl
   have Y:((a++(X++v::c)).map qB)[P.length]? =some [i64 v]:=kXa J
   have la:(P.length:Int)<((a.length+(X.length+(c.length+1)):Nat):Int):=by omega
   have V:wr ((P.length:Int)+1)=((P.length+1:Nat):Int):=xx (by omega)
   have w3:wr ((a.length:Int)+1)=((a.length+1:Nat):Int):=xx (by omega)
   obtain⟨u,m⟩:∃u,u=a++(X++v::c):=⟨_,rfl⟩
   rw[<-m] at Y⊢
   have k:u.length=a.length+(X.length+(c.length+1)):=by rw[m];simp
   simp only[go_sem,t6,t0,t1,G,Y,la,k,zb,Int.toNat_natCast,zh]
   refine zg (Z v hv _ _) ?_
   rintro _ h3 ⟨rfl,e3⟩
   subst e3
   simp only[go_sem]
   have q:(P++[v])++c=A++x::R:=by rw[<-j];simp
   refine ways (λs=>?_) (λs=>?_)
   ·have s:p v=false:=by simpa using s
    have d:((P++[v]).filter λe=> !p e)=a++[v]:=by rw[q8, <-i];simp[s]
    cases X with
    | nil=>simp at S
    | cons U X=>
    have F:u=a++U::(X++v::c):=m
    have rb:(u.map qB)[a.length]? =some [i64 U]:=kXa (by rw[F];simp)
    have I:∀M o y,(t.set id o++M).set id y=t.set id y++M:=λM o y=>by
     rw[jh (zq hi),zU]
    have lb:(a.length:Int)<((a.length+(X.length+1+(c.length+1)):Nat):Int):=by omega
    have E:(u.map qB).set a.length [i64 v]=(a++v::(X++v::c)).map qB:=by
     show(u.map qB).set a.length (qB v)=_
     rw[<-List.map_set,F,zL _ _ (zn _),Nat.sub_self]
     rfl
    have hq:(a++[v])++((X++[v])++c)=a++v::(X++v::c):=by simp
    simp only[go_sem,I,rb,lb,k,zb,Int.toNat_natCast,zh,t0,t1,t5,t6,G,V,w3,E]
    exact⟨c.length,by simp,P++[v],X++[v],c,L,q,by rw[d];simp at O ⊢;omega,by simp,by rw[d,hq],by rw[d];exact jV (by simp),jV (by simp),rfl⟩
   ·have s:p v=true:=by simpa using s
    have d:((P++[v]).filter λe=> !p e)=a:=by rw[q8, <-i];simp[s]
    simp only[go_sem,t6,V]
    exact⟨c.length,by simp,P++[v],X++[v],c,L,q,by rw[d];simp;omega,by simp,by rw[d,m];simp,t0,t1,by rw[d];exact t5,jV (by simp),rfl⟩
  ·have ν:=xb e
   have hR:c=[]:=zC (by omega)
   subst hR
   rw[zF] at j
   subst j
   obtain⟨a,i⟩:∃a,a=(A++x::R).filter λe=> !p e:=⟨_,rfl⟩
   rw[<-i] at t5 O⊢
   have f0:(0:Int)<=(a.length:Int):=by omega
   have W:(a.length:Int)<=((a.length+X.length:Nat):Int):=by omega
   have f2:a.length+X.length - a.length=X.length:=by omega
   have I:∀M o y,(t.set id o++M).set id y=t.set id y++M:=λM o y=>by
    rw[jh (zq hi),zU]
   have hz:List.take a.length ((a++X).map qB)++(List.replicate X.length ([i64 0]:List AV)++List.drop (a.length+X.length) ((a++X).map qB))=(a++List.replicate X.length (0:Int)).map qB:=by
    rw[List.drop_of_length_le (by simp),zF,zy,zy,qO (by simp),List.take_of_length_le (by simp),List.map_replicate]
    rfl
   have f3:((a.length:Nat):Int)<=((a.length+X.length:Nat):Int):=W
   simp only[go_sem,t0,t5,G,I,hz,zb,ze,qZ,f0,W,f2,Int.toNat_natCast,true_and,or_true,Int.le_refl,zn,Option.bind_some,qZ,List.all_replicate,ite_self,Nat.sub_zero]
   have g:=(zd.1 hi).1
   refine⟨.vw (.tl id st) 1 0 a.length,by simp only[go_sem],.inr ⟨t.set id _,L,rfl,by simp,by simp[AV.lt,g],KeepLt.refl.set rfl (ZE _),⟨_,rfl,.inr ⟨_,rfl⟩,?_⟩⟩⟩
   have w:=zq (b:=j4a (a++List.replicate X.length (0:Int)) st) hi
   refine⟨?_,λ_=>?_⟩
   ·rw[kP,qU,w,kQ,if_pos rfl,Option.bind_some,if_pos ⟨by simp,.inr (by rw[jI,w,vT])⟩]
    simp
   ·rw[Z7,jI,w,vT]
    rfl
def xP(p:RowV × List Flg):List AV:=yX p.1++[.sl 2 (p.2.map xy)]
theorem Q8{n:Nat}:∀l:List (RowV × List Flg),qQ n (l.map xP)=true
 | []=>rfl
 | p::l=>by
   rw[List.map_cons,qQ,Q8 l]
   simp only[xP,yX,List.cons_append,List.nil_append,qz,AV.lt,jWa,Bool.and_self]
structure DE (h:List Ob) (d:Nat) (mk:AV->Ob) (y:AV) (rows:List (List AV)) (H:List Ob):Prop where
 eq:∃M,H=h.set d (mk y)++M/\NoRes M
 own:OwnS h H 45 27 y rows
theorem DE.base{h:List Ob}{d:Nat}{mk:AV->Ob}:DE h d mk (.v (.slice none 0 0)) [] (h.set d (mk (.v (.slice none 0 0)))):=⟨⟨[],by rw[zF],jf⟩,.inl ⟨rfl,rfl⟩⟩
theorem DE.one{h:List Ob}{d:Nat}{mk:AV->Ob}{y y':AV}{rows rows':List (List AV)}{H:List Ob}(k:DE h d mk y rows H)(f:d<h.length){N:List Ob}(c:NoRes N)(a:OwnS h ((H++N).set d (mk y')) 45 27 y' rows'):DE h d mk y' rows' ((H++N).set d (mk y')):=by
 obtain⟨M,e,b⟩:=k.eq
 refine⟨⟨M++N,?_,λo a=>?_⟩,a⟩
 ·rw[e,zp,qb _ _ (by rw[zz];exact f),zU]
 ·rcases zJ.1 a with a|a
  ·exact b o a
  ·exact c o a
theorem DE.two{h:List Ob}{d:Nat}{mk:AV->Ob}{y y':AV}{rows rows':List (List AV)}{H:List Ob}(k:DE h d mk y rows H)(i:d<h.length){N:List Ob}(e:NoRes N){id:Nat}{o:Ob}(hid:h.length<=id)(b:o.isRes=false)(g:OwnS h (((H++N).set id o).set d (mk y')) 45 27 y' rows'):DE h d mk y' rows' (((H++N).set id o).set d (mk y')):=by
 obtain⟨M,f,c⟩:=k.eq
 refine⟨⟨(M++N).set (id - h.length) o,?_,λp a=>?_⟩,g⟩
 ·rw[f,zp,zL _ _ (by rw[zz];exact hid),zz,qb _ _ (by rw[zz];exact i),zU]
 ·rcases List.mem_or_eq_of_mem_set a with a|a
  ·rcases zJ.1 a with a|a
   ·exact c p a
   ·exact e p a
  ·rw[a];exact b
section
variable {h:List Ob} {d:Nat} {s:Setup} {a:SA} {x c:AV} {segs:AV} {q:Cm}
theorem kYa{s:Setup}(f:SFit s)(p:qt):Fit (kV s p)/\Fit (kV s p+1):=by
 have g: -1<=kV s p/\kV s p<9223372036854775807:=by
  cases b:qv s
  ·have:kV s p= -1:=by simp[kV,b]
   omega
  ·cases a:rok p
   ·have:kV s p= -1:=by simp[kV,a]
    omega
   ·rcases yxa b a with⟨e,_⟩|⟨j,t,c,d,_⟩
    ·omega
    ·have:=(zd.1 c).1
     have:=f.nt
     omega
 constructor<;>(unfold Fit;omega)
theorem VY{s:Setup}(f:SFit s)(l:List Ev)(w wk:Int)(d:l.length<=1000):(Fit (jj s l w wk).1.tier/\Fit ((jj s l w wk).1.tier+1))/\(jj s l w wk).2.length<524288:=by
 unfold jj
 split
 ·exact⟨by constructor<;>(show Fit _;unfold Fit;first|exact(by decide:(-9223372036854775808:Int)<= -1/\(-1:Int)<=9223372036854775807)|exact(by decide:(-9223372036854775808:Int)<= -1+1/\(-1+1:Int)<=9223372036854775807)),by show 0<524288;decide⟩
 ·constructor
  ·show Fit (ite _ (kV s _) (-1))/\Fit (ite _ (kV s _) (-1)+1)
   split
   ·exact kYa f _
   ·constructor<;>(unfold Fit;decide)
  ·have c:= @Wx s (evR s w l) w
   have b:(evR s w l).length<=l.length:=WY s w l
   have a:=qo (λg=>K1 (evR s w l) g==wk) (qF s (evR s w l) w).2
   show(List.filter _ _).length<_
   omega
theorem XYa{s:Setup}(f:SFit s)(l:List Ev)(w wk:Int)(a:l.length<=1000):Fit (jj s l w wk).1.tier/\(jj s l w wk).2.length<524288:=⟨(VY f l w wk a).1.1,(VY f l w wk a).2⟩
theorem VZ{s:Setup}{b:Bk}{wk:Int}:(ka s b wk).length=s.rates.length:=by rw[ka,zb,xi]
theorem wTa{s:Setup}{b:Bk}{wk:Int}{n:Nat}(h:n<s.rates.length):((ka s b wk).take (n+1)).map xP=((ka s b wk).take n).map xP++[xP (jj s b.evs (n:Int) wk)]:=by
 have a:n<(ka s b wk).length:=by rw[VZ];exact h
 rw[show(ka s b wk).take (n+1)=(ka s b wk).take n++[(ka s b wk)[n]] from(zI a).symm,zy]
 simp[ka]
theorem XZa(i:h[d]? =some (.box 154 (qG s a x c 0 (.v (.slice none 0 0)) segs (.v (.slice none 0 0)) q)))(k:SIn h s a)(f:SFit s)(b:Bk)(hx:SlOf h x 11 (b.evs.map evC))(Z:b.evs.length<=1000)(hc:SlOf h c 1 (b.shut.map qB))(O:b.shut.length<1048576)(N:s.rates.length<4096):
  ACalls Tryz.prog 83 [.ptr d 0] h λr h'=>r= .tup []/\∃L y,h'=h.set d (.box 154 (qG s a x c (if jU b.shut q.week then 0 else 212) y segs (if jU b.shut q.week then .sl 1 ((jZ (ka s b q.week)).1.map qX) else .v (.slice none 0 0)) q))++L/\NoRes L/\
   New h 27 y ((if jU b.shut q.week then ka s b q.week else []).map xP) L:=by
 have hex:∃r h',(r=AV.tup []/\∃L y,h'=h.set d (.box 154 (qG s a x c (if jU b.shut q.week then 0 else 212) y segs (if jU b.shut q.week then .sl 1 ((jZ (ka s b q.week)).1.map qX) else .v (.slice none 0 0)) q))++L/\NoRes L/\
   New h 27 y ((if jU b.shut q.week then ka s b q.week else []).map xP) L)/\ResK h h':=
  ⟨_,_,⟨rfl,[],.sl 27 _,rfl,jf,λ_ _=>⟨rfl,λ_=>rfl⟩⟩,by rw[zF];exact qj i rfl⟩
 refine zj Tryz.f83 [] 64 rfl rfl rfl rfl rfl rfl (by decide) (hex) λB=>?_
 simp only[go_sem,i]
 refine zg (WZ i b.shut hc O q.week) ?_
 rintro _ h1 ⟨rfl,e1⟩
 rw[e1,show b.shut.any (q.week== ·)=jU b.shut q.week from rfl]
 simp only[go_sem]
 refine zg (JY i (jU b.shut q.week) 212) ?_
 rintro _ V ⟨rfl,rfl⟩
 cases η:jU b.shut q.week
 ·rw[show jM 0 false 212=212 from rfl]
  simp only[go_sem]
  exact⟨_,rfl,.inl ⟨rfl,[],_,by rw[zF],jf,λ_ _=>⟨rfl,λq=>absurd rfl q⟩⟩⟩
 ·rw[show jM 0 true 212=0 from rfl,qM i]
  have u:=(zd.1 i).1
  simp only[go_sem,i,k.r.rows,zb]
  refine zP (by decide) (λm T H=>∃(n:Nat) (y:AV),n<=s.rates.length/\DE h d (λy=> .box 154 (qG s a x c 0 y segs (.v (.slice none 0 0)) q)) y (((ka s b q.week).take n).map xP) H/\T 0= .ptr d 0/\T 18=i64 s.rates.length/\T 19=i64 n/\m=s.rates.length - n) s.rates.length
   ⟨0,_,by omega,by have:=DE.base (h:=h) (d:=d) (mk:=λy=> .box 154 (qG s a x c 0 y segs (.v (.slice none 0 0)) q));rw[qM i] at this;exact this,by simp only[go_sem],by(simp only[go_sem]<;>rfl),by(simp only[go_sem]<;>rfl),rfl⟩ ?_
  rintro m T H ⟨n,y,hn,o,t0,P,j,rfl⟩
  simp only[go_sem,P,j]
  have R:=zq (b:=Ob.box 154 (qG s a x c 0 y segs (.v (.slice none 0 0)) q)) i
  obtain⟨M,E,hM⟩:=o.eq
  have A:H[d]? =some (.box 154 (qG s a x c 0 y segs (.v (.slice none 0 0)) q)):=by rw[E];exact zf R
  have kk:RowsK h H:=by rw[E];exact λid ty e xs st hh=>zf (RowsK.setB i id ty e xs st hh)
  have k3:=k.keep kk
  have Q:=hx.keep kk
  have ν:h.length<=H.length:=by rw[E];simp
  refine ways (λe=>?_) (λe=>?_)
  ·have K:=dlt e
   simp only[go_sem]
   refine zV rfl [.res] 1 [(0,0,[]),(1,0,[]),(2,0,[]),(3,0,[]),(4,0,[]),(6,0,[]),(7,0,[]),(8,0,[]),(9,0,[]),(11,0,[]),(12,0,[]),(13,0,[]),(14,0,[]),(16,0,[]),(17,0,[]),(18,0,[]),(19,0,[]),(20,0,[]),(5,0,[]),(10,0,[]),(15,0,[]),(21,0,[]),(22,0,[5]),(23,0,[]),(24,0,[]),(25,0,[]),(26,0,[]),(27,0,[]),(28,0,[])] rfl (by decide) (by decide) ?_
   have g:∀M,(H++M)[d]? =some (.box 154 (qG s a x c 0 y segs (.v (.slice none 0 0)) q)):=λM=>zf A
   simp only[go_sem,g,t0,j]
   refine zg (q4b _ s a (k3.app _) f x b.evs n q.week (Q.app _) Z) ?_
   rintro _ h3 ⟨rfl,I⟩
   rw[I]
   have z:=wTa (s:=s) (b:=b) (wk:=q.week) K
   obtain⟨W,hW⟩:∃W,W=jj s b.evs n q.week:=⟨_,rfl⟩
   rw[<-hW] at z⊢
   rcases o.own with⟨rfl,G⟩|⟨id,st,X,rfl,u3⟩
   ·simp only[go_sem,g,j,yX,List.cons_append,List.nil_append]
    refine⟨s.rates.length - (n+1),by omega,n+1,.tl (H.length+1) 0,by omega,?_,by assumption,by assumption,qm (by omega) rfl,rfl⟩
    refine o.one u (zr rfl (zG rfl)) ?_
    refine OwnS.setB (.inr ⟨_,0,by omega,rfl,?_⟩) (g _)
    rw[z,G,zK (k:=1) rfl];rfl
   ·have F:∀M,(H++M)[id]? =some (.row 45 27 (((ka s b q.week).take n).map xP) st):=λM=>zf u3
    have C:((((ka s b q.week).take n).map xP).length+1)*233<=140737488355328:=by
     rw[zb,qa]
     omega
    have l:∀M o',((H++M).set id o')[d]? =some (.box 154 (qG s a x c 0 (.tl id st) segs (.v (.slice none 0 0)) q)):=λM o'=>by
     rw[zc (by omega)];exact g M
    simp only[go_sem,g,j,F,C,l,yX,List.cons_append,List.nil_append]
    refine⟨s.rates.length - (n+1),by omega,n+1,.tl id (st+1),by omega,?_,by assumption,by assumption,qm (by omega) rfl,rfl⟩
    refine o.two u (zG rfl) X rfl ?_
    refine OwnS.setB (.inr ⟨id,st+1,X,rfl,?_⟩) (l _ _)
    rw[z]
    exact zq (F _)
  ·have ι:=xb e
   have J:n=s.rates.length:=by omega
   subst J
   have U:(ka s b q.week).take s.rates.length=ka s b q.week:=by rw[<-VZ (s:=s) (b:=b) (wk:=q.week),zZ]
   rw[U] at o
   simp only[go_sem,t0,A]
   have S:(ka s b q.week).map xP=((ka s b q.week).map λp:RowV × List Flg=>(⟨p.1,.sl 2 (p.2.map xy),p.2⟩:RwA)).map λq=>xO q.1 q.2.1:=by rw[vi];rfl
   have t:kF ((ka s b q.week).map λp:RowV × List Flg=>(⟨p.1,.sl 2 (p.2.map xy),p.2⟩:RwA))=ka s b q.week:=by rw[kF,vi];exact List.map_id _
   refine zg (Y9a H y _ (by rw[<-S];exact o.own.rows) (λp hp=>by
    obtain⟨r,hr,rfl⟩:=zw.1 hp
    obtain⟨w,_,rfl⟩:=zw.1 hr
    have:=XYa f b.evs (w:Int) q.week Z
    exact⟨⟨rfl,λ_=>rfl⟩,this.1,this.2⟩) (by rw[zb,VZ];exact N)) ?_
   rintro _ h3 ⟨rfl,I⟩
   rw[I,t]
   simp only[go_sem,A]
   have D:New h 27 y ((ka s b q.week).map xP) M:=by
    have Y:=o.own
    rw[E] at Y
    have:=Y.new (by rw[zz];exact zn _)
    exact λV e=>this V (by rw[e,zz])
   refine⟨_,rfl,.inl ⟨rfl,M,y,?_,hM,D⟩⟩
   rw[E,qb _ _ (by rw[zz];exact u),zU]
end
open Go.Shelf Go.RowKit Go.Lib Go.Sort
def Xy(x:Int):List Value:=[.int .i64 x]
theorem job(d:Array Int)(j:Nat)(h:j<d.size):(flatK Xy 1 d)[j]! = .int .i64 d[j]! :=by
 rw[get_flatK _ _ _ _ (by omega),Nat.div_one,Nat.mod_one];rfl
theorem X0a(w:World)(blk off:Nat)(d:Array Int):putRow (Value.int .i64) w blk off d=putRow id w blk off (flatK Xy 1 d):=by
 have:putCells (Value.int .i64) off d=putCells id off (flatK Xy 1 d):=by
  funext c
  unfold putCells
  apply Array.ext_getElem?
  intro k
  simp only[Array.getElem?_mapIdx,size_flatK,Nat.mul_one,id]
  cases c[k]? with
  | none=>rfl
  | some y=>
    simp only[Option.map_some]
    by_cases a:off<=k/\k<off+d.size
    ·rw[if_pos a,if_pos a,job d _ (by omega)]
    ·rw[if_neg a,if_neg a]
 unfold putRow
 rw[this]
theorem wUa{n:Int}{l:List Int}(i:n∉l)(h:l.Pairwise (· < ·)):(l++[n]).mergeSort (λx y=>decide (x<=y))=J1 n l:=by
 have e:=List.mergeSort_perm (l++[n]) (λx y:Int=>decide (x<=y))
 have d:=List.pairwise_mergeSort (le:=λx y:Int=>decide (x<=y)) (λa b c p q=>by
  simp only[decide_eq_true_eq] at *; omega) (λa b=>by
  simp only[Bool.or_eq_true,decide_eq_true_eq];omega) (l++[n])
 have g:=VT i h
 have f:((l++[n]).mergeSort λx y=>decide (x<=y)).Perm (J1 n l):=e.trans ((List.perm_append_comm).trans (q1a n l).symm)
 refine List.Perm.eq_of_pairwise (le:=λa b:Int=>a<=b) (λa b _ _ p q=>by omega) ?_ ?_ f
 ·exact d.imp λp=>by simpa using p
 ·exact g.imp λp=>by omega
theorem X1a(h:List Ob)(id st:Nat)(l:List Int)(G:h[id]? =some (.row 3 1 (l.map qB) st))(Z:l.length<1099511627776)(I:l≠[]):
  ACalls Tryz.prog 166 [.tl id st] h λr h'=>r= .tup []/\h'=h.set id (.row 3 1 ((l.mergeSort λx y=>decide (x<=y)).map qB) st):=by
 refine⟨by kernel_rfl,⟨_,_,⟨rfl,rfl⟩,qj G rfl⟩,?_⟩
 intro φ X B w g vs L hB m
 have i:(fill φ h)[id]? =some (.row 3 1 (l.map λx=>(Xy x).map .v) st):=qy G rfl
 obtain⟨v1,V,rfl,⟨_,A,q⟩,C⟩:=m
 have C:V=[]:=C
 subst C
 have O:v1=g.cur id:=(q st (by simp[ctx,i,Ob.tok])).2 rfl
 obtain⟨W,Y,cells,Q,M⟩:=L.ok id _ i
 rw[zia] at M
 have S:=KS M
 subst S
 have c:∀x,(Xy x).length=1:=λ_=>rfl
 rcases Q.2 with⟨_,f⟩|⟨o,cap,cur,f,N,u,E,P,J,K⟩
 ·exfalso
  simp at f
  exact I f
 ·have f:g.cur id=_:=f
  simp only[zb] at f E K
  have D:l.length*1<=cur.size:=by rw[J];exact Nat.mul_le_mul_right _ E
  have F:∀j,j<l.length*1->cur[j]? =some ((Xy l.toArray[j / 1]!)[j % 1]!):=λj t=>by
   rw[<-KY Xy 1 (by decide) c l j t, <-K,jr,if_pos t,qr]
  have T:Holds (Value.int .i64) w o 0 l.toArray:=λj t=>by
   have t:j<l.length:=by simpa using t
   refine⟨?_,?_⟩
   ·simp only[World.cell?,u,Nat.zero_add]
    have:=F j (by omega)
    rw[Nat.div_one,Nat.mod_one] at this
    exact this
   ·simp[World.frozen?,u]
  have k:Calls Tryz.prog 166 _ _ _:=AnyG.slices_Sort_int Wba o 0 cap l w T (qx.1 u).1 (by omega)
  rw[O,f]
  refine k.mono ?_
  rintro e w' ⟨rfl,n,os,rfl⟩
  rw[X0a]
  obtain⟨a,p⟩:∃a,a=(l.mergeSort λx y=>decide (x<=y)).toArray:=⟨_,rfl⟩
  have H:(l.mergeSort λx y=>decide (x<=y))=a.toList:=by rw[p]
  rw[H,show a.toList.toArray=a from Array.toArray_toList]
  have z:a.size=l.length:=by rw[p];simp
  have R:(flatK Xy 1 a).toList=Zb Xy a.toList:=Ws Xy 1 (by decide) c a.toList
  have s:(flatK Xy 1 a).size=l.length*1:=by simp[z]
  have d:=Qa (w':=grow (putRow _root_.id (Sort.ahead w n) o 0 (flatK Xy 1 a)) os) (v':=g.cur id) (st':=st) (xs':=a.toList.map λx=>(Xy x).map .v) (cells:=Zb Xy a.toList) L hB i (by simp[c]) (by rw[f];exact VE w o n _ os)
   ⟨by rw[Xn Xy 1 c];simp,.inr ⟨o,cap,_,by simp[f,z],N,YR w o n _ os u,by simp[z];exact E,P,by simp[putCells];rw[J,Nat.mul_one],by
    have:=YS (flatK Xy 1 a) cur (by rw[s];exact D)
    rw[R,s] at this
    simpa [z] using this⟩⟩ (by rw[zia];exact Jn _) (.inl ⟨rfl,rfl⟩) (λb U=> .inl U)
  rw[<-jc rfl] at d
  exact⟨_,_,_,_,rfl,⟨rfl,rfl⟩,qj G rfl,d, #[],rfl,rfl⟩
end Go.Proofs.YtigdlmpjijhpaaaGreat.Ax
namespace Go.Proofs.YtigdlmpjijhpaaaGreat.Ax
open Go Go.Proofs
set_option maxRecDepth 100000
theorem k0a(l:List Int):((l.map qB).all λr=>r.length==1 && r.all AV.one)=true:=by
 rw[zR];intro r a;obtain⟨s,_,rfl⟩:=zw.1 a;rfl
theorem yWa{h:List Ob}{d:Nat}{a o:Ob}{l:List Int}{st:Nat}(b:d<h.length):((h++[a,.row 3 1 (l.map qB) st]).set d o)[h.length+1]? =some (.row 3 1 (l.map qB) st):=by
 rw[zc (by omega),zK (k:=1) rfl];rfl
theorem k1a{h:List Ob}{d:Nat}{b o e a:Ob}(c:d<h.length):((h++[b,e]).set d o).set (h.length+1) a=h.set d o++[b,a]:=by
 rw[qb _ _ c,zL _ _ (by rw[zz];omega),zz,Nat.add_sub_cancel_left];rfl
theorem k2a{h:List Ob}{a:Ob}{l:List Int}{st:Nat}:New h 1 (.tl (h.length+1) st) (l.map qB) [a,.row 3 1 (l.map qB) st]:=OwnS.new (h0:=h) (ty:=3) (.inr ⟨h.length+1,st,by omega,rfl,by rw[zK (k:=1) rfl];rfl⟩) (zn _)
section
variable {h:List Ob} {d:Nat} {s:Setup} {a:SA} {x c:AV} {rows segs bytes:AV} {q:Cm}
def yq(b:Bk)(q:Cm):Bool:=JZ q && !jU b.shut q.week
theorem zob(g:h[d]? =some (.box 154 (qG s a x c 0 rows segs bytes q)))(b:Bk)(D:SlOf h c 1 (b.shut.map qB))(z:b.shut.length<1048576)(H:b.shut.Pairwise (· < ·)):
  ACalls Tryz.prog 81 [.ptr d 0] h λr h'=>r= .tup []/\∃L y,h'=h.set d (.box 154 (qG s a x y (if yq b q then 0 else 212) rows segs bytes q))++L/\NoRes L/\
   (yq b q=false->y=c/\L=[])/\(yq b q=true->New h 1 y ((J1 q.week b.shut).map qB) L):=by
 have hex:∃r h',(r=AV.tup []/\∃L y,h'=h.set d (.box 154 (qG s a x y (if yq b q then 0 else 212) rows segs bytes q))++L/\NoRes L/\
   (yq b q=false->y=c/\L=[])/\(yq b q=true->New h 1 y ((J1 q.week b.shut).map qB) L))/\ResK h h':=by
  cases Q:yq b q
  ·exact⟨_,_,⟨rfl,[],c,rfl,jf,λ_=>⟨rfl,rfl⟩,λq=>by cases q⟩,by rw[zF];exact qj g rfl⟩
  ·exact⟨_,_,⟨rfl,[],.sl 1 _,rfl,jf,λq=>(by cases q),λ_ _ _=>⟨rfl,λ_=>rfl⟩⟩,by rw[zF];exact qj g rfl⟩
 refine zj Tryz.f81 [] 39 rfl rfl rfl rfl rfl rfl (by decide) (hex) λB=>?_
 simp only[go_sem,g]
 refine zg (XKa g) ?_
 rintro _ O ⟨rfl,K⟩
 rw[K]
 cases E:JZ q
 ·have n:yq b q=false:=by unfold yq;rw[E];rfl
  simp only[go_sem]
  refine zg (JY g false 212) ?_
  rintro _ J ⟨rfl,rfl⟩
  rw[show jM 0 false 212=212 from rfl]
  simp only[go_sem]
  exact⟨_,rfl,.inl ⟨rfl,[],c,by rw[n,zF];rfl,jf,λ_=>⟨rfl,rfl⟩,λq=>by rw[n] at q;cases q⟩⟩
 ·simp only[go_sem,g]
  refine zg (WZ g b.shut D z q.week) ?_
  rintro _ J ⟨rfl,N⟩
  rw[N,show b.shut.any (q.week== ·)=jU b.shut q.week from rfl]
  have p:yq b q= !jU b.shut q.week:=by unfold yq;rw[E];rfl
  simp only[go_sem]
  refine zg (JY g (!jU b.shut q.week) 212) ?_
  rintro _ P ⟨rfl,rfl⟩
  rw[p]
  cases C:jU b.shut q.week
  ·rw[show jM 0 (!false) 212=0 from rfl,qM g]
   simp only[go_sem]
   refine zV rfl [.res] 1 [(0,0,[]),(1,0,[]),(2,0,[]),(3,0,[]),(4,0,[]),(7,0,[]),(8,0,[]),(9,0,[]),(10,0,[]),(5,0,[]),(11,0,[]),(6,0,[11]),(12,0,[]),(13,0,[]),(14,0,[]),(15,0,[]),(16,0,[]),(17,0,[])] rfl (by decide) (by decide) ?_
   have f:∀M,(h++M)[d]? =some (.box 154 (qG s a x c 0 rows segs bytes q)):=λM=>zf g
   have i:=(zd.1 g).1
   have k:q.week∉b.shut:=λI=>by rw[Xp.2 I] at C;cases C
   have e:=wUa k H
   simp only[go_sem,f]
   refine zg (VP _ c (b.shut.map qB) (D.app _) (by rw[zb];omega) (k0a _)) ?_
   rintro _ R (⟨u,w,rfl⟩|⟨w,rfl⟩)
   ·have F:b.shut=[]:=by simpa using u
    rw[w]
    rw[F] at e⊢
    have j:∀M o,((h++M).set d o)[d]? =some o:=λM o=>zq (f M)
    simp only[go_sem,f,j]
    refine zg (X1a _ (h.length+1) 0 [q.week] (yWa (l:=[q.week]) i) (by simp) (by simp)) ?_
    rintro _ G ⟨rfl,A⟩
    rw[A,k1a i,show([q.week].mergeSort λx y=>decide (x<=y))=J1 q.week [] from e]
    simp only[go_sem]
    exact⟨_,rfl,.inl ⟨rfl,_,.tl (h.length+1) 0,rfl,zr rfl (zG rfl),λq=>(by cases q),λ_=>k2a⟩⟩
   ·rw[w]
    have m:((b.shut.map qB).length+1)*9<=140737488355328:=by rw[zb];omega
    have t:b.shut.map qB++[[AV.v (Value.int IntKind.i64 q.week)]]=(b.shut++[q.week]).map qB:=by rw[zy];rfl
    have j:∀M o,((h++M).set d o)[d]? =some o:=λM o=>zq (f M)
    simp only[go_sem,f,m,t,j]
    refine zg (X1a _ (h.length+1) 2 (b.shut++[q.week]) (yWa (l:=b.shut++[q.week]) i) (by simp;omega) (by simp)) ?_
    rintro _ G ⟨rfl,A⟩
    rw[A,k1a i,e]
    simp only[go_sem]
    exact⟨_,rfl,.inl ⟨rfl,_,.tl (h.length+1) 2,rfl,zr rfl (zG rfl),λq=>(by cases q),λ_=>k2a⟩⟩
  ·rw[show jM 0 (!true) 212=212 from rfl]
   simp only[go_sem]
   exact⟨_,rfl,.inl ⟨rfl,[],c,by rw[zF],jf,λ_=>⟨rfl,rfl⟩,λq=>by cases q⟩⟩
end
theorem QIa{h h':List Ob}{id st e:Nat}{y:AV}{xs:List (List AV)}(b:y= .tl id st∨∃n,y= .vw (.tl id st) 1 0 n)(a:h[id]? =h'[id]?)(k:SlOf h y e xs):SlOf h' y e xs:=by
 obtain⟨k1,k2⟩:=k
 rcases b with rfl|⟨n,rfl⟩
 ·refine⟨?_,λq=>?_⟩
  ·rw[qU] at k1 ⊢;rw[<-a];exact k1
  ·have:=k2 q
   rw[jI] at this ⊢;rw[<-a];exact this
 ·refine⟨?_,λq=>?_⟩
  ·rw[kP,qU,jI] at k1 ⊢;rw[<-a];exact k1
  ·have:=k2 q
   rw[Z7,jI] at this ⊢;rw[<-a];exact this
theorem k3a{h:List Ob}{a b:Ob}{y:AV}{st:Nat}{xs:List (List AV)}(c:y= .tl (h.length+1) st∨∃n,y= .vw (.tl (h.length+1) st) 1 0 n)(k:SlOf ((h++[a])++[b]) y 1 xs):New h 1 y xs [a,b]:=λd e=>by
 refine QIa c ?_ k
 rw[zp,show [a]++[b]=[a,b] from rfl,zK (k:=1) rfl, <-e,zK (k:=1) rfl]
section
variable {h:List Ob} {d:Nat} {s:Setup} {a:SA} {x c:AV} {rows segs bytes:AV} {q:Cm}
theorem zpb(z:h[d]? =some (.box 154 (qG s a x c 0 rows segs bytes q)))(b:Bk)(D:SlOf h c 1 (b.shut.map qB))(t:b.shut.length<1048576):
  ACalls Tryz.prog 82 [.ptr d 0] h λr h'=>r= .tup []/\∃L y,h'=h.set d (.box 154 (qG s a x y (if jU b.shut q.week then 0 else 212) rows segs bytes q))++L/\NoRes L/\
   (jU b.shut q.week=false->y=c)/\(jU b.shut q.week=true->New h 1 y ((b.shut.filter λw=> !(w==q.week)).map qB) L):=by
 have hex:∃r h',(r=AV.tup []/\∃L y,h'=h.set d (.box 154 (qG s a x y (if jU b.shut q.week then 0 else 212) rows segs bytes q))++L/\NoRes L/\
   (jU b.shut q.week=false->y=c)/\(jU b.shut q.week=true->New h 1 y ((b.shut.filter λw=> !(w==q.week)).map qB) L))/\ResK h h':=by
  cases P:jU b.shut q.week
  ·exact⟨_,_,⟨rfl,[],c,rfl,jf,λ_=>rfl,λq=>by cases q⟩,by rw[zF];exact qj z rfl⟩
  ·exact⟨_,_,⟨rfl,[],.sl 1 _,rfl,jf,λq=>(by cases q),λ_ _ _=>⟨rfl,λ_=>rfl⟩⟩,by rw[zF];exact qj z rfl⟩
 have m:=(zd.1 z).1
 have v:∀M,(h++M)[d]? =some (.box 154 (qG s a x c 0 rows segs bytes q)):=λM=>zf z
 refine zj Tryz.f82 [] 23 rfl rfl rfl rfl rfl rfl (by decide) (hex) λB=>?_
 simp only[go_sem,v]
 obtain⟨H,i⟩:∃H,H=h++[Ob.box 151 [.ptr d 0]]:=⟨_,rfl⟩
 have p:H.length=h.length+1:=by rw[i];simp
 have j:H[d]? =some (.box 154 (qG s a x c 0 rows segs bytes q)):=by rw[i];exact v _
 have l:H[h.length]? =some (.box 151 [.ptr d 0]):=by rw[i,zM rfl];rfl
 rw[<-i]
 have g:∀M,(H++M)[h.length]? =some (.box 151 [.ptr d 0]):=λM=>zf l
 have f:∀M,(H++M)[d]? =some (.box 154 (qG s a x c 0 rows segs bytes q)):=λM=>zf j
 refine zV rfl [] 0 [(0,0,[]),(1,0,[]),(2,0,[]),(3,0,[]),(4,0,[]),(5,0,[]),(6,0,[]),(7,0,[0]),(8,0,[])] rfl (by decide) (by decide) ?_
 simp only[go_sem,j,l,g,f]
 refine zg (WZ j b.shut (by rw[i];exact D.app _) t q.week) ?_
 rintro _ Q ⟨rfl,K⟩
 rw[K,show b.shut.any (q.week== ·)=jU b.shut q.week from rfl]
 simp only[go_sem,l]
 refine zg (JY j (jU b.shut q.week) 212) ?_
 rintro _ O ⟨rfl,rfl⟩
 cases C:jU b.shut q.week
 ·rw[show jM 0 false 212=212 from rfl]
  simp only[go_sem]
  refine⟨_,rfl,.inl ⟨rfl,[.box 151 [.ptr d 0]],c,?_,zG rfl,λ_=>rfl,λq=>by cases q⟩⟩
  rw[i,qb _ _ m]
 ·rw[show jM 0 true 212=0 from rfl,qM j]
  simp only[go_sem]
  refine zV rfl [] 0 [(7,0,[]),(0,0,[]),(1,0,[]),(2,0,[]),(3,0,[]),(4,0,[]),(5,0,[]),(6,0,[0]),(8,0,[0]),(9,0,[]),(10,0,[]),(11,0,[]),(12,0,[])] rfl (by decide) (by decide) ?_
  simp only[go_sem,j,l,g,f]
  refine zg (VP _ c (b.shut.map qB) (by rw[i];exact D.app _) (by rw[zb];omega) (k0a _)) ?_
  rintro _ R (⟨u,A,rfl⟩|⟨A,rfl⟩)
  ·exfalso
   have E:b.shut=[]:=by simpa using u
   rw[E] at C
   cases C
  ·rw[A]
   simp only[go_sem,f,g]
   refine zg (Waa _ H.length 1 b.shut 168 [.ptr h.length 0] (λn=>n==q.week) (by rw[zM rfl];rfl) t (λe N o L=>zab (by rw[zL _ _ (zn _),zp];exact f _) h.length (by rw[zL _ _ (zn _),zp];exact g _) e)) ?_
   rintro r F ⟨l2,J,G,k⟩
   have I:F=H++[j4a l2 1]:=by rw[J,zL _ _ (zn _),Nat.sub_self];rfl
   rw[I] at k⊢
   rcases G with rfl|⟨n,rfl⟩
   ·simp only[go_sem,f,g]
    refine⟨_,rfl,.inl ⟨rfl,[.box 151 [.ptr d 0],j4a l2 1],(.tl H.length 1),?_,zr rfl (zG rfl),λq=>q.elim,λ_=>k3a (st:=1) (.inl (by rw[p])) (by rw[i] at k;rw[i];exact k)⟩⟩
    rw[i,zp,qb _ _ m];rfl
   ·simp only[go_sem,f,g]
    refine⟨_,rfl,.inl ⟨rfl,[.box 151 [.ptr d 0],j4a l2 1],(.vw (.tl H.length 1) 1 0 n),?_,zr rfl (zG rfl),λq=>q.elim,λ_=>k3a (st:=1) (.inr ⟨n,by rw[p]⟩) (by rw[i] at k;rw[i];exact k)⟩⟩
    rw[i,zp,qb _ _ m];rfl
end
open Go.RowKit
abbrev nl:AV:= .v (.slice none 0 0)
abbrev BX(b:Bk):AV:= .sl 11 (b.evs.map evC)
abbrev BC(b:Bk):AV:= .sl 1 (b.shut.map qB)
def SlN(y:AV)(e:Nat)(rows:List (List AV)):Prop:=y= .sl e rows∨(y=nl/\rows=[])
theorem Wca{n:Nat}{s:Setup}{a:SA}{x c rows segs bytes:AV}{err:Int}{q:Cm}:qz n (qG s a x c err rows segs bytes q)=(a.w.lt n && (a.e.lt n && (a.c.lt n && (a.g.lt n && (a.r.lt n && (a.t.lt n && (x.lt n && (c.lt n && (rows.lt n && (segs.lt n && (bytes.lt n && true))))))))))):=rfl
structure AL (n:Nat) (a:SA):Prop where
 w:a.w.lt n=true
 e:a.e.lt n=true
 c:a.c.lt n=true
 g:a.g.lt n=true
 r:a.r.lt n=true
 t:a.t.lt n=true
theorem Z4{n:Nat}{s:Setup}{a:SA}{x c rows segs bytes:AV}{err:Int}{q:Cm}:qz n (qG s a x c err rows segs bytes q)=true↔AL n a/\x.lt n=true/\c.lt n=true/\rows.lt n=true/\segs.lt n=true/\bytes.lt n=true:=by
 rw[Wca]
 simp only[zl,and_true]
 exact⟨λ⟨e,d,g,f,i,b,h⟩=>⟨⟨e,d,g,f,i,b⟩,h⟩,λ⟨⟨e,d,g,f,i,b⟩,h⟩=>⟨e,d,g,f,i,b,h⟩⟩
theorem W6a{n:Nat}(b:Bk):(BX b).lt n=true:=yl b.evs
theorem J3{n:Nat}{cs b a:List AV}{z:AV}(e:cs=b++z::a)(h:qz n cs=true):qz n b=true/\qz n a=true:=by
 rw[e,Kh,zl,qz,zl] at h
 exact⟨h.1,h.2.2⟩
section
variable {h:List Ob} {d:Nat} {s:Setup} {a:SA} {q:Cm} {b:Bk}
def qfa(f:FuncId)(h:List Ob)(d:Nat)(s:Setup)(a:SA)(b:Bk)(q:Cm):Prop:=
 ACalls Tryz.prog f [.ptr d 0] h λr h'=>r= .tup []/\∃(e g c:AV) (i:Cm),h'=h.set d (.box 154 (qG s a (BX (doP s b q).1) (BC (doP s b q).1) (doP s b q).2.err e g c i))/\
  SlN e 27 ((doP s b q).2.rows.map xP)/\SlN g 5 ((doP s b q).2.segs.map kG)/\SlN c 1 ((doP s b q).2.bytes.map qX)
theorem j5a(f:Fx):XWa s b f (BX b)=BX (qea s b f).1:=by
 unfold XWa qea
 split<;>rfl
theorem X2a(f:Fx):BC (qea s b f).1=BC b:=by
 unfold qea
 split<;>rfl
theorem xyb(e:h[d]? =some (.box 154 (qG s a (BX b) (BC b) 0 nl nl nl q)))(k:SIn h s a)(i:BkI s b)(j:b.shut.length<=53)(f:q.kind=2):qfa 78 h d s a b q:=by
 have g:doP s b q=qea s b q.fx:=by unfold doP;rw[if_neg (by omega),if_pos f]
 have:=i.few
 have c0:=yY e (λn c=>by
  rw[Z4] at c⊢
  rw[j5a]
  exact⟨c.1,W6a _,c.2.2⟩) (jnb e k b ⟨rfl,λ_=>rfl⟩ (by omega) ⟨rfl,λ_=>rfl⟩ (by omega) rfl)
 refine c0.mono ?_
 rintro r h' ⟨rfl,rfl⟩
 rw[g,j5a, <-X2a (s:=s) (b:=b) q.fx]
 exact⟨rfl,nl,nl,nl,q,rfl,.inr ⟨rfl,rfl⟩,.inr ⟨rfl,rfl⟩,.inr ⟨rfl,rfl⟩⟩
theorem Wda(e:h[d]? =some (.box 154 (qG s a (BX b) (BC b) 0 nl nl nl q)))(k:SIn h s a)(i:BkI s b)(j:b.shut.length<=53)(f:q.kind=1):qfa 77 h d s a b q:=by
 have g:doP s b q=qea s b ⟨1,q.fx.ev⟩:=by unfold doP;rw[if_pos f]
 have:=i.few
 have c0:=yY e (λn c=>by
  rw[Z4] at c⊢
  rw[j5a]
  exact⟨c.1,W6a _,c.2.2⟩) (V9a e k b ⟨rfl,λ_=>rfl⟩ (by omega) ⟨rfl,λ_=>rfl⟩ (by omega) rfl)
 refine c0.mono ?_
 rintro r h' ⟨rfl,rfl⟩
 rw[g,j5a, <-X2a (s:=s) (b:=b) ⟨1,q.fx.ev⟩]
 exact⟨rfl,nl,nl,nl,V8a q,rfl,.inr ⟨rfl,rfl⟩,.inr ⟨rfl,rfl⟩,.inr ⟨rfl,rfl⟩⟩
theorem jpb(g:h[d]? =some (.box 154 (qG s a (BX b) (BC b) 0 nl nl nl q)))(k:SIn h s a)(f:SFit s)(i:BkI s b)(c:q.kind=4):qfa 80 h d s a b q:=by
 have e:doP s b q=(b,if xZ s q then⟨0,[],(qF s b.evs q.worker).1,[]⟩ else xn 80):=by unfold doP;rw[if_neg (by omega),if_neg (by omega),if_neg (by omega),if_pos c]
 have:=i.few
 refine(jbb g k f b.evs ⟨rfl,λ_=>rfl⟩ (by omega)).mono ?_
 rintro r h' ⟨rfl,rfl⟩
 rw[e]
 cases j:xZ s q
 ·exact⟨rfl,nl,nl,nl,q,rfl,.inr ⟨rfl,rfl⟩,.inr ⟨rfl,rfl⟩,.inr ⟨rfl,rfl⟩⟩
 ·exact⟨rfl,nl,_,nl,q,rfl,.inr ⟨rfl,rfl⟩,.inl rfl,.inr ⟨rfl,rfl⟩⟩
theorem xzb(g:h[d]? =some (.box 154 (qG s a (BX b) (BC b) 0 nl nl nl q)))(k:SIn h s a)(f:SFit s)(i:BkI s b)(j:q.kind=3):qfa 79 h d s a b q:=by
 have c:doP s b q=(b,if Jk s 0 q==0 then⟨0,[jj s b.evs q.worker q.week],[],[]⟩ else xn (Jk s 0 q)):=by unfold doP;rw[if_neg (by omega),if_neg (by omega),if_pos j]
 have:=i.few
 have c0:=jcb g k f b.evs ⟨rfl,λ_=>rfl⟩ (by omega)
 obtain⟨E,l⟩:∃E,E=Jk s 0 q:=⟨_,rfl⟩
 rw[<-l] at c0 c
 by_cases h0:E=0
 ·subst h0
  have o:ACalls Tryz.prog 79 [.ptr d 0] h λr h'=>r= .tup []/\∃L y,h'=h.set d (.box 154 ((qG s a (BX b) (BC b) 0 nl nl nl q).take 26++y::(qG s a (BX b) (BC b) 0 nl nl nl q).drop 27))++L/\NoRes L/\New h 27 y [xP (jj s b.evs q.worker q.week)] L:=c0.mono λr h' q=>by
   obtain⟨rfl,m,L,rfl,e,⟨q,_⟩|⟨_,rfl,rfl⟩⟩:=q
   ·exact absurd rfl q
   ·exact⟨rfl,_,_,rfl,e,OwnS.new (h0:=h) (ty:=45) (.inr ⟨h.length,0,zn _,rfl,by rw[zM rfl];rfl⟩) (zn _)⟩
  refine(vQ (by decide) g (λn p=>J3 (z:=nl) rfl p) (λn=>?_) o).mono ?_
  ·exact Q8 [jj s b.evs q.worker q.week]
  ·rintro r h' ⟨rfl,rfl⟩
   rw[c]
   exact⟨rfl,_,nl,nl,q,rfl,.inl rfl,.inr ⟨rfl,rfl⟩,.inr ⟨rfl,rfl⟩⟩
 ·refine c0.mono ?_
  rintro r h' ⟨rfl,m,L,rfl,e,⟨_,rfl,rfl⟩|⟨q,_⟩⟩
  ·rw[c,if_neg (by simpa using h0),zF]
   exact⟨rfl,nl,nl,nl,q,rfl,.inr ⟨rfl,rfl⟩,.inr ⟨rfl,rfl⟩,.inr ⟨rfl,rfl⟩⟩
  ·exact absurd q h0
theorem jqb(g:h[d]? =some (.box 154 (qG s a (BX b) (BC b) 0 nl nl nl q)))(i:BkI s b)(o:b.shut.length<=53)(j:q.kind=5):qfa 81 h d s a b q:=by
 have e:doP s b q=(if yq b q then(⟨b.evs,J1 q.week b.shut⟩,xn 0) else(b,xn 212)):=by unfold doP;rw[if_neg (by omega),if_neg (by omega),if_neg (by omega),if_neg (by omega),if_pos j];rfl
 have c0:=zob g b ⟨rfl,λ_=>rfl⟩ (by omega) i.rise
 cases c:yq b q
 ·rw[c] at c0 e
  refine c0.mono ?_
  rintro r h' ⟨rfl,L,y,rfl,f,l,_⟩
  obtain⟨rfl,rfl⟩:=l rfl
  rw[e,zF]
  exact⟨rfl,nl,nl,nl,q,rfl,.inr ⟨rfl,rfl⟩,.inr ⟨rfl,rfl⟩,.inr ⟨rfl,rfl⟩⟩
 ·rw[c] at c0 e
  have m:ACalls Tryz.prog 81 [.ptr d 0] h λr h'=>r= .tup []/\∃L y,h'=h.set d (.box 154 ((qG s a (BX b) (BC b) 0 nl nl nl q).take 24++y::(qG s a (BX b) (BC b) 0 nl nl nl q).drop 25))++L/\NoRes L/\New h 1 y ((J1 q.week b.shut).map qB) L:=c0.mono λr h' q=>by
   obtain⟨rfl,L,y,rfl,f,_,k⟩:=q
   exact⟨rfl,L,y,rfl,f,k rfl⟩
  refine(vQ (by decide) g (λn p=>J3 (z:=BC b) rfl p) (λn=>ZE _) m).mono ?_
  rintro r h' ⟨rfl,rfl⟩
  rw[e]
  exact⟨rfl,nl,nl,nl,q,rfl,.inr ⟨rfl,rfl⟩,.inr ⟨rfl,rfl⟩,.inr ⟨rfl,rfl⟩⟩
theorem jrb(i:h[d]? =some (.box 154 (qG s a (BX b) (BC b) 0 nl nl nl q)))(o:b.shut.length<=53)(k:q.kind=6):qfa 82 h d s a b q:=by
 have e:doP s b q=(if jU b.shut q.week then(⟨b.evs,b.shut.filter λw=> !(w==q.week)⟩,xn 0) else(b,xn 212)):=by unfold doP;rw[if_neg (by omega),if_neg (by omega),if_neg (by omega),if_neg (by omega),if_neg (by omega),if_pos k]
 have c0:=zpb i b ⟨rfl,λ_=>rfl⟩ (by omega)
 cases c:jU b.shut q.week
 ·rw[c] at c0 e
  have j:=yY i (cs:=qG s a (BX b) (BC b) 212 nl nl nl q) (λn f=>by rw[Z4] at f ⊢;exact f) (c0.mono λr h' q=>by
   obtain⟨rfl,L,y,rfl,g,m,_⟩:=q
   have:=m rfl
   subst this
   exact⟨rfl,L,rfl,g⟩)
  refine j.mono ?_
  rintro r h' ⟨rfl,rfl⟩
  rw[e]
  exact⟨rfl,nl,nl,nl,q,rfl,.inr ⟨rfl,rfl⟩,.inr ⟨rfl,rfl⟩,.inr ⟨rfl,rfl⟩⟩
 ·rw[c] at c0 e
  have j:ACalls Tryz.prog 82 [.ptr d 0] h λr h'=>r= .tup []/\∃L y,h'=h.set d (.box 154 ((qG s a (BX b) (BC b) 0 nl nl nl q).take 24++y::(qG s a (BX b) (BC b) 0 nl nl nl q).drop 25))++L/\NoRes L/\New h 1 y ((b.shut.filter λw=> !(w==q.week)).map qB) L:=c0.mono λr h' q=>by
   obtain⟨rfl,L,y,rfl,g,_,l⟩:=q
   exact⟨rfl,L,y,rfl,g,l rfl⟩
  refine(vQ (by decide) i (λn f=>J3 (z:=BC b) rfl f) (λn=>ZE _) j).mono ?_
  rintro r h' ⟨rfl,rfl⟩
  rw[e]
  exact⟨rfl,nl,nl,nl,q,rfl,.inr ⟨rfl,rfl⟩,.inr ⟨rfl,rfl⟩,.inr ⟨rfl,rfl⟩⟩
theorem Wea(l:h[d]? =some (.box 154 (qG s a (BX b) (BC b) 0 nl nl nl q)))(k:SIn h s a)(f:SFit s)(i:BkI s b)(u:b.shut.length<=53)(p:s.rates.length<4096)(t:q.kind=7):qfa 83 h d s a b q:=by
 have g:doP s b q=(b,if jU b.shut q.week then⟨0,ka s b q.week,[],(jZ (ka s b q.week)).1⟩ else xn 212):=by unfold doP;rw[if_neg (by omega),if_neg (by omega),if_neg (by omega),if_neg (by omega),if_neg (by omega),if_neg (by omega),if_pos t]
 have:=i.few
 have c0:=XZa l k f b ⟨rfl,λ_=>rfl⟩ (by omega) ⟨rfl,λ_=>rfl⟩ (by omega) p
 cases e:jU b.shut q.week
 ·rw[e] at c0 g
  have o:ACalls Tryz.prog 83 [.ptr d 0] h λr h'=>r= .tup []/\∃L y,h'=h.set d (.box 154 ((qG s a (BX b) (BC b) 212 nl nl nl q).take 26++y::(qG s a (BX b) (BC b) 212 nl nl nl q).drop 27))++L/\NoRes L/\New h 27 y [] L:=c0.mono λr h' q=>by
   obtain⟨rfl,L,y,rfl,j,c⟩:=q
   exact⟨rfl,L,y,rfl,j,c⟩
  refine(vQ (by decide) l (λn c=>J3 (z:=nl) (cs:=qG s a (BX b) (BC b) 212 nl nl nl q) rfl c) (λn=>rfl) o).mono ?_
  rintro r h' ⟨rfl,rfl⟩
  rw[g]
  exact⟨rfl,_,nl,nl,q,rfl,.inl rfl,.inr ⟨rfl,rfl⟩,.inr ⟨rfl,rfl⟩⟩
 ·rw[e] at c0 g
  obtain⟨z,m⟩:∃z,z=AV.sl 1 ((jZ (ka s b q.week)).1.map qX):=⟨_,rfl⟩
  have o:ACalls Tryz.prog 83 [.ptr d 0] h λr h'=>r= .tup []/\∃L y,h'=h.set d (.box 154 ((qG s a (BX b) (BC b) 0 nl nl z q).take 26++y::(qG s a (BX b) (BC b) 0 nl nl z q).drop 27))++L/\NoRes L/\New h 27 y ((ka s b q.week).map xP) L:=c0.mono λr h' q=>by
   obtain⟨rfl,L,y,rfl,j,c⟩:=q
   exact⟨rfl,L,y,by rw[m];rfl,j,c⟩
  refine(vQ (by decide) l (λn c=>J3 (z:=nl) (cs:=qG s a (BX b) (BC b) 0 nl nl z q) rfl (by
   rw[Z4] at c⊢
   exact⟨c.1,c.2.1,c.2.2.1,c.2.2.2.1,c.2.2.2.2.1,by rw[m];exact Zl _⟩)) (λn=>Q8 _) o).mono ?_
  rintro r h' ⟨rfl,rfl⟩
  rw[g]
  exact⟨rfl,_,nl,z,q,rfl,.inl rfl,.inr ⟨rfl,rfl⟩,.inl m⟩
theorem jsb(c:h[d]? =some (.box 154 (qG s a (BX b) (BC b) 0 nl nl nl q)))(e:q.kind=8):qfa 84 h d s a b q:=by
 have f:doP s b q=(b,xn 0):=by unfold doP;rw[if_neg (by omega),if_neg (by omega),if_neg (by omega),if_neg (by omega),if_neg (by omega),if_neg (by omega),if_neg (by omega),if_pos e]
 unfold qfa
 rw[f]
 refine zj Tryz.f84 [] 2 rfl rfl rfl rfl rfl rfl (by decide) (⟨_,_,⟨rfl,nl,nl,nl,q,rfl,.inr ⟨rfl,rfl⟩,.inr ⟨rfl,rfl⟩,.inr ⟨rfl,rfl⟩⟩,qj c rfl⟩) λB=>?_
 simp only[go_sem]
 exact⟨_,rfl,.inl ⟨rfl,nl,nl,nl,q,(qM c).symm,.inr ⟨rfl,rfl⟩,.inr ⟨rfl,rfl⟩,.inr ⟨rfl,rfl⟩⟩⟩
end
