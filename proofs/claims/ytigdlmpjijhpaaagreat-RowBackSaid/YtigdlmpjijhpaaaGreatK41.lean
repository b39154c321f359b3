import Derived.Test.YtigdlmpjijhpaaaGreatKA
import Derived.Test.YtigdlmpjijhpaaaGreatK40
import Derived.Test.YtigdlmpjijhpaaaGreatK37
import Derived.Test.YtigdlmpjijhpaaaGreatK39
import Derived.Test.YtigdlmpjijhpaaaGreatK13
import Derived.WideKeyRuns
import Derived.WideKeyEntry
import Derived.Maps.RangeRun
import Derived.Test.YtigdlmpjijhpaaaGreatK33
import Derived.Test.YtigdlmpjijhpaaaGreatK38
import Derived.Test.YtigdlmpjijhpaaaGreatK23
import Derived.OpenShut
set_option linter.all false
namespace Go.Proofs.YtigdlmpjijhpaaaGreat.Ax
open Go Go.Proofs
set_option maxRecDepth 100000
def jU(R:RowV)(F:List Flg):Bool:= !(decide (R.err>100000) || decide ((F.length:Int)>200)) && (xC ([],true) (jd R F)).2
theorem vpa(h:List Ob)(R:RowV)(b:AV)(F:List Flg)(i:Fit R.tier)(f:SlOf h b 2 (F.map jT)):
  ACalls Tryz.prog 19 [.ag (jJ R b)] h λr h'=>r=bl (jU R F)/\h'=h:=by
 have e:=f.one
 have d:∀M,zZ (h++M) b=some (F.map jT):=λM=>(f.app M).rows
 refine zl Tryz.f19 [.tmp 2] 18 rfl rfl rfl rfl rfl rfl (by decide) (⟨_,_,⟨rfl,rfl⟩,.refl⟩) λB=>?_
 simp only[go_sem,e]
 cases a:decide (R.err>100000)
 ·cases c:decide ((F.length:Int)>200)
  ·simp only[go_sem,a,c,qE,d,zb]
   have hi:(h++[Ob.box 45 (jJ R b),.box 107 [.v (.slice none 0 0),bl true]])[h.length+1]? =some (.box 107 [.v (.slice none 0 0),bl true]):=by rw[zN (k:=1) rfl];rfl
   refine zi (voa _ (h.length+1) (.v (.slice none 0 0)) ([],true) R b F hi (.inr ⟨rfl,rfl⟩) i (f.app _) (by decide) (by have:=of_decide_eq_false c;omega)) ?_
   rintro _ l ⟨rfl,k1⟩
   obtain⟨z,L,m,g,z3⟩:=k1.eq
   have j:l[h.length+1]? =some (.box 107 [z,bl (xC ([],true) (jd R F)).2]):=by rw[g];exact zf (zm (by simp))
   simp only[go_sem,j]
   refine⟨bl (xC ([],true) (jd R F)).2,by simp only[go_sem],.inr ⟨h,[.box 45 (jJ R b),.box 107 [z,bl (xC ([],true) (jd R F)).2]]++L,?_,rfl,rfl,.refl,?_,rfl⟩⟩
   ·rw[g,zR _ _ (by omega),show h.length+1 - h.length=1 by omega,zn];rfl
   ·unfold jU;rw[a,c];rfl
  ·simp only[go_sem,a,c,qE,d,zb]
   refine zk ?_<;>(simp only[go_sem,jU,a,c,Bool.or_true,Bool.not_true,Bool.false_and]<;>try rfl)
 ·simp only[go_sem,a,qE]
  refine zk ?_<;>(simp only[go_sem,jU,a,Bool.true_or,Bool.not_true,Bool.false_and]<;>try rfl)
theorem Qoa(h:List Ob)(R:RowV)(a:AV)(F:List Flg)(c:Fit R.tier)(b:SlOf h a 2 (F.map jT))(d:F.length<524288):
  ACalls Tryz.prog 19 [.ag (jJ R a)] h λr h'=>r=bl (jU R F)/\h'=h:=
 vpa h R a F c b
def j8(W:List (RowV × List Flg)):List Int:=W.flatMap λq=>jd q.1 q.2
def okW(W:List (RowV × List Flg)):Bool:=W.all λq=>jU q.1 q.2
def jV(W:List (RowV × List Flg)):List Int × Int:=if okW W then((xC ([],true) ([(W.length:Int)]++j8 W)).1,0) else([],200)
abbrev RwA:=RowV × AV × List Flg
def jz(W:List RwA):List (RowV × List Flg):=W.map λq=>(q.1,q.2.2)
theorem Kt:∀W:List (RowV × List Flg),okW W=true->(j8 W).length<=427*W.length
 | [],_=>by simp[j8]
 | q::W,h=>by
   unfold okW at h
   rw[List.all_cons,zj] at h
   have c:=Kt W h.2
   have b:(jd q.1 q.2).length<=427:=by
    have a:=h.1
    unfold jU at a
    simp only[zj,Bool.not_eq_true',zQ,decide_eq_false_iff_not] at a
    unfold jd
    rw[ze,ze,yU,Jj]
    show 26+1+_<=_
    omega
   unfold j8 at*
   rw[List.flatMap_cons,ze,List.length_cons]
   omega
theorem PnH.trans{h H d:List Ob}{i:Nat}{Q Q':List Int × Bool}(k:PnH h i Q H)(k':PnH H i Q' d)(hi:i<h.length):PnH h i Q' d:=by
 obtain⟨z,L,k1,k2,k3⟩:=k.eq
 obtain⟨e,f,b,a,c⟩:=k'.eq
 exact⟨e,L++f,b,by rw[a,k2,qV _ _ (by rw[zP];exact hi),qh,zn],k3.app c⟩
theorem kwa{W:List RwA}{n:Nat}(h:n<W.length):jz (W.take (n+1))=jz (W.take n)++[((W[n]).1,(W[n]).2.2)]:=by
 unfold jz
 rw[show W.take (n+1)=W.take n++[W[n]] from(zD h).symm,zy];rfl
theorem PnH.over{h b H:List Ob}{o:Ob}{Q:List Int × Bool}(a:b=h++[o])(k:PnH b h.length Q H):∃L,H=h++L:=by
 obtain⟨z,L,k1,k2,k3⟩:=k.eq
 subst a
 refine⟨[.box 107 [z,bl Q.2]]++L,?_⟩
 rw[k2,zR _ _ (zo _),Nat.sub_self,zn]
 rfl
theorem J4a(h:List Ob)(x:AV)(W:List RwA)(hx:SlOf h x 27 (W.map λq=>jJ q.1 q.2.1))(hF:∀q∈W,SlOf h q.2.1 2 (q.2.2.map jT)/\Fit q.1.tier/\q.2.2.length<524288)(hl:W.length<4096):
  ACalls Tryz.prog 15 [x] h λr h'=>(∃z,Sb z (jV (jz W)).1/\r= .tup [z,i64 (jV (jz W)).2])/\h'=h:=by
 have hex:∃r h',((∃z,Sb z (jV (jz W)).1/\r=AV.tup [z,i64 (jV (jz W)).2])/\h'=h)/\ResK h h':=⟨_,_,⟨⟨_,.inl rfl,rfl⟩,rfl⟩,.refl⟩
 have υ:=hx.rows
 have ζ:∀M,zZ (h++M) x=some (W.map λq=>jJ q.1 q.2.1):=λM=>(hx.app M).rows
 refine zl Tryz.f15 [.tmp 2,.tmp 3] 27 rfl rfl rfl rfl rfl rfl (by decide) (hex) λB=>?_
 simp only[go_sem,ζ,zb]
 obtain⟨j,a⟩:∃j,j=h++[Ob.box 107 [.v (.slice none 0 0),bl true]]:=⟨_,rfl⟩
 have hi:j[h.length]? =some (.box 107 [.v (.slice none 0 0),bl true]):=by rw[a,zM rfl];rfl
 have s:h.length<j.length:=by rw[a];simp
 have base:PnH j h.length ([],true) j:=⟨_,[],.inr ⟨rfl,rfl⟩,by rw[zU];exact(qX hi).symm,xr⟩
 have w:=base.app (M:=[.box 3 [i64 W.length],.row 109 1 [[.ptr (h.length+1) 0]] 0]) (zp rfl (zF rfl))
 have hE:j++[Ob.box 3 [i64 W.length],.row 109 1 [[.ptr (h.length+1) 0]] 0]=h++[Ob.box 107 [.v (.slice none 0 0),bl true],.box 3 [i64 W.length],.row 109 1 [[.ptr (h.length+1) 0]] 0]:=by rw[a];simp
 rw[hE] at w
 refine zi (WL w s (.tl (h.length+2) 0) [(.ptr (h.length+1) 0,(W.length:Int))] ⟨by rw[qS,zN (k:=2) rfl];rfl,λ_=>by rw[j5,zN (k:=2) rfl];rfl⟩ (λp hp=>by
  rw[zJ] at hp
  subst hp
  exact⟨h.length+1,0,_,_,rfl,by omega,by rw[zN (k:=1) rfl];rfl,by show 0<1;decide,rfl⟩) (by decide) (by show 1<1048576;decide)) ?_
 rintro _ H2 ⟨rfl,k2,g2⟩
 have E:SlOf j x 27 (W.map λq=>jJ q.1 q.2.1):=by rw[a];exact hx.app _
 have γ:∀q∈W,SlOf j q.2.1 2 (q.2.2.map jT):=λq hq=>by rw[a];exact(hF q hq).1.app _
 have J:=(k2.sl hi E).rows
 simp only[go_sem,J,zb]
 refine zO (by decide) (λm T H=>∃n:Nat,n<=W.length/\okW (jz (W.take n))=true/\PnH j h.length (xC ([],true) ([(W.length:Int)]++j8 (jz (W.take n)))) H/\T 4= .ptr h.length 0/\T 13=x/\T 14=i64 W.length/\T 15=i64 n/\m=W.length - n) W.length
  ⟨0,by omega,rfl,by simpa [j8,jz] using k2,by simp only[go_sem],by simp only[go_sem],by(simp only[go_sem]<;>rfl),by(simp only[go_sem]<;>rfl),rfl⟩ ?_
 clear k2 w g2 J
 rintro m T H ⟨n,hn,f,t,t4,K,P,C,rfl⟩
 simp only[go_sem,P,C]
 refine ways (λe=>?_) (λe=>?_)
 ·have o:=dlt e
  have d:(W.map λq=>jJ q.1 q.2.1)[n]? =some (jJ (W[n]).1 (W[n]).2.1):=by rw[zr,zh o];rfl
  have α:(n:Int)<W.length:=by omega
  have S:=t.sl hi E
  have η:=S.at (i:=n) (by rw[zb];exact o)
  have δ:=S.rows
  have l:=kwa o
  have b:=zw o
  obtain⟨⟨R,D,F⟩,hg⟩:∃g,g=W[n]:=⟨_,rfl⟩
  rw[<-hg] at d l b
  obtain⟨q1,Z,Y⟩:=hF _ b
  have u:=γ _ b
  simp only at d l q1 Z Y u
  have c:=t.sl hi u
  have G:=c.one
  simp only[go_sem,t4,K,C,η,δ,d,α,G,zb,Int.toNat_natCast,zg]
  refine zi (Qoa _ R D F Z (c.app _) Y) ?_
  rintro _ H3 ⟨rfl,e3⟩
  rw[e3]
  cases X:jU R F
  ·have U:okW (jz W)=false:=by
    unfold okW
    rw[List.all_eq_false]
    exact⟨(R,F),zx.2 ⟨(R,D,F),b,rfl⟩,by simp[X]⟩
   have O:jV (jz W)=([],200):=by unfold jV;rw[U];rfl
   simp only[go_sem,X,qE,Bool.not_false]
   obtain⟨L',y⟩:=(t.app (M:=[Ob.box 45 (jJ R D)]) (zF rfl)).over a
   exact⟨.tup [.v (.slice none 0 0),i64 200],rfl,.inr ⟨h,L',y,rfl,rfl,.refl,⟨_,by rw[O];exact .inr ⟨rfl,rfl⟩,by rw[O]⟩,rfl⟩⟩
  ·have N:okW (jz (W.take (n+1)))=true:=by
    rw[l];unfold okW at f ⊢;rw[List.all_append,f];simp[X]
   simp only[go_sem,X,qE,Bool.not_true,t4,G]
   obtain⟨z,L,V,z2,z3⟩:=t.eq
   have A:(H++[Ob.box 45 (jJ R D)])[h.length]? =some (.box 107 [z,bl (xC ([],true) ([(W.length:Int)]++j8 (jz (W.take n)))).2]):=by
    rw[z2];exact zf (zf (zm s))
   have I:=QT ([(W.length:Int)]++j8 (jz (W.take n))) ([],true)
   have ο:=Kt _ f
   have σ:(jz (W.take n)).length<=W.length:=by unfold jz;rw[zb,zX];omega
   have Q:(xC ([],true) ([(W.length:Int)]++j8 (jz (W.take n)))).1.length<134217728:=by
    rw[ze] at I
    simp only[List.length_nil,List.length_cons] at I
    omega
   refine zi (voa _ h.length z _ R D F A V Z (c.app _) Q Y) ?_
   rintro _ H4 ⟨rfl,k4⟩
   have k5:=(t.app (M:=[Ob.box 45 (jJ R D)]) (zF rfl)).trans k4 s
   rw[<-ZG] at k5
   simp only[go_sem,C]
   exact⟨W.length - (n+1),by omega,n+1,by omega,N,by rw[l];simpa [j8] using k5,t4,K,P,qc (by omega) rfl,rfl⟩
 ·have ν:=xc e
  have θ:n=W.length:=by omega
  subst θ
  rw[zY] at f t
  have O:jV (jz W)=((xC ([],true) ([(W.length:Int)]++j8 (jz W))).1,0):=by
   unfold jV;rw[f];simp[jz]
  obtain⟨z,L,V,z2,z3⟩:=t.eq
  have A:H[h.length]? =some (.box 107 [z,bl (xC ([],true) ([(W.length:Int)]++j8 (jz W))).2]):=by
   rw[z2];exact zf (zm s)
  simp only[go_sem,t4,A]
  obtain⟨L',y⟩:=t.over a
  exact⟨.tup [z,i64 0],rfl,.inr ⟨h,L',y,rfl,by simp only[AV.lt,qJ,V.lt,Bool.and_self],.refl,⟨z,by rw[O];exact V,by rw[O]⟩,rfl⟩⟩
theorem Qpa(h:List Ob)(x:AV)(W:List RwA)(f:SlOf h x 27 (W.map λq=>jJ q.1 q.2.1))(g:∀q∈W,SlOf h q.2.1 2 (q.2.2.map jT)/\Fit q.1.tier/\q.2.2.length<524288)(e:W.length<4096):
  ACalls Tryz.prog 15 [x] h λr h'=>r= .tup [.sl 1 ((jV (jz W)).1.map qN),i64 (jV (jz W)).2]/\h'=h:=
 QH (J4a h x W f g e) λr h' ⟨⟨z,d,c⟩,a⟩=>by
  subst c
  rcases d with rfl|⟨rfl,b⟩
  ·exact⟨_,⟨rfl,a⟩,.refl _⟩
  ·refine⟨_,⟨rfl,a⟩,.two ?_ (.refl _)⟩
   rw[b]
   exact .nil 1
section
variable {h:List Ob} {d:Nat} {s:Setup} {a:SA} {x c:AV} {err:Int} {rows segs bytes:AV} {q:Cm}
end
structure Bk where
 evs:List Ev
 shut:List Int
structure An where
 err:Int
 rows:List (RowV × List Flg)
 segs:List Seg
 bytes:List Int
structure BkI (s:Setup) (b:Bk):Prop where
 few:b.evs.length<=200
 srt:Srt b.evs
 ids:(b.evs.map (·.id)).Nodup
 ok:∀e∈b.evs,ZY s e=true
 rise:b.shut.Pairwise (· < ·)
 rng:∀w∈b.shut,0<=w/\w<=52
open Go.RowKit
end Go.Proofs.YtigdlmpjijhpaaaGreat.Ax
namespace Go.Proofs.YtigdlmpjijhpaaaGreat.Ax
open Go Go.Proofs
set_option maxRecDepth 100000
structure ApI (h:List Ob) (q:Fx) (at_:Int) (rows:List Ev) (T:Env) (h':List Ob):Prop where
 pre:Pre h h'
 b1:h'[h.length+1]? =some (.box 77 (fxC q))
 own:OwnS h h' 75 11 (T 11) (rows.map evC)
 t5:T 5= .ptr (h.length+1) 0
 t8:T 8=bl (Wqa q)
 t9:T 9=bl (KNa q)
 t10:T 10=i64 at_
def KVa(k:Int × Int):Value:= .agg #[.int .i64 k.1,.int .i64 k.2]
structure KM (es:Array MapEntry) (c:Nat) (ks:List (Int × Int)):Prop where
 keys:es.toList.map (·.key)=ks.map KVa
 vals:∀e∈es.toList,∃n,e.val= .int .i64 n
 born:(es.toList.map (·.born)).Nodup
 lt:∀e∈es.toList,e.born<c
def YAa(ks:List (Int × Int))(k:Int × Int):List (Int × Int):=if k∈ks then ks else ks++[k]
open Go.RowKit
section
variable {P:Program} {N:Nat} {B:Bs} {c:Code} {Q:jA} {T:Env} {h:List Ob}
end
section
variable {N:Nat} {T:Env} {h:List Ob} {K:Env->List Ob->Prop} {o:Oper}
end
open Go.Shelf Go.Lib Go.Sort
end Go.Proofs.YtigdlmpjijhpaaaGreat.Ax
namespace Go.Proofs.YtigdlmpjijhpaaaGreat.Ax
open Go Go.Proofs
set_option maxRecDepth 100000
structure JT (H:List Ob) (id l i3 j:Nat) (e:Ev) (w:Int) (ks:List (Int × Int)) (u1 u5:AV) (S:Nat->Bool) (T:Env) (h:List Ob):Prop where
 t1:T 1=u1
 t2:T 2= .ptr j 0
 t3:T 3= .ptr i3 0
 t5:T 5=u5
 t6:T 6=i64 w
 k0:S 0=true->T 20= .v (.map (some l))
 k1:S 1=true->T 21= .ptr i3 1
 k2:S 2=true->T 22=i64 e.worker
 k3:S 3=true->T 23=i64 w
 k4:S 4=true->T 24= .ag [i64 e.worker,i64 w]
 k5:S 5=true->∃n,T 25=i64 n
 k6:S 6=true->∃n,T 26=i64 n
 k8:S 8=true->S 7=true
 k7:∃es c ks',h=H.set id (.raw l (.map es c) [] [])/\KM es c ks'/\(S 7=false->ks'=ks)/\(S 7=true->ks'=YAa ks (e.worker,w)/\∃(n:Int) (st:Nat),T 27= .tup [i64 n,i64 st]/\(S 8=true->T 28=i64 st)/\∃x∈es.toList,x.born=st)
open Go.RowKit
structure Vis (es:Array MapEntry) (seen:Array Nat) (vs:List (Int × Int)):Prop where
 nodup:vs.Nodup
 iff:∀e∈es.toList,∀k,e.key=KVa k->(k∈vs↔e.born∈seen)
 sub:∀k∈vs,∃e∈es.toList,e.key=KVa k
end Go.Proofs.YtigdlmpjijhpaaaGreat.Ax
namespace Go.Proofs.YtigdlmpjijhpaaaGreat.Ax
open Go Go.Proofs
set_option maxRecDepth 100000
section
variable {h:List Ob} {d:Nat} {s:Setup} {a:SA} {x c:AV} {rows segs bytes:AV} {q:Cm}
end
end Go.Proofs.YtigdlmpjijhpaaaGreat.Ax
namespace Go.Proofs.YtigdlmpjijhpaaaGreat.Ax
open Go Go.RowKit
section
variable {B:Nat} {w w':World} {g g':Gh} {h h' L:List Ob} {P:Program}
theorem zga(f:HOk B w g h)(hB:B<=w.heap.size){id:Nat}{ty:TypeId}{cs cs':List AV}(d:h[id]? =some (.box ty cs)){vs:List Value}(i:∃vs':Array Value,w.heap[g.β id]? =some (.cells vs' ty (0,0))/\vs'.toList=vs)(l:ARs (ctx w g h) cs' vs):Good B w g h w g (h.set id (.box ty cs')):=by
 have e:w.grownBy w ((Ob.box ty cs).blk g id):=⟨rfl,rfl,rfl,zo _,λ_ _ _=>rfl⟩
 have a:=Le.turn (g':=g) (o':= .box ty cs') d rfl e (λ_ _=>rfl) (λ_ _=>rfl) (λb c=> .inl c) (λ_=>⟨rfl,λs m=>by cases m⟩)
 obtain⟨k,_⟩:=f.ok id _ d
 obtain⟨vs',j,rfl⟩:=i
 exact⟨f.turn d e (λ_ _=>rfl) (λ_ _=>rfl) (λb c=> .inl c) a ⟨k,vs',j,ARs.le a _ _ l⟩,a,Below.refl _ _,hB⟩
end
end Go.Proofs.YtigdlmpjijhpaaaGreat.Ax
namespace Go.Proofs.YtigdlmpjijhpaaaGreat.Ax
open Go Go.Proofs
set_option maxRecDepth 100000
def ZH(p:RowV × List Flg):List AV:=ZD p.1++[.sl 2 (p.2.map jT)]
theorem z7a{n:Nat}:∀l:List (RowV × List Flg),qZ n (l.map ZH)=true
 | []=>rfl
 | p::l=>by
   rw[List.map_cons,qZ,z7a l]
   simp only[ZH,ZD,List.cons_append,List.nil_append,qJ,AV.lt,z2a,Bool.and_self]
structure DE (h:List Ob) (d:Nat) (mk:AV->Ob) (y:AV) (rows:List (List AV)) (H:List Ob):Prop where
 eq:∃M,H=h.set d (mk y)++M/\NoRes M
 own:OwnS h H 45 27 y rows
section
variable {h:List Ob} {d:Nat} {s:Setup} {a:SA} {x c:AV} {segs:AV} {q:Cm}
theorem jRa{s:Setup}(f:SFit s)(p:qd):Fit (kn s p)/\Fit (kn s p+1):=by
 have g: -1<=kn s p/\kn s p<9223372036854775807:=by
  cases b:qo s
  ·have:kn s p= -1:=by simp[kn,b]
   omega
  ·cases a:rok p
   ·have:kn s p= -1:=by simp[kn,a]
    omega
   ·rcases k3a b a with⟨e,_⟩|⟨j,t,c,d,_⟩
    ·omega
    ·have:=(zd.1 c).1
     have:=f.nt
     omega
 constructor<;>(unfold Fit;omega)
theorem zha{s:Setup}(f:SFit s)(l:List Ev)(w wk:Int)(d:l.length<=1000):(Fit (jI s l w wk).1.tier/\Fit ((jI s l w wk).1.tier+1))/\(jI s l w wk).2.length<524288:=by
 unfold jI
 split
 ·exact⟨by constructor<;>(show Fit _;unfold Fit;first|exact(by decide:(-9223372036854775808:Int)<= -1/\(-1:Int)<=9223372036854775807)|exact(by decide:(-9223372036854775808:Int)<= -1+1/\(-1+1:Int)<=9223372036854775807)),by show 0<524288;decide⟩
 ·constructor
  ·show Fit (ite _ (kn s _) (-1))/\Fit (ite _ (kn s _) (-1)+1)
   split
   ·exact jRa f _
   ·constructor<;>(unfold Fit;decide)
  ·have c:= @KU s (evR s w l) w
   have a:(evR s w l).length<=l.length:=z3a s w l
   have b:=qt (λg=>KT (evR s w l) g==wk) (qC s (evR s w l) w).2
   show(List.filter _ _).length<_
   omega
theorem Qqa{s:Setup}(f:SFit s)(l:List Ev)(w wk:Int)(a:l.length<=1000):Fit (jI s l w wk).1.tier/\(jI s l w wk).2.length<524288:=⟨(zha f l w wk a).1.1,(zha f l w wk a).2⟩
end
theorem J5a{F:Int}{z S:qd × Int}{a:Int}{m:Nat}(k:0<=F/\F<=86400)(l:m<2097152)(b:Fit a):
  (0<=(jX F z S a m).earned.1/\0<=(jX F z S a m).earned.2)/\0<=(jX F z S a m).perf.1/\0<=(jX F z S a m).perf.2:=by
 by_cases h:(jX F z S a m).err=0
 ·obtain⟨D,d⟩:=ZIa k l b h
  obtain⟨c,c0⟩:=jpa d.lo
  rw[d.earned]
  refine⟨⟨c0,by have:=c.pos;omega⟩,?_⟩
  by_cases e:0<a
  ·obtain⟨n1,n2⟩:=d.some e
   have i:Lo (a,1):=⟨by simp,by simp,by simp only;omega,by simp⟩
   obtain⟨a1,a2,a3⟩:=ZFa c i e
   rw[a1] at n2
   obtain⟨b1,b2⟩:=Vj a2 a3 (by rw[n2])
   rw[n2] at b1 b2
   obtain⟨P,j⟩:∃P,P=(jX F z S a m).perf:=⟨_,rfl⟩
   simp only[<-j] at b1 b2⊢
   have n:=b1.pos
   simp only at a3
   refine⟨?_,by omega⟩
   by_cases q:0<=P.1
   ·exact q
   ·exfalso
    have g:P.1*((vL D).2*a)<0:=Int.mul_neg_of_neg_of_pos (by omega) a3.1
    have f:0<=(vL D).1*1*P.2:=Int.mul_nonneg (by omega) (by omega)
    omega
  ·rw[d.none e];exact⟨by decide,by decide⟩
 ·obtain⟨g,f⟩:=Jna h
  rw[g,f]
  exact⟨⟨by decide,by decide⟩,by decide,by decide⟩
theorem J6a{s:Setup}{l:List Ev}{w k:Int}(a:qo s=true)(b:l.length<2097151):
  ((0<=(vq s l w k).earned.1/\0<=(vq s l w k).earned.2)/\0<=(vq s l w k).perf.1/\0<=(vq s l w k).perf.2)/\0<=(vq s l w k).eligible:=by
 constructor
 ·rw[vq,if_pos a,Ww]
  have:=Y5 (s:=s) (w:=w) (k:=k) (l:=l)
  exact J5a (KL a) (by omega) jqa
 ·rw[wQa a]
  exact(Qfa (QJ (s:=s) (l:=l) (w:=w) a).1 k).1.1
theorem KWa{s:Setup}(u:qo s=true)(w:Nat){t:Nat->Int}(r:∀j,0<=t j/\t j<=604800)(g tier:Int):
  (∀j,j<=6->0<=(z1a s w t g tier).pays j)/\0<=(z1a s w t g tier).extra/\0<=(z1a s w t g tier).supp/\0<=(z1a s w t g tier).total:=by
 have m:=Qha u
 obtain⟨l,B⟩:=wUa m g tier
 have b:∀j,j<=6->0<=kO s w t j/\kO s w t j<17592186044416:=λj e=>Qja m w t e
 obtain⟨C,p,J⟩:=Qka r 7 (zo _)
 have c:=m.least
 have f:0<=Ql t 7*s.least:=Int.mul_nonneg p c.1
 have q:Ql t 7*s.least<=604800*7*100000:=Int.mul_le_mul (by omega) c.2 c.1 (by omega)
 have i:wr (Ql t 7*s.least)=Ql t 7*s.least:=qb (by unfold Fit;omega)
 obtain⟨H,y,v⟩:=KRa (n:=Ql t 7*s.least) (d:=3600) f (by omega) (by omega)
 have I:=b 0 (by omega)
 have p1:=b 1 (by omega)
 have p2:=b 2 (by omega)
 have D:=b 3 (by omega)
 have A:=b 4 (by omega)
 have G:=b 5 (by omega)
 have F:=b 6 (by omega)
 have a:J1 0 [kO s w t 0,kO s w t 1,kO s w t 2,kO s w t 3,kO s w t 4,kO s w t 5,kO s w t 6,kP s g tier]=(0+[kO s w t 0,kO s w t 1,kO s w t 2,kO s w t 3,kO s w t 4,kO s w t 5,kO s w t 6,kP s g tier].sum,0):=
  vna (by omega) (λx h=>by
   simp only[zH,List.not_mem_nil,or_false] at h
   rcases h with rfl|rfl|rfl|rfl|rfl|rfl|rfl|rfl<;>assumption) (by simp only[List.length_cons,List.length_nil];omega)
 simp only[List.sum_cons,List.sum_nil] at a
 unfold z1a
 simp only[a,i]
 refine⟨λj e=>(b j e).1,l.1,by omega,?_⟩
 generalize kO s w t=P at*
 generalize kP s g tier=E at*
 generalize (upI (Ql t 7*s.least) 3600).1=U at*
 clear a i
 have k:wr (U - (0+(P 0+(P 1+(P 2+(P 3+(P 4+(P 5+(P 6+(E+0))))))))))=U - (P 0+P 1+P 2+P 3+P 4+P 5+P 6+E):=by rw[qb (by unfold Fit;omega)];omega
 rw[k]
 generalize z:max 0 (U - (P 0+P 1+P 2+P 3+P 4+P 5+P 6+E))=S
 have o:0<=S/\S<=U:=by omega
 rw[qb (by unfold Fit;omega)]
 omega
def opN(t:TellS):Nat:=if t.open_.isSome then 1 else 0
def J7(t:TellS):Nat:=t.flags.length+opN t
theorem jSa{s:Setup}{t:TellS}{m:Int}:J7 (jE s t m)<=J7 t:=by
 unfold jE
 split
 ·exact zo _
 ·rename_i e os a
  split
  ·show(t.flags++[(⟨e.id,1⟩:Flg)]).length+0<=t.flags.length+opN t
   have:opN t=1:=by unfold opN;rw[a];rfl
   rw[ze,this]
   exact zo _
  ·exact zo _
theorem Qra{s:Setup}{t:TellS}{e:Ev}:J7 (wP s t e)<=J7 t+1:=by
 have a:=jSa (s:=s) (t:=t) (m:=e.at_)
 unfold wP
 generalize jE s t e.at_=u at*
 split
 ·split
  ·rename_i b
   show u.flags.length+1<=_
   unfold J7 at a⊢
   omega
  ·rename_i f os b
   have:opN u=1:=by unfold opN;rw[b];rfl
   show(u.flags++[(⟨f.id,2⟩:Flg)]).length+1<=_
   rw[ze]
   unfold J7 at a⊢
   simp only[List.length_cons,List.length_nil]
   omega
 ·split
  ·rename_i b
   show(u.flags++[(⟨e.id,3⟩:Flg)]).length+opN u<=_
   rw[ze]
   unfold J7 at a⊢
   simp only[List.length_cons,List.length_nil]
   omega
  ·rename_i f os b
   have:opN u=1:=by unfold opN;rw[b];rfl
   split
   ·show u.flags.length+0<=_
    unfold J7 at a⊢
    omega
   ·show u.flags.length+1<=_
    unfold J7 at a⊢
    omega
theorem Qsa{s:Setup}{w:Int}:∀(l:List Ev) {t:TellS},J7 (l.foldl (vd s w) t)<=J7 t+l.length
 | [],_=>zo _
 | e::l,t=>by
   have b:=Qsa (s:=s) (w:=w) l (t:=vd s w t e)
   have a:J7 (vd s w t e)<=J7 t+1:=by
    unfold vd
    split
    ·exact Qra
    ·omega
   rw[List.foldl_cons,List.length_cons]
   omega
theorem wVa{s:Setup}{l:List Ev}{w:Int}:(qC s l w).2.length<=l.length:=by
 have b:=Qsa (s:=s) (w:=w) (qj l) (t:=⟨none,[],[]⟩)
 have a:=jSa (s:=s) (t:=goP s w (qj l)) (m:=32054400)
 have c:=(vB l).length_eq
 have h0:J7 ⟨none,[],[]⟩=0:=rfl
 unfold qC
 split
 ·show(jE s (goP s w (qj l)) 32054400).flags.length<=_
  unfold goP at a⊢
  unfold J7 at b a h0
  omega
 ·simp
def FlK(t:TellS):Prop:=∀x∈t.flags,0<=x.kind/\x.kind<=3
theorem FlK.flag{t:TellS}(h:FlK t)(e:Ev){k:Int}(b:0<=k/\k<=3):FlK (vz t e k):=λx a=>by
 rcases zK.1 (show x∈t.flags++[⟨e.id,k⟩] from a) with a|a
 ·exact h x a
 ·rw[zJ] at a;subst a;exact b
theorem FlK.late{s:Setup}{t:TellS}(h:FlK t)(m:Int):FlK (jE s t m):=by
 unfold jE
 split
 ·exact h
 ·split
  ·exact h.flag _ (by decide)
  ·exact h
theorem FlK.next{s:Setup}{t:TellS}(h:FlK t)(e:Ev):FlK (wP s t e):=by
 have a:=h.late (s:=s) e.at_
 unfold wP
 split
 ·split
  ·exact a
  ·exact a.flag _ (by decide)
 ·split
  ·exact a.flag _ (by decide)
  ·split
   ·exact a
   ·exact a
theorem FlK.go{s:Setup}{w:Int}:∀(l:List Ev) {t:TellS},FlK t->FlK (l.foldl (vd s w) t)
 | [],_,h=>h
 | e ::l,t,h=>FlK.go l (by
     unfold vd
     split
     ·exact h.next e
     ·exact h)
theorem wWa{s:Setup}{l:List Ev}{w:Int}:∀x∈(qC s l w).2,0<=x.kind/\x.kind<=3:=by
 have h0:FlK ⟨none,[],[]⟩:=λ_ h=>by cases h
 unfold qC
 split
 ·exact FlK.late (FlK.go (qj l) h0) _
 ·intro x a;cases a
theorem XR:∀ {ns b:List Int},(∀n∈ns,0<=n)->xC (b,true) ns=(b++ns.flatMap qM,true)
 | [],b,_=>by simp[xC]
 | n::ns,b,h=>by
   have e:jIa [n]=false:=by
    have:=h n (.head _)
    simp[jIa]
    omega
   have d:yn (b,true) n=(b++qM n,true):=by
    unfold yn wh
    rw[e]
    simp
   have a:=XR (ns:=ns) (b:=b++qM n) λk c=>h k (.tail _ c)
   unfold xC at a⊢
   rw[List.foldl_cons,d,a,List.flatMap_cons,zn]
theorem kxa{s:Setup}{w wk:Int}(h:kQ s w wk=0):qo s=true/\(0<=w/\w<(s.rates.length:Int))/\0<=wk/\wk<=52:=by
 unfold kQ at h
 split at h
 ·cases h
 ·split at h
  ·cases h
  ·split at h
   ·cases h
   ·rename_i c a b
    refine⟨?_,?_,?_⟩
    ·simpa using c
    ·simp at a;omega
    ·simp at b;omega
theorem WJa{s:Setup}(f:SFit s){l:List Ev}{w wk:Int}(L:kQ s w wk=0)(S:l.length<=200):jU (jI s l w wk).1 (jI s l w wk).2=true:=by
 obtain⟨z,T,k0⟩:=kxa L
 have u:(evR s w l).length<=l.length:=z3a s w l
 have D:=wVa (s:=s) (l:=evR s w l) (w:=w)
 have B:=qt (λg=>KT (evR s w l) g==wk) (qC s (evR s w l) w).2
 unfold jI
 rw[if_neg (by omega)]
 obtain⟨F,o⟩:∃F,F=xB (evR s w l) (qC s (evR s w l) w).2 wk:=⟨_,rfl⟩
 have G:F.length<=200:=by rw[o];unfold xB;omega
 have m:∀x∈F,0<=x.id/\0<=x.kind:=λx c=>by
  rw[o] at c
  have c:=(qw.1 c).1
  obtain⟨e,C,r⟩:=Y8 x c
  have d:=(qw.1 C).2
  have v:ZY s e=true:=by
   unfold J3 at d
   cases q:ZY s e
   ·rw[q] at d;simp at d
   ·rfl
  have:=(QI (Jb v)).2.1
  exact⟨by omega,(wWa x c).1⟩
 rw[<-o]
 have b:∀j:Nat,0<=yY (wg s (qC s (evR s w l) (w.toNat:Int)).1 wk) j/\yY (wg s (qC s (evR s w l) (w.toNat:Int)).1 wk) j<=604800:=λj=>J1a
 have N:=J6a (s:=s) (l:=evR s w l) (w:=(w.toNat:Int)) (k:=wk) z (by omega)
 have i:=KUa (s:=s) (l:=evR s w l) (w:=(w.toNat:Int)) (k:=wk)
 show jU (Z2a s (evR s w l) w.toNat wk) F=true
 unfold Z2a
 extract_lets P tot tier p
 have O:=KWa z w.toNat b P.eligible tier
 have h:Fit (tier+1)/\ -1<=tier:=by
  show Fit (ite _ (kn s _) (-1)+1)/\ -1<=ite _ (kn s _) (-1)
  split
  ·refine⟨(jRa f _).2,?_⟩
   cases u:rok P.perf
   ·have:kn s P.perf= -1:=by simp[kn,u]
    omega
   ·rcases k3a z u with⟨e,_⟩|⟨j,t,r,A,_⟩
    ·omega
    ·omega
  ·exact⟨by unfold Fit;decide,by decide⟩
 have y:wr (tier+1)=tier+1:=qb h.1
 have i:xD P.err:=i
 obtain⟨⟨⟨r,A⟩,Q,M⟩,K⟩:=N
 obtain⟨p1,p2,J,E⟩:=O
 have I:decide (P.err>100000)=false:=by
  unfold xD at i
  rw[decide_eq_false_iff_not];omega
 have H:decide ((F.length:Int)>200)=false:=by rw[decide_eq_false_iff_not];omega
 unfold jU
 simp only[I,H,Bool.or_self,Bool.not_false,Bool.true_and]
 rw[XR]
 intro n a
 unfold jd jN Qa Zg vE at a
 simp only[zK,zH,List.not_mem_nil,or_false,List.mem_flatMap] at a
 have t0:=b 0
 have t1:=b 1
 have t2:=b 2
 have t3:=b 3
 have t4:=b 4
 have t5:=b 5
 have t6:=b 6
 have R:0<=P.err:=by unfold xD at i;omega
 rcases a with((((a|a)|a)|a)|a)|⟨x,c,a⟩
 ·rcases a with rfl|rfl|rfl
  ·exact zg _
  ·exact k0.1
  ·exact R
 ·rcases a with rfl|rfl|rfl|rfl|rfl|rfl|rfl
  ·exact t0.1
  ·exact t1.1
  ·exact t2.1
  ·exact t3.1
  ·exact t4.1
  ·exact t5.1
  ·exact t6.1
 ·rcases a with rfl|rfl|rfl|rfl|rfl|rfl|rfl
  ·exact p1 0 (by omega)
  ·exact p1 1 (by omega)
  ·exact p1 2 (by omega)
  ·exact p1 3 (by omega)
  ·exact p1 4 (by omega)
  ·exact p1 5 (by omega)
  ·exact p1 6 (by omega)
 ·rcases a with rfl|rfl|rfl|rfl|rfl|rfl|rfl|rfl|rfl
  ·exact r
  ·exact A
  ·exact Q
  ·exact M
  ·exact K
  ·rw[y];omega
  ·exact p2
  ·exact J
  ·exact E
 ·subst a;omega
 ·obtain⟨a1,a2⟩:=m x c
  rcases a with rfl|rfl
  ·exact a1
  ·exact a2
def jTa(n:Int):Prop:=0<=n/\n<=9223372036854775807
theorem Jk:∀ {ns:List Int} (rest:List Int),(∀n∈ns,jTa n)->qW ns.length (ns.flatMap qM++rest)=some (ns,rest)
 | [],_,_=>rfl
 | n::ns,rest,h=>by
   obtain⟨c,a⟩:=h n (.head _)
   rw[List.length_cons,qW,List.flatMap_cons,zn,kna c a]
   simp only
   rw[Jk rest λm b=>h m (.tail _ b)]
   rfl
theorem QU:∀ {k:Nat} {b ns r:List Int},By b->qW k b=some (ns,r)->b=ns.flatMap qM++r/\(∀n∈ns,jTa n)/\By r
 | 0,b,ns,r,c,h=>by
   injection h with h
   injection h with d a
   subst d a
   exact⟨rfl,λ_ h=>(by cases h),c⟩
 | k+1,b,ns,r,c,h=>by
   rw[qW] at h
   split at h
   ·cases h
   ·rename_i n s l
    obtain⟨q,d,a⟩:=Option.map_eq_some_iff.1 h
    injection a with a h3
    obtain⟨o,g,i⟩:=zaa c l
    obtain⟨f,p,j⟩:=QU (ns:=q.1) (r:=q.2) i d
    subst a h3
    refine⟨by rw[o,f,List.flatMap_cons,zn],λm e=>?_,j⟩
    rcases zH.1 e with rfl|e
    ·exact g
    ·exact p m e
def flgs:List Int->List Flg
 | a::b::l=>⟨a,b⟩::flgs l
 | _=>[]
theorem Qta:∀F:List Flg,flgs (vE F)=F
 | []=>rfl
 | f::F=>by
   have:=Qta F
   unfold vE at*
   rw[List.flatMap_cons]
   exact congrArg (λl=>f::l) this
theorem Vm:∀ {k:Nat} {l:List Int},l.length=2*k->vE (flgs l)=l/\(flgs l).length=k
 | 0,[],_=>⟨rfl,rfl⟩
 | k+1,a::b::l,h=>by
   obtain⟨d,c⟩:=Vm (k:=k) (l:=l) (by simp only[List.length_cons] at h;omega)
   constructor
   ·show [a,b]++vE (flgs l)=_
    rw[d];rfl
   ·show(flgs l).length+1=_
    rw[c]
def wi(ns:List Int):RowV:=
 ⟨ns.getD 0 0,ns.getD 1 0,ns.getD 2 0,λj=>if j<7 then ns.getD (3+j) 0 else 0,λj=>if j<7 then ns.getD (10+j) 0 else 0,(ns.getD 17 0,ns.getD 18 0),(ns.getD 19 0,ns.getD 20 0),ns.getD 21 0,wr (ns.getD 22 0 - 1),ns.getD 23 0,ns.getD 24 0,ns.getD 25 0⟩
def jS(b:List Int):Option ((RowV × List Flg) × List Int):=
 (qW 26 b).bind λq=>(vr q.2).bind λm=>(qW (2*m.1.toNat) m.2).bind λf=>if jU (wi q.1) (flgs f.1) then some ((wi q.1,flgs f.1),f.2) else none
def qR:Nat->List Int->Option (List (RowV × List Flg) × List Int)
 | 0,b=>some ([],b)
 | k+1,b=>(jS b).bind λq=>(qR k q.2).map λz=>(q.1::z.1,z.2)
def ko(b:List Int):Option (List (RowV × List Flg)):=(vr b).bind λm=>(qR m.1.toNat m.2).bind λz=>if z.2=[] then some z.1 else none
theorem jUa{n:Nat}{rest:List Int}(h:n<=rest.length)(a:n<=9223372036854775807):vr (qM (n:Int)++rest)=some ((n:Int),rest):=by
 unfold vr
 rw[kna (by omega) (by omega)]
 simp only
 rw[if_pos (by omega)]
theorem vqa(n:Int):1<=(qM n).length:=by rw[qM,List.length_cons];omega
theorem XS:∀ns:List Int,ns.length<=(ns.flatMap qM).length
 | []=>zo _
 | n::ns=>by
   have:=XS ns
   have:=vqa n
   rw[List.flatMap_cons,ze,List.length_cons]
   omega
theorem jVa:∀ {ns:List Int} {q:List Int × Bool},(xC q ns).2=true->q.2=true/\∀n∈ns,0<=n
 | [],q,h=>⟨h,λ_ h=>(by cases h)⟩
 | n::ns,q,h=>by
   obtain⟨a,d⟩:=jVa (ns:=ns) (q:=yn q n) h
   have a:(q.2 && (wh q.1 [n]).2==0)=true:=a
   rw[zj,beq_iff_eq] at a
   refine⟨a.1,λm c=>?_⟩
   rcases zH.1 c with rfl|c
   ·have b:=a.2
    unfold wh at b
    split at b
    ·cases b
    ·rename_i e
     simpa [jIa] using e
   ·exact d m c
theorem jWa{R:RowV}{F:List Flg}(h:jU R F=true):∀n∈jd R F,0<=n:=by
 unfold jU at h
 rw[zj] at h
 exact(jVa h.2).2
structure FitW (R:RowV) (F:List Flg):Prop where
 nums:∀n∈jd R F,n<=9223372036854775807
 tier:Fit R.tier
 tier1:Fit (R.tier+1)
theorem wXa{R:RowV}(c:Fit R.tier)(a:Fit (R.tier+1)):jN (wi (jN R))=jN R:=by
 have d:wr (R.tier+1)=R.tier+1:=qb a
 have b:wr (wr (R.tier+1) - 1)=R.tier:=by
  rw[d]
  exact(qb (n:=R.tier+1 - 1) (by have:=c;unfold Fit at *; omega)).trans (by omega)
 have:(wi (jN R)).tier=R.tier:=b
 unfold jN
 rw[show wr ((wi ([R.worker,R.week,R.err]++Qa R++Zg R++[R.earned.1,R.earned.2,R.perf.1,R.perf.2,R.elig,wr (R.tier+1),R.extra,R.supp,R.total])).tier+1)=wr (R.tier+1) from by rw[show(wi ([R.worker,R.week,R.err]++Qa R++Zg R++[R.earned.1,R.earned.2,R.perf.1,R.perf.2,R.elig,wr (R.tier+1),R.extra,R.supp,R.total])).tier=R.tier from b]]
 rfl
theorem J7a{R:RowV}(F:List Flg)(b:Fit R.tier)(a:Fit (R.tier+1)):ZD (wi (jN R))=ZD R:=by
 have c:wr (R.tier+1)=R.tier+1:=qb a
 have d:wr (wr (R.tier+1) - 1)=R.tier:=by
  rw[c]
  exact(qb (n:=R.tier+1 - 1) (by have:=b;unfold Fit at *; omega)).trans (by omega)
 unfold ZD
 rw[show(wi (jN R)).tier=R.tier from d]
 rfl
theorem jXa{R:RowV}{F:List Flg}(rest:List Int)(h:jU R F=true)(f:FitW R F):jS ((jd R F).flatMap qM++rest)=some ((wi (jN R),F),rest):=by
 have o:=jWa h
 have p:F.length<=200:=by
  unfold jU at h
  rw[zj,Bool.not_eq_true',zQ,decide_eq_false_iff_not,decide_eq_false_iff_not] at h
  omega
 have a:∀n∈jd R F,jTa n:=λn b=>⟨o n b,f.nums n b⟩
 have m:(jd R F).flatMap qM++rest=(jN R).flatMap qM++(qM (F.length:Int)++((vE F).flatMap qM++rest)):=by
  unfold jd
  simp only[List.flatMap_append,List.flatMap_cons,List.flatMap_nil,zU,zn]
 have g:∀n∈jN R,jTa n:=λn b=>a n (by unfold jd;simp[b])
 have l:∀n∈vE F,jTa n:=λn b=>a n (by unfold jd;simp[b])
 have c:=Jj F
 have k:=XS (vE F)
 have e:=Jk (qM (F.length:Int)++((vE F).flatMap qM++rest)) g
 rw[yU] at e
 have j:=jUa (n:=F.length) (rest:=(vE F).flatMap qM++rest) (by rw[ze];omega) (by omega)
 have d:=Jk rest l
 rw[c] at d
 unfold jS
 rw[m,e]
 simp only[Option.bind_some,j,Int.toNat_natCast,d,Qta]
 rw[if_pos]
 have i:jd (wi (jN R)) F=jd R F:=by unfold jd;rw[wXa f.tier f.tier1]
 unfold jU at h⊢
 rw[i]
 exact h
theorem WR:∀W:List (RowV × List Flg),26*W.length<=(j8 W).length
 | []=>zo _
 | q::W=>by
   have:=WR W
   unfold j8 at*
   have a:26<=(jd q.1 q.2).length:=by
    unfold jd
    rw[ze,ze,yU]
    omega
   rw[List.flatMap_cons,ze,List.length_cons]
   omega
def zia(q:RowV × List Flg):RowV × List Flg:=(wi (jN q.1),q.2)
theorem XT:∀ {W:List (RowV × List Flg)} (rest:List Int),okW W=true->(∀q∈W,FitW q.1 q.2)->qR W.length ((j8 W).flatMap qM++rest)=some (W.map zia,rest)
 | [],_,_,_=>rfl
 | q::W,rest,h,f=>by
   unfold okW at h
   rw[List.all_cons,zj] at h
   have a:(j8 (q::W)).flatMap qM++rest=(jd q.1 q.2).flatMap qM++((j8 W).flatMap qM++rest):=by
    unfold j8
    rw[List.flatMap_cons,List.flatMap_append,zn]
   rw[a,List.length_cons,qR,jXa _ h.1 (f q (.head _))]
   simp only[Option.bind_some]
   rw[XT rest (by unfold okW;exact h.2) λz b=>f z (.tail _ b)]
   rfl
theorem wYa{W:List (RowV × List Flg)}(h:okW W=true)(f:∀q∈W,FitW q.1 q.2)(d:W.length<=9223372036854775807):(jV W).2=0/\ko (jV W).1=some (W.map zia):=by
 have i:∀n∈[(W.length:Int)]++j8 W,0<=n:=λn a=>by
  rcases zK.1 a with a|a
  ·rw[zJ.1 a];omega
  ·unfold j8 at a
   obtain⟨q,g,a⟩:=List.mem_flatMap.1 a
   unfold okW at h
   exact jWa (zL.1 h q g) n a
 have e:jV W=(([(W.length:Int)]++j8 W).flatMap qM,0):=by
  unfold jV
  rw[if_pos h,XR i]
  rfl
 rw[e]
 refine⟨rfl,?_⟩
 have j:=WR W
 have k:=XS (j8 W)
 have c:([(W.length:Int)]++j8 W).flatMap qM=qM (W.length:Int)++(j8 W).flatMap qM:=by
  rw[List.flatMap_append,List.flatMap_cons,List.flatMap_nil,zU]
 have b:=XT (W:=W) [] h f
 rw[zU] at b
 unfold ko
 simp only[c]
 rw[jUa (by omega) d]
 simp only[Option.bind_some,Int.toNat_natCast,b]
 rfl
theorem kya{ns:List Int}(t:ns.length=26)(v:∀n∈ns,jTa n):jN (wi ns)=ns:=by
 match ns,t with
 | [a0,a1,a2,a3,a4,a5,r,q,s,a9,j,d,f,a,h,l,i,k,c,m,a20,b,a22,g,o,a25],_=>
   have p:=v a22 (by simp)
   unfold jTa at p
   have u:wr (a22 - 1)=a22 - 1:=qb (by unfold Fit;omega)
   have w:wr (wr (a22 - 1)+1)=a22:=by
    rw[u]
    exact(qb (n:=a22 - 1+1) (by unfold Fit;omega)).trans (by omega)
   have e:jN (wi [a0,a1,a2,a3,a4,a5,r,q,s,a9,j,d,f,a,h,l,i,k,c,m,a20,b,a22,g,o,a25])=[a0,a1,a2,a3,a4,a5,r,q,s,a9,j,d,f,a,h,l,i,k,c,m,a20,b,wr (wr (a22 - 1)+1),g,o,a25]:=rfl
   rw[e,w]
theorem Qb{b:List Int}{n:Int}{r:List Int}(f:By b)(h:vr b=some (n,r)):b=qM n++r/\jTa n/\By r/\n<=(r.length:Int):=by
 unfold vr at h
 split at h
 ·rename_i n' i e
  split at h
  ·rename_i a
   injection h with h
   injection h with h1 h2
   subst h1 h2
   obtain⟨g,c,d⟩:=zaa f e
   exact⟨g,c,d,a⟩
  ·cases h
 ·cases h
theorem WS{b:List Int}{q:RowV × List Flg}{r:List Int}(p:By b)(h:jS b=some (q,r)):jU q.1 q.2=true/\b=(jd q.1 q.2).flatMap qM++r/\By r:=by
 unfold jS at h
 obtain⟨⟨ns,b1⟩,g,h⟩:=Option.bind_eq_some_iff.1 h
 obtain⟨⟨m,b2⟩,d,h⟩:=Option.bind_eq_some_iff.1 h
 obtain⟨⟨f,b3⟩,a,h⟩:=Option.bind_eq_some_iff.1 h
 simp only at d a h
 split at h
 ·rename_i c
  injection h with h
  injection h with e1 e2
  subst e1 e2
  obtain⟨i,o,k⟩:=QU p g
  obtain⟨s,n,l,_⟩:=Qb k d
  obtain⟨k1,k2,k3⟩:=QU l a
  obtain⟨j,l2⟩:=Vm (xm a)
  refine⟨c,?_,k3⟩
  have e:jd (wi ns) (flgs f)=ns++[m]++f:=by
   unfold jd
   rw[kya (xm g) o,j,l2,xU n.1]
  rw[e,i,s,k1]
  simp only[List.flatMap_append,List.flatMap_cons,List.flatMap_nil,zU,zn]
 ·cases h
theorem QV:∀ {k:Nat} {b:List Int} {W:List (RowV × List Flg)} {r:List Int},By b->qR k b=some (W,r)->W.length=k/\okW W=true/\b=(j8 W).flatMap qM++r/\By r
 | 0,b,W,r,c,h=>by
   injection h with h
   injection h with d a
   subst d a
   exact⟨rfl,rfl,rfl,c⟩
 | k+1,b,W,r,c,h=>by
   rw[qR] at h
   obtain⟨⟨q,b1⟩,d,h⟩:=Option.bind_eq_some_iff.1 h
   obtain⟨⟨Z,n⟩,a,h⟩:=Option.map_eq_some_iff.1 h
   injection h with e1 e2
   simp only at a e2
   subst e1 e2
   obtain⟨e,j,f⟩:=WS c d
   obtain⟨l,i,g,m⟩:=QV f a
   refine⟨by rw[List.length_cons,l],by unfold okW at *; rw[List.all_cons,e,i];rfl,?_,m⟩
   rw[j,g]
   unfold j8
   rw[List.flatMap_cons,List.flatMap_append,zn]
theorem Qua{b:List Int}{W:List (RowV × List Flg)}(l:By b)(h:ko b=some W):okW W=true/\jV W=(b,0):=by
 unfold ko at h
 obtain⟨⟨m,b1⟩,p,h⟩:=Option.bind_eq_some_iff.1 h
 obtain⟨⟨Z,r⟩,d,h⟩:=Option.bind_eq_some_iff.1 h
 simp only at d h
 split at h
 ·rename_i o
  injection h with h
  subst h o
  obtain⟨j,f,g,_⟩:=Qb l p
  obtain⟨e,c,i,_⟩:=QV g d
  refine⟨c,?_⟩
  have s:∀n∈[(Z.length:Int)]++j8 Z,0<=n:=λn a=>by
   rcases zK.1 a with a|a
   ·rw[zJ.1 a];omega
   ·unfold j8 at a
    obtain⟨q,k,a⟩:=List.mem_flatMap.1 a
    unfold okW at c
    exact jWa (zL.1 c q k) n a
  have a:m=(Z.length:Int):=by rw[e,xU f.1]
  unfold jV
  rw[if_pos c,XR s,j,i,a,List.nil_append,List.flatMap_append,List.flatMap_cons,List.flatMap_nil,zU,zU]
 ·cases h
theorem yo:∀(k m:Nat) (b:List Int),qR (k+m) b=(qR k b).bind λq=>(qR m q.2).map λz=>(q.1++z.1,z.2)
 | 0,m,b=>by
   rw[Nat.zero_add]
   show _=(qR m b).map λz=>([]++z.1,z.2)
   cases qR m b<;>rfl
 | k+1,m,b=>by
   rw[show k+1+m=(k+m)+1 by omega,qR,qR]
   cases jS b with
   | none=>rfl
   | some q=>
     obtain⟨q,r⟩:=q
     simp only[Option.bind_some]
     rw[yo k m r]
     cases qR k r with
     | none=>rfl
     | some z=>
       simp only[Option.bind_some,Option.map_some]
       cases qR m z.2<;>rfl
theorem Yk{k:Nat}{b:List Int}{W:List (RowV × List Flg)}{a:List Int}{q:RowV × List Flg}{r:List Int}(h:qR k b=some (W,a))(c:jS a=some (q,r)):qR (k+1) b=some (W++[q],r):=by
 rw[yo,h]
 simp only[Option.bind_some,qR,c,Option.map_some]
theorem wI{k n:Nat}{b:List Int}{W:List (RowV × List Flg)}{a:List Int}(h:qR k b=some (W,a))(c:jS a=none)(d:k<n):qR n b=none:=by
 rw[show n=k+1+(n - (k+1)) by omega,yo,yo,h]
 simp only[Option.bind_some,qR,c,Option.bind_none,Option.map_none]
theorem Yl{b:List Int}(h:qW 26 b=none):jS b=none:=by
 unfold jS
 rw[h]
 rfl
theorem Ym{b ns b1:List Int}(h:qW 26 b=some (ns,b1))(a:vr b1=none):jS b=none:=by
 unfold jS
 rw[h]
 simp only[Option.bind_some,a,Option.bind_none]
theorem Yn{b ns b1 b2:List Int}{m:Int}(h:qW 26 b=some (ns,b1))(a:vr b1=some (m,b2))(c:qW (2*m.toNat) b2=none):jS b=none:=by
 unfold jS
 rw[h]
 simp only[Option.bind_some,a,c,Option.bind_none]
theorem XU{b ns b1 b2 a r:List Int}{m:Int}(h:qW 26 b=some (ns,b1))(c:vr b1=some (m,b2))(d:qW (2*m.toNat) b2=some (a,r)):jS b=if jU (wi ns) (flgs a) then some ((wi ns,flgs a),r) else none:=by
 unfold jS
 rw[h]
 simp only[Option.bind_some,c,d]
theorem kza{b b1 r:List Int}{n:Nat}{W:List (RowV × List Flg)}(h:vr b=some ((n:Int),b1))(a:qR n b1=some (W,r)):ko b=if r=[] then some W else none:=by
 unfold ko
 rw[h]
 simp only[Option.bind_some,Int.toNat_natCast,a]
theorem Qc{b b1:List Int}{n:Nat}(h:vr b=some ((n:Int),b1))(a:qR n b1=none):ko b=none:=by
 unfold ko
 rw[h]
 simp only[Option.bind_some,Int.toNat_natCast,a,Option.bind_none]
theorem J8a{b r:List Int}{n:Int}(t:List Int)(d:By b)(h:tkI b=some (n,r)):tkI (b++t)=some (n,r++t):=by
 obtain⟨c,a,e⟩:=zaa d h
 rw[c,zn,kna a.1 a.2]
theorem WT{k:Nat}{b ns r:List Int}(t:List Int)(c:By b)(h:qW k b=some (ns,r)):qW k (b++t)=some (ns,r++t):=by
 obtain⟨a,d,e⟩:=QU c h
 have:=Jk (r++t) d
 rw[xm h] at this
 rw[a,zn,this]
theorem zja{b r:List Int}{n:Int}(t:List Int)(c:By b)(h:vr b=some (n,r)):vr (b++t)=some (n,r++t):=by
 unfold vr at h
 split at h
 ·rename_i n' e a
  split at h
  ·rename_i d
   injection h with h
   injection h with h1 h2
   subst h1 h2
   unfold vr
   rw[J8a t c a]
   simp only
   rw[if_pos (by rw[ze];omega)]
  ·cases h
 ·cases h
theorem z8a{b r:List Int}{q:RowV × List Flg}(t:List Int)(f:By b)(h:jS b=some (q,r)):jS (b++t)=some (q,r++t):=by
 unfold jS at h
 obtain⟨⟨ns,b1⟩,g,h⟩:=Option.bind_eq_some_iff.1 h
 obtain⟨⟨m,b2⟩,a,h⟩:=Option.bind_eq_some_iff.1 h
 obtain⟨⟨k,b3⟩,d,h⟩:=Option.bind_eq_some_iff.1 h
 simp only at a d h
 split at h
 ·rename_i c
  injection h with h
  injection h with e1 e2
  subst e1 e2
  obtain⟨j,n,e⟩:=QU f g
  obtain⟨o,l,i,_⟩:=Qb e a
  rw[XU (WT t f g) (zja t e a) (WT t i d),if_pos c]
 ·cases h
theorem Jw:∀ {k:Nat} {b r:List Int} {W:List (RowV × List Flg)} (t:List Int),By b->qR k b=some (W,r)->qR k (b++t)=some (W,r++t)
 | 0,b,r,W,t,d,h=>by
   injection h with h
   injection h with c a
   subst c a
   rfl
 | k+1,b,r,W,t,d,h=>by
   rw[qR] at h
   obtain⟨⟨q,b1⟩,c,h⟩:=Option.bind_eq_some_iff.1 h
   obtain⟨⟨Z,g⟩,a,h⟩:=Option.map_eq_some_iff.1 h
   injection h with e1 e2
   simp only at a e1 e2
   subst e1 e2
   obtain⟨f,i,e⟩:=WS d c
   rw[qR,z8a t d c]
   simp only[Option.bind_some]
   rw[Jw t e a]
   rfl
theorem kAa{b:List Int}{W:List (RowV × List Flg)}{t:List Int}(c:By b)(h:ko b=some W)(f:t≠[]):ko (b++t)=none:=by
 unfold ko at h
 obtain⟨⟨m,b1⟩,d,h⟩:=Option.bind_eq_some_iff.1 h
 obtain⟨⟨Z,r⟩,a,h⟩:=Option.bind_eq_some_iff.1 h
 simp only at a h
 split at h
 ·rename_i g
  subst g
  obtain⟨j,i,e,_⟩:=Qb c d
  unfold ko
  rw[zja t c d]
  simp only[Option.bind_some]
  rw[Jw t e a]
  simp only[Option.bind_some,List.nil_append]
  rw[if_neg f]
 ·cases h
theorem K4a{b t:List Int}{W:List (RowV × List Flg)}(c:By b)(h:ko (b++t)=some W)(a:t≠[]):ko b=none:=by
 cases e:ko b with
 | none=>rfl
 | some d=>
   rw[kAa c e a] at h
   cases h
end Go.Proofs.YtigdlmpjijhpaaaGreat.Ax
namespace Go.Proofs.YtigdlmpjijhpaaaGreat.Ax
open Go Go.RowKit Go.ChangeShapes Go.WideShapes
section
variable {H:Type} {enc:TypeId × Value->H} {P:Program} {w:World} {base:Nat} {held:Bool}
def zoa(P:Program):Nat->TypeId->Bool
 | 0,_=>false
 | n+1,t=>match P.underlying t with
   | some (.int .i64)=>true
   | some (.struct a)=>(List.range (P.cellsOf t)).all λk=>a.toList.any λf=>zoa P n f.type && (decide (f.offset<=k) && decide (k<f.offset+P.cellsOf f.type))
   | some (.array m e)=>zoa P n e && (decide (P.cellsOf t=m*P.cellsOf e) && decide (0<P.cellsOf e))
   | _=>false
theorem J9{spare:Nat->Bool}:∀(n:Nat) {t:TypeId} {a:Nat} {cs:List Value} {x:DataW H × List MemPlace},zoa P n t=true->DataW.trod enc P w base spare held a t cs=some x->∀v∈cs,∃z,v= .int .i64 z/\(Lit.int .i64 z).wf=true
 | 0,_,_,_,_,h,_=>by cases h
 | n+1,t,a,cs,x,h,l=>by
   unfold zoa at h
   split at h
   ·rename_i g
    obtain⟨z,rfl,_,F⟩:=DataW.trod_int g l
    intro v b
    simp at b
    exact⟨z,b,F⟩
   ·rename_i c g
    obtain⟨xs,n',_,_,D,d,s⟩:=DataW.trod_struct g l
    intro v b
    obtain⟨k,r,rfl⟩:=List.mem_iff_getElem.1 b
    have y:=zL.1 h k (jg.2 (by omega))
    obtain⟨f,p,i⟩:=List.any_eq_true.1 y
    simp only[zj,decide_eq_true_eq] at i
    obtain⟨u,C,E⟩:=i
    obtain⟨j,q,rfl⟩:=List.mem_iff_getElem.1 p
    have o:j<c.size:=by simpa using q
    have:=s j _ (by rw[zT o])
    rw[zh (by omega)] at this
    refine J9 n u this _ ?_
    rw[List.mem_iff_getElem?]
    refine⟨k - c.toList[j].offset,?_⟩
    have G:c[j]=c.toList[j]:=by simp
    rw[G,qO,if_pos (by omega),List.getElem?_drop,show c.toList[j].offset+(k - c.toList[j].offset)=k by omega,zh r]
   ·rename_i m e g
    simp only[zj,decide_eq_true_eq] at h
    obtain⟨I,J,A⟩:=h
    obtain⟨xs,n',_,_,D,d,s⟩:=DataW.trod_array g l
    intro v b
    obtain⟨k,r,rfl⟩:=List.mem_iff_getElem.1 b
    have B:k<m*P.cellsOf e:=by omega
    have q:k / P.cellsOf e<m:=(Nat.div_lt_iff_lt_mul A).2 B
    have:=s _ q
    rw[zh (by omega)] at this
    refine J9 n I this _ ?_
    rw[List.mem_iff_getElem?]
    refine⟨k % P.cellsOf e,?_⟩
    rw[qO,if_pos (Nat.mod_lt _ A),List.getElem?_drop,Nat.div_add_mod',zh r]
   ·cases h
theorem j0a{spare:Nat->Bool}{n:Nat}{t:TypeId}{a:Array Field}{c:Nat}{cs:List Value}{x:DataW H × List MemPlace}(q:P.underlying t=some (.struct a))(s:DataW.trod enc P w base spare held c t cs=some x){k:Nat}(i:k<cs.length)(h:(a.toList.any λf=>zoa P n f.type && (decide (f.offset<=k) && decide (k<f.offset+P.cellsOf f.type)))=true):∃z,cs[k]? =some (.int .i64 z)/\(Lit.int .i64 z).wf=true:=by
 obtain⟨xs,n',_,_,A,l,r⟩:=DataW.trod_struct q s
 obtain⟨f,e,b⟩:=List.any_eq_true.1 h
 simp only[zj,decide_eq_true_eq] at b
 obtain⟨g,m,p⟩:=b
 obtain⟨j,y,rfl⟩:=List.mem_iff_getElem.1 e
 have d:j<a.size:=by simpa using y
 have:=r j _ (by rw[zT d])
 rw[zh (by omega)] at this
 have v:a[j]=a.toList[j]:=by simp
 obtain⟨z,u,o⟩:=J9 n g this cs[k] (by
  rw[List.mem_iff_getElem?]
  refine⟨k - a.toList[j].offset,?_⟩
  rw[v,qO,if_pos (by omega),List.getElem?_drop,show a.toList[j].offset+(k - a.toList[j].offset)=k by omega,zh i])
 exact⟨z,by rw[zh i,u],o⟩
theorem zpa{c:Ctx}{A:Addr}:∀(l:List AV) (k:Nat),(∀j x,l[j]? =some x->∃u,c.rd (A.add (k+j)) u/\AR c x u)->ACells c (some A) k l
 | [],_,_=>trivial
 | x::l,k,h=>by
   obtain⟨u,b,a⟩:=h 0 x rfl
   refine⟨⟨A,u,rfl,by simpa using b,a⟩,zpa l (k+1) λj z d=>?_⟩
   have:=h (j+1) z (by simpa using d)
   rwa[show k+(j+1)=k+1+j by omega] at this
theorem WU{c:Ctx}{A:Addr}{e:Nat}:∀(rows:List (List AV)) (i:Nat),(∀r∈rows,r.length=e)->(∀j r,rows[j]? =some r->∀k x,r[k]? =some x->∃u,c.rd (A.add ((i+j)*e+k)) u/\AR c x u)->ARows c (some A) e i rows
 | [],_,_,_=>trivial
 | r::rows,i,f,d=>by
   refine⟨⟨f r (.head _),zpa r (i*e) λk z a=>by simpa using d 0 r rfl k z a⟩,WU rows (i+1) (λq b=>f q (.tail _ b)) λj q b k z a=>?_⟩
   have:=d (j+1) q (by simpa using b) k z a
   rwa[show i+(j+1)=i+1+j by omega] at this
end
def WV(ns:List Int):RowV:=
 ⟨xO ns 0,xO ns 1,xO ns 2,λj=>if j<7 then xO ns (3+j) else 0,λj=>if j<7 then xO ns (10+j) else 0,(xO ns 17,xO ns 18),(xO ns 19,xO ns 20),xO ns 21,xO ns 22,xO ns 23,xO ns 24,xO ns 25⟩
theorem Xca:∀ {ns:List Int} (a:AV),ns.length=26->ns.map i64++[a]=jJ (WV ns) a
 | [_,_,_,_,_,_,_,_,_,_,_,_,_,_,_,_,_,_,_,_,_,_,_,_,_,_],_,_=>rfl
def qaa(r:List Int):Flg:=⟨xO r 0,xO r 1⟩
theorem Xda:∀ {r:List Int},r.length=2->r.map i64=jT (qaa r)
 | [_,_],_=>rfl
structure RawW (q:RwA):Prop where
 sl:SlOf [] q.2.1 2 (q.2.2.map jT)
 raw:∃ns:List Int,q.1=WV ns/\∀n∈ns,Fit n
 flg:∀f∈q.2.2,Fit f.id/\Fit f.kind
def InRws(w:World)(v:Value):Prop:=∃(x:AV) (W:List RwA),AR (c0 w) x v/\SlOf [] x 27 (W.map λq=>jJ q.1 q.2.1)/\(∀q∈W,RawW q)/\W.length<=9223372036854775807
section
variable {H:Type} {enc:TypeId × Value->H} {w:World} {base:Nat} {held:Bool}
theorem Xea:(match Tryz.prog.underlying 45 with
 | some (.struct a)=>(List.range 26).all λk=>a.toList.any λf=>zoa Tryz.prog 3 f.type && (decide (f.offset<=k) && decide (k<f.offset+Tryz.prog.cellsOf f.type))
 | _=>false)=true:=by kernel_rfl
set_option maxRecDepth 100000 in
theorem wZa{d:Nat}{cs:List Value}{x:DataW H × List MemPlace}(h:DataW.trod enc Tryz.prog w base (λ_=>true) held d 45 cs=some x):∃(ns:List Int) (v:Value) (a:AV) (F:List (List Int)),ns.length=26/\(∀(k:Nat) (z:Int),ns[k]? =some z->cs[k]? =some (Value.int .i64 z)/\Fit z)/\cs[26]? =some v/\Qd w 2 v a F:=by
 obtain⟨xs,n,_,_,t,e,u⟩:=DataW.trod_struct Tryz.underlying45 h
 have i:Tryz.prog.cellsOf 45=27:=by kernel_rfl
 rw[i] at t
 have key:∀k,∃z:Int,k<26->cs[k]? =some (.int .i64 z)/\Fit z:=λk=>by
  by_cases c:k<26
  ·have l:=Xea
   rw[Tryz.underlying45] at l
   obtain⟨z,A,r⟩:=j0a (n:=3) Tryz.underlying45 h (k:=k) (by omega) (zL.1 l k (jg.2 c))
   exact⟨z,λ_=>⟨A,wf_fit r⟩⟩
  ·exact⟨0,λh=>absurd h c⟩
 obtain⟨f,j⟩:=Classical.axiomOfChoice key
 have B:∃y,xs[12]? =some y:=⟨_,zh (by rw[e];decide)⟩
 obtain⟨y,m⟩:=B
 have b:DataW.trod enc Tryz.prog w base (λ_=>true) held n 43 ((cs.drop 26).take (Tryz.prog.cellsOf 43))=xs[12]? :=u 12 _ rfl
 rw[m] at b
 have k1:Tryz.prog.cellsOf 43=1:=by kernel_rfl
 rw[k1] at b
 have o:(cs.drop 26).take 1=[cs[26]'(by omega)]:=by
  rw[qp (by omega)]
  rfl
 rw[o] at b
 obtain⟨a,F,q⟩:=jZa Tryz.underlying43 (n:=3) (by kernel_rfl) b
 have p:Tryz.prog.cellsOf 105=2:=by kernel_rfl
 rw[p] at q
 refine⟨(List.range 26).map f,cs[26]'(by omega),a,F,by simp,λk z c=>?_,by rw[zh],q⟩
 have g:k<26:=by have:=(zd.1 c).1;simpa using this
 have s:f k=z:=by simpa [g] using c
 rw[<-s]
 exact j k g
theorem rws_in{s:Nat}{v:Value}{x:DataW H × List MemPlace}(h:DataW.trod enc Tryz.prog w base (λ_=>true) held s 32 [v]=some x):InRws w v:=by
 have C:Tryz.prog.cellsOf 45=27:=by kernel_rfl
 rcases Go.Deep.open_slice Tryz.underlying32 h with⟨b,_⟩|⟨a,len,cap,m,n',D,Pl,b,hb,K,U,B,rfl,M⟩
 ·injection b with b _
  subst b
  exact⟨.v (.slice none 0 0),[],rfl,⟨rfl,λh=>absurd rfl h⟩,λ_ h=>(by cases h),Nat.zero_le _⟩
 ·injection b with b _
  subst b
  rw[C] at M
  have each:∀i,i<len->∃q:List Int × AV × List (List Int),q.1.length=26/\(∀k z,q.1[k]? =some z->w.cell? (a.add (i*27+k))=some (.int .i64 z)/\Fit z)/\∃v,w.cell? (a.add (i*27+26))=some v/\Qd w 2 v q.2.1 q.2.2:=by
   intro i hi
   obtain⟨cs',h1,Y⟩:=M i (by rw[B];simp;omega)
   obtain⟨_,L,d⟩:=World.cells?_some h1
   obtain⟨ns,v,T,F,Z,S,R,X⟩:=wZa Y
   refine⟨(ns,T,F),Z,λk z c=>?_,v,?_,X⟩
   ·obtain⟨V,r2⟩:=S k z c
    have t:k<ns.length:=(zd.1 c).1
    exact⟨by rw[<-Addr.add_add,d k (by omega),V],r2⟩
   ·rw[<-Addr.add_add,d 26 (by omega),R]
  haveI:Inhabited (List Int × AV × List (List Int)):=⟨([],.bad,[])⟩
  have:∃f:Nat->List Int × AV × List (List Int),∀i,i<len->(f i).1.length=26/\(∀k z,(f i).1[k]? =some z->w.cell? (a.add (i*27+k))=some (.int .i64 z)/\Fit z)/\∃v,w.cell? (a.add (i*27+26))=some v/\Qd w 2 v (f i).2.1 (f i).2.2:=Go.Deep.choose_lt each
  obtain⟨f,Q⟩:=this
  obtain⟨W,N⟩:∃W:List RwA,W=(List.range len).map λi=>(WV (f i).1,(f i).2.1,(f i).2.2.map qaa):=⟨_,rfl⟩
  have p:W.length=len:=by rw[N];simp
  have u:∀j q,W[j]? =some q->j<len/\q=(WV (f j).1,(f j).2.1,(f j).2.2.map qaa):=λj q e=>by
   have o:j<len:=by have:=(zd.1 e).1;omega
   rw[N,zr,List.getElem?_range o] at e
   injection e with e
   exact⟨o,e.symm⟩
  refine⟨.sl 27 (W.map λq=>jJ q.1 q.2.1),W,⟨some a,cap,by rw[zb,p],by rw[zb,p];exact K,?_⟩,⟨rfl,λ_=>rfl⟩,λq e=>?_,by rw[p];exact Nat.le_trans K U⟩
  ·refine WU _ 0 (λr y=>?_) λj r o k x c=>?_
   ·obtain⟨q,_,rfl⟩:=zx.1 y
    rfl
   ·rw[zr] at o
    obtain⟨q,e,rfl⟩:=Option.map_eq_some_iff.1 o
    obtain⟨l,rfl⟩:=u j q e
    obtain⟨A,I,v,P,O,E⟩:=Q j l
    rw[Nat.zero_add]
    simp only at c
    rw[<-Xca _ A] at c
    by_cases β:k<26
    ·rw[zC (by rw[zb];omega),zr] at c
     obtain⟨z,G,rfl⟩:=Option.map_eq_some_iff.1 c
     exact⟨_,rd0 (I k z G).1,rfl⟩
    ·have t:=(zd.1 c).1
     rw[ze,zb,A,List.length_singleton] at t
     have:k=26:=by omega
     subst this
     rw[zI (by rw[zb];omega),zb,A] at c
     injection c with c
     subst c
     exact⟨v,rd0 P,O⟩
  ·obtain⟨j,o⟩:=List.mem_iff_getElem?.1 e
   obtain⟨l,rfl⟩:=u j q o
   obtain⟨A,I,v,P,O,E,J⟩:=Q j l
   refine⟨?_,⟨_,rfl,λn hn=>?_⟩,λz G=>?_⟩
   ·rw[Zh (f:=qaa) (g:=jT) Xda λr y=>(J r y).1] at E
    exact E
   ·obtain⟨k,c⟩:=List.mem_iff_getElem?.1 hn
    exact(I k n c).2
   ·obtain⟨r,y,rfl⟩:=zx.1 G
    have:=QW (J r y).2
    exact⟨this 0,this 1⟩
def InBys(w:World)(v:Value):Prop:=∃b:List Int,AR (c0 w) (.sl 1 (b.map qN)) v/\By b
theorem bys_in{e:Nat}{v:Value}{x:DataW H × List MemPlace}(h:DataW.trod enc Tryz.prog w base (λ_=>true) held e 33 [v]=some x):InBys w v:=by
 rcases open_ints Tryz.underlying33 Tryz.underlying5 (by kernel_rfl) h with⟨b,_⟩|⟨a,len,cap,i,b,_,t,z,o,_,d,m⟩
 ·injection b with b _
  subst b
  exact⟨[],⟨none,0,rfl,zo _,True.intro⟩,λ_ h=>by cases h⟩
 ·injection b with b _
  subst b
  have o:i.length=cap:=by simpa using o
  have f:(i.take len).length=len:=by rw[zX];omega
  refine⟨i.take len,⟨some a,cap,by rw[zb,f],by rw[zb,f];exact t,?_⟩,λc s=>?_⟩
  ·refine WU _ 0 (λr u=>?_) λj r p k x g=>?_
   ·obtain⟨q,_,rfl⟩:=zx.1 u
    rfl
   ·rw[zr] at p
    obtain⟨q,l,rfl⟩:=Option.map_eq_some_iff.1 p
    have y:=(zd.1 l).1
    have n:k=0:=by have:=(zd.1 g).1;simp[qN] at this;exact this
    subst n
    injection g with g
    subst g
    refine⟨_,rd0 ?_,rfl⟩
    rw[Nat.zero_add,Nat.mul_one,Nat.add_zero,d j (by omega),zG]
    rw[qO,if_pos (by omega)] at l
    rw[l];rfl
  ·have:=m c (List.mem_of_mem_take s)
   simp[Lit.wf,IntKind.min,IntKind.max,IntKind.bits,IntKind.signed] at this
   omega
end
end Go.Proofs.YtigdlmpjijhpaaaGreat.Ax
namespace Go.Proofs.YtigdlmpjijhpaaaGreat.Ax
open Go Go.Proofs
theorem vra(n:Int):0<=IntKind.wrap .u8 n/\IntKind.wrap .u8 n<256:=by
 rw[IntKind.wrap_u8]
 omega
theorem vsa(n:Int):∀k,By (xj n k)
 | 0=>λc a=>by cases a
 | k+1=>λc a=>by
   rcases zH.1 a with rfl|a
   ·exact vra _
   ·exact vsa n k c a
theorem Qva(n:Int):By (qM n):=λc a=>by
 rcases zH.1 a with rfl|a
 ·exact vra _
 ·exact vsa n _ c a
theorem Xfa(ns:List Int):By (ns.flatMap qM):=λc a=>by
 obtain⟨n,_,a⟩:=List.mem_flatMap.1 a
 exact Qva n c a
theorem vta:∀ns:List Int,(ns.flatMap qM).length<=9*ns.length
 | []=>zo _
 | n::ns=>by
   have:=vta ns
   have:=Z9 n
   rw[List.flatMap_cons,ze,List.length_cons]
   omega
theorem KZa{W:List (RowV × List Flg)}(h:okW W=true):∀n∈[(W.length:Int)]++j8 W,0<=n:=λn a=>by
 rcases zK.1 a with a|a
 ·rw[zJ.1 a];omega
 ·unfold j8 at a
  obtain⟨q,b,a⟩:=List.mem_flatMap.1 a
  unfold okW at h
  exact jWa (zL.1 h q b) n a
theorem Jl{W:List (RowV × List Flg)}(h:okW W=true):jV W=(qM (W.length:Int)++(j8 W).flatMap qM,0):=by
 unfold jV
 rw[if_pos h,XR (KZa h),List.flatMap_append,List.flatMap_cons,List.flatMap_nil,zU,List.nil_append]
theorem WW{W:List (RowV × List Flg)}(h:okW W=false):jV W=([],200):=by
 unfold jV
 rw[h]
 rfl
theorem K5a(W:List (RowV × List Flg)):By (jV W).1:=by
 cases h:okW W
 ·rw[WW h]
  exact λc a=>by cases a
 ·rw[Jl h]
  intro c a
  rcases zK.1 a with a|a
  ·exact Qva _ c a
  ·exact Xfa _ c a
theorem K0a(W:List (RowV × List Flg)):(jV W).1.length<=9+3843*W.length:=by
 cases h:okW W
 ·rw[WW h]
  exact Nat.zero_le _
 ·rw[Jl h,ze]
  have:=Z9 (W.length:Int)
  have:=vta (j8 W)
  have:=Kt W h
  omega
theorem K6a{W:List (RowV × List Flg)}(h:okW W=true):0<(jV W).1.length:=by
 rw[Jl h,ze]
 have:=vqa (W.length:Int)
 omega
theorem j1a{ns:List Int}(h:∀n∈ns,Fit n)(k:Nat):Fit (xO ns k):=by
 unfold xO
 rw[zG]
 by_cases a:k<ns.length
 ·rw[zh a];exact h _ (zw a)
 ·rw[qf (by omega)];simp[Fit]
theorem RawW.tier{q:RwA}(k:RawW q):Fit q.1.tier:=by
 obtain⟨ns,e,h⟩:=k.raw
 rw[e]
 exact j1a h 22
theorem RawW.fit{q:RwA}(k:RawW q)(b:jU q.1 q.2.2=true):FitW q.1 q.2.2:=by
 have j:=k.tier
 have m:=jWa b
 have d:Fit (q.1.tier+1):=by
  have h0:0<=wr (q.1.tier+1):=m _ (by unfold jd jN;simp)
  by_cases e:q.1.tier=9223372036854775807
  ·rw[e] at h0
   exact absurd h0 (by decide)
  ·unfold Fit at*
   omega
 refine⟨λn a=>?_,j,d⟩
 obtain⟨ns,e,h⟩:=k.raw
 have l:=λk=>(j1a h k).2
 have o:(q.2.2.length:Int)<=200:=by
  unfold jU at b
  rw[zj,Bool.not_eq_true',zQ,decide_eq_false_iff_not,decide_eq_false_iff_not] at b
  omega
 unfold jd at a
 rcases zK.1 a with a|a
 ·rcases zK.1 a with a|a
  ·have i:=(ky (q.1.tier+1)).2
   rw[e] at a i
   unfold jN Qa Zg WV at a
   simp only[List.cons_append,List.nil_append,zH,List.not_mem_nil,or_false] at a
   rcases a with rfl|rfl|rfl|rfl|rfl|rfl|rfl|rfl|rfl|rfl|rfl|rfl|rfl|rfl|rfl|rfl|rfl|rfl|rfl|rfl|rfl|rfl|rfl|rfl|rfl|rfl<;>first|exact l _|exact i
  ·rw[zJ.1 a]
   omega
 ·unfold vE at a
  obtain⟨f,g,c⟩:=List.mem_flatMap.1 a
  have:=k.flg f g
  unfold Fit at this
  simp only[zH,List.not_mem_nil,or_false] at c
  rcases c with rfl|rfl<;>omega
theorem w0a{q:RowV × List Flg}(b:Fit q.1.tier)(a:Fit (q.1.tier+1)):ZH (zia q)=ZH q:=by
 unfold ZH zia
 rw[J7a q.2 b a]
theorem Wxa{W:List RwA}(h:okW (jz W)=true)(k:∀q∈W,RawW q)(d:W.length<=4096):ko (jV (jz W)).1=some ((jz W).map zia)/\((jz W).map zia).map ZH=(jz W).map ZH:=by
 have fits:∀p∈jz W,FitW p.1 p.2:=λp a=>by
  unfold jz at a
  obtain⟨q,c,rfl⟩:=zx.1 a
  have b:jU q.1 q.2.2=true:=by
   unfold okW jz at h
   exact zL.1 h (q.1,q.2.2) (zx.2 ⟨q,c,rfl⟩)
  exact(k q c).fit b
 refine⟨(wYa h fits (by unfold jz;rw[zb];omega)).2,?_⟩
 rw[yq]
 refine List.map_congr_left λp a=>?_
 have:=fits p a
 exact w0a this.tier this.tier1
theorem qba{b r:List Int}{q:RowV × List Flg}(h:jS b=some (q,r)):Fit q.1.tier:=by
 unfold jS at h
 obtain⟨⟨ns,b1⟩,e,h⟩:=Option.bind_eq_some_iff.1 h
 obtain⟨⟨m,b2⟩,a,h⟩:=Option.bind_eq_some_iff.1 h
 obtain⟨⟨c,b3⟩,d,h⟩:=Option.bind_eq_some_iff.1 h
 simp only at h
 split at h
 ·injection h with h
  injection h with e1 e2
  subst e1
  exact ky _
 ·cases h
theorem Jx:∀ {k:Nat} {b r:List Int} {W:List (RowV × List Flg)},qR k b=some (W,r)->∀q∈W,Fit q.1.tier
 | 0,b,r,W,h,q,a=>by
   injection h with h
   injection h with c d
   subst c
   cases a
 | k+1,b,r,W,h,q,a=>by
   rw[qR] at h
   obtain⟨⟨e,b1⟩,c,h⟩:=Option.bind_eq_some_iff.1 h
   obtain⟨⟨Z,f⟩,d,h⟩:=Option.map_eq_some_iff.1 h
   injection h with e1 e2
   simp only at e1
   subst e1
   rcases zH.1 a with rfl|a
   ·exact qba c
   ·exact Jx d q a
theorem K7a{b:List Int}{W:List (RowV × List Flg)}(g:By b)(h:ko b=some W):(∀q∈W,Fit q.1.tier/\q.2.length<524288)/\26*W.length<=b.length:=by
 obtain⟨a,c⟩:=Qua g h
 constructor
 ·intro q f
  constructor
  ·unfold ko at h
   obtain⟨⟨m,b1⟩,i,h⟩:=Option.bind_eq_some_iff.1 h
   obtain⟨⟨Z,r⟩,d,h⟩:=Option.bind_eq_some_iff.1 h
   simp only at d h
   split at h
   ·injection h with h
    subst h
    exact Jx d q f
   ·cases h
  ·unfold okW at a
   have a:=zL.1 a q f
   unfold jU at a
   rw[zj,Bool.not_eq_true',zQ,decide_eq_false_iff_not,decide_eq_false_iff_not] at a
   omega
 ·rw[Jl a] at c
  injection c with c _
  have e:=congrArg List.length c
  rw[ze] at e
  have:=XS (j8 W)
  have:=WR W
  omega
def upW(W:List (RowV × List Flg)):List RwA:=W.map λp=>(p.1,.sl 2 (p.2.map jT),p.2)
theorem WKa(W:List (RowV × List Flg)):jz (upW W)=W:=by unfold jz upW;rw[yq];exact List.map_id _
theorem WLa(W:List (RowV × List Flg)):((upW W).map λq=>jJ q.1 q.2.1)=W.map ZH:=by unfold upW;rw[yq];rfl
open Go.RowKit
set_option maxRecDepth 100000
structure NumI (h H:List Ob) (s:Setup) (l:List Int) (st b:Nat):Prop where
 pre:Pre h H
 box:H[h.length]? =some (.box 30 (qa s (frA s)))
 row:H[h.length+1]? =some (.row 3 1 (l.map qI) st)
 len:l.length=b
theorem Xga{α:Type}(f:α->List AV){l:List α}{n:Nat}(h:n<l.length):(l.map f)[n]? =some (f l[n]):=by rw[zr,zh h];rfl
open Go.Shelf Go.Lib Go.Sort
end Go.Proofs.YtigdlmpjijhpaaaGreat.Ax
namespace Go.Proofs.YtigdlmpjijhpaaaGreat.Ax
open Go Go.Proofs
set_option maxRecDepth 100000
section
variable {h:List Ob} {d:Nat} {s:Setup} {a:SA} {x c:AV} {rows segs bytes:AV} {q:Cm}
end
section
variable {h:List Ob} {d:Nat} {s:Setup} {a:SA} {x c:AV} {rows segs bytes:AV} {q:Cm}
end
open Go.RowKit
abbrev nl:AV:= .v (.slice none 0 0)
abbrev BX(b:Bk):AV:= .sl 11 (b.evs.map evC)
abbrev BC(b:Bk):AV:= .sl 1 (b.shut.map qI)
structure AL (n:Nat) (a:SA):Prop where
 w:a.w.lt n=true
 e:a.e.lt n=true
 c:a.c.lt n=true
 g:a.g.lt n=true
 r:a.r.lt n=true
 t:a.t.lt n=true
section
variable {h:List Ob} {d:Nat} {s:Setup} {a:SA} {q:Cm} {b:Bk}
end
abbrev zB:Ob:= .box 63 (XPa zS zA KX KX)
structure AllI (h h':List Ob) (s:Setup) (b:Bk) (y:AV) (rows:List (List AV)):Prop where
 pre:Pre h h'
 b0:h'[h.length]? =some (.box 63 (XPa s (frA s) (BX b) (BC b)))
 b1:h'[h.length+1]? =some zB
 own:OwnS h h' 71 4 y rows
theorem WMa{h:List Ob}{x:AV}{e i n:Nat}{xs:List (List AV)}(k:SlOf h x e xs)(b:i+n<=xs.length):SlOf h (.vw x e i n) e ((xs.drop i).take n):=by
 refine⟨?_,λa=>?_⟩
 ·rw[kH,k.rows,Option.bind_some,if_pos]
  refine⟨b,?_⟩
  by_cases h0:n=0
  ·exact .inl h0
  ·exact .inr (k.at (i:=0) (by omega))
 ·rw[ZP,k.at (i:=0) (by
   cases xs with
   | nil=>simp at a
   | cons _ _=>simp),Option.bind_some,if_pos rfl]
theorem Wya:Tryz.prog.stoodInHeld 42=false:=by kernel_rfl
theorem XSa:j9 Tryz.prog 42=true:=by unfold j9;rw[Tryz.eqGuardType42,Wya];rfl
structure AnFew (w:An):Prop where
 rows:w.rows.length<1099511627776
 flgs:∀R∈w.rows,R.2.length<1099511627776
 segs:w.segs.length<1099511627776
theorem j2a:∀l:List Int,zxa (l.map qN)=some (l.map λn=>UInt8.ofNat n.toNat)
 | []=>rfl
 | n::l=>by
   rw[List.map_cons,List.map_cons]
   show(zxa (l.map qN)).map _=_
   rw[j2a l]
   rfl
theorem Xha(h:List Ob)(l:List Flg)(y:AV)(g:SlOf h y 2 (l.map jT))(n:l.length<1099511627776):
  ACalls Tryz.prog 85 [.sl 2 (l.map jT),y] h λr h'=>r=bl true/\h'=h:=by
 have a:=g.rows
 refine zl Tryz.f85 [.tmp 4] 26 rfl rfl rfl rfl rfl rfl (by decide) (⟨_,_,⟨rfl,rfl⟩,.refl⟩) λB=>?_
 simp only[go_sem,a,zb,bne_self_eq_false]
 refine zO (by decide) (λm T h'=>h'=h/\∃k:Nat,k<=l.length/\T 0= .sl 2 (l.map jT)/\T 1=y/\T 5=i64 k/\m=l.length - k) l.length
  ⟨rfl,0,by omega,by simp only[go_sem],by simp only[go_sem],by(simp only[go_sem]<;>rfl),rfl⟩ ?_
 rintro m T h' ⟨rfl,k,j,t0,t1,t5,rfl⟩
 simp only[go_sem,t5,t0,zb]
 refine ways (λe=>?_) (λe=>?_)
 ·have c:=dlt e
  have b:=Xga jT c
  have f:=g.at (i:=k) (by simpa using c)
  have d:(k:Int)<l.length:=by omega
  simp only[go_sem]
  refine zV rfl [] 0 [(0,0,[]),(1,0,[]),(4,0,[]),(5,0,[]),(2,0,[]),(3,0,[]),(6,0,[]),(7,0,[]),(8,0,[])] rfl (by decide) (by decide) ?_
  simp only[go_sem,t5,t0,t1,b,d,f,a,jT,zb,Int.toNat_natCast,zg,beq_self_eq_true,Bool.and_self,Bool.not_true,qE,bne_self_eq_false]
  exact⟨l.length - (k+1),by omega,k+1,by omega,qc (by omega) rfl,rfl⟩
 ·simp only[go_sem]
  refine zk ?_<;>(simp only[go_sem]<;>try rfl)
theorem K1a(h:List Ob)(R:RowV)(F:List Flg)(y:AV)(c:SlOf h y 2 (F.map jT))(d:F.length<1099511627776):ACalls Tryz.prog 30 [.ag (ZH (R,F)),.ag (jJ R y)] h λr h'=>r=bl true/\h'=h:=by
 have b:=c.one
 have a:∀M,SlOf (h++M) y 2 (F.map jT):=λM=>c.app M
 refine zl Tryz.f30 [.tmp 4] 100 rfl rfl rfl rfl rfl rfl (by decide) (⟨_,_,⟨rfl,rfl⟩,.refl⟩) λB=>?_
 simp only[go_sem,XSa,w5a,b,ZH,ZD,List.cons_append,List.nil_append,beq_self_eq_true,Bool.and_self,qE]
 refine zi (Xha _ F y (a _) d) ?_
 rintro _ e ⟨rfl,rfl⟩
 simp only[go_sem,ZH,ZD,List.cons_append,List.nil_append,beq_self_eq_true,Bool.and_self,qE]
 refine zk ?_<;>(simp only[go_sem]<;>try rfl)
theorem WNa(h:List Ob)(W:List RwA)(y:AV)(p:SlOf h y 27 (W.map λq=>jJ q.1 q.2.1))(v:∀q∈W,SlOf h q.2.1 2 (q.2.2.map jT))(x:W.length<1099511627776)(t:∀q∈W,q.2.2.length<1099511627776):
  ACalls Tryz.prog 18 [.sl 27 ((jz W).map ZH),y] h λr h'=>r=bl true/\h'=h:=by
 have j:=p.rows
 have f:(jz W).length=W.length:=by unfold jz;rw[zb]
 refine zl Tryz.f18 [.tmp 4] 29 rfl rfl rfl rfl rfl rfl (by decide) (⟨_,_,⟨rfl,rfl⟩,.refl⟩) λB=>?_
 simp only[go_sem,j,zb,f,bne_self_eq_false]
 refine zO (by decide) (λm T h'=>h'=h/\∃k:Nat,k<=W.length/\T 0= .sl 27 ((jz W).map ZH)/\T 1=y/\T 5=i64 k/\m=W.length - k) W.length
  ⟨rfl,0,by omega,by simp only[go_sem],by simp only[go_sem],by(simp only[go_sem]<;>rfl),rfl⟩ ?_
 rintro m T h' ⟨rfl,k,w,t0,t1,t5,rfl⟩
 simp only[go_sem,t5,t0,zb,f]
 refine ways (λe=>?_) (λe=>?_)
 ·have c:=dlt e
  have b:((jz W).map ZH)[k]? =some (ZH (W[k].1,W[k].2.2)):=by unfold jz;rw[zr,zr,zh c];rfl
  have a:(W.map λq=>jJ q.1 q.2.1)[k]? =some (jJ W[k].1 W[k].2.1):=by rw[zr,zh c];rfl
  have o:=p.at (i:=k) (by simpa using c)
  have l:(k:Int)<W.length:=by omega
  have g:=t _ (zw c)
  have d:=v _ (zw c)
  obtain⟨⟨R,u,F⟩,s⟩:∃R,R=W[k]:=⟨_,rfl⟩
  rw[<-s] at b a g d
  simp only at b a g d
  have n:=d.one
  simp only[go_sem]
  refine zV rfl [] 0 [(0,0,[]),(1,0,[]),(4,0,[]),(5,0,[]),(2,0,[]),(3,0,[]),(6,0,[]),(7,0,[]),(8,0,[]),(9,0,[])] rfl (by decide) (by decide) ?_
  simp only[go_sem,t5,t0,t1,b,a,l,o,j,f,n,ZH,ZD,List.cons_append,List.nil_append,zb,Int.toNat_natCast,zg]
  refine zi (K1a _ R F u d g) ?_
  rintro _ z ⟨rfl,rfl⟩
  simp only[go_sem,t5]
  exact⟨W.length - (k+1),by omega,k+1,by omega,t0,t1,qc (by omega) rfl,rfl⟩
 ·simp only[go_sem]
  refine zk ?_<;>(simp only[go_sem]<;>try rfl)
def Xia(W:List RwA):Bool:=(W.all λq=>decide (q.2.2.length<=300)) && decide (W.length<=100)
theorem YBa(h:List Ob)(W:List RwA)(C:W.length<=9223372036854775807)(y:AV)(u:SlOf h y 27 (W.map λq=>jJ q.1 q.2.1))(z:∀q∈W,SlOf h q.2.1 2 (q.2.2.map jT)):
  ACalls Tryz.prog 14 [y] h λr h'=>r=bl (Xia W)/\h'=h:=by
 have d:=u.rows
 refine zl Tryz.f14 [.tmp 2] 20 rfl rfl rfl rfl rfl rfl (by decide) (⟨_,_,⟨rfl,rfl⟩,.refl⟩) λB=>?_
 simp only[go_sem,d,zb]
 refine zO (by decide) (λm T h'=>h'=h/\∃k:Nat,k<=W.length/\((W.take k).all λq=>decide (q.2.2.length<=300))=true/\T 0=y/\T 3=i64 k/\m=W.length - k) W.length
  ⟨rfl,0,by omega,rfl,by simp only[go_sem],by(simp only[go_sem]<;>rfl),rfl⟩ ?_
 rintro m T h' ⟨rfl,k,E,c,t0,t3,rfl⟩
 simp only[go_sem,t3,t0,d,zb]
 refine ways (λe=>?_) (λe=>?_)
 ·have b:=dlt e
  have a:(W.map λq=>jJ q.1 q.2.1)[k]? =some (jJ W[k].1 W[k].2.1):=by rw[zr,zh b];rfl
  have s:=u.at (i:=k) (by simpa using b)
  have n:(k:Int)<W.length:=by omega
  have g:=z _ (zw b)
  have f:=zw b
  have j:W.take (k+1)=W.take k++[W[k]]:=(zD b).symm
  obtain⟨⟨R,D,F⟩,x⟩:∃R,R=W[k]:=⟨_,rfl⟩
  rw[<-x] at a g j f
  simp only at a g
  have o:=g.rows
  simp only[go_sem,t3,t0,a,n,s,d,o,zb,Int.toNat_natCast,zg]
  refine ways (λp=>?_) (λp=>?_)
  ·have w:=of_decide_eq_true p
   have A:Xia W=false:=by
    unfold Xia
    rw[Bool.and_eq_false_iff]
    left
    rw[List.all_eq_false]
    exact⟨_,f,by simp only[decide_eq_true_eq];omega⟩
   simp only[go_sem]
   refine zk ?_<;>(simp only[go_sem,A]<;>try rfl)
  ·have l:=of_decide_eq_false p
   simp only[go_sem,t3]
   refine⟨W.length - (k+1),by omega,k+1,by omega,?_,t0,qc (by omega) rfl,rfl⟩
   rw[j,List.all_append,c]
   simp only[List.all_cons,List.all_nil,Bool.and_true,Bool.true_and,decide_eq_true_eq]
   omega
 ·have v:=xc e
  have t:k=W.length:=by omega
  subst t
  rw[zY] at c
  have l:decide ((W.length:Int)<=100)=decide (W.length<=100):=decide_eq_decide.2 (by omega)
  simp only[go_sem,t0,d,zb,l]
  refine zk ?_<;>(simp only[go_sem,Xia,c,Bool.true_and]<;>try rfl)
