import Derived.Test.YtigdlmpjijhpaaaGreatKA
import Derived.Test.YtigdlmpjijhpaaaGreatK42
import Derived.Test.YtigdlmpjijhpaaaGreatK44
import Derived.Test.YtigdlmpjijhpaaaGreatK43
import Derived.Test.YtigdlmpjijhpaaaGreatK23
import Derived.Test.YtigdlmpjijhpaaaGreatK45
import Derived.Test.YtigdlmpjijhpaaaGreatK19
set_option linter.all false
namespace Go.Proofs.YtigdlmpjijhpaaaGreat.Ax
open Go Go.Proofs
abbrev RW:=RowV × List Flg
abbrev Ky:=Int × Int
structure Ch where
 bk:Bk
 rows:List RW
def ja(r:RW):Ky:=(r.1.worker,r.1.week)
def yK(r:RW):List RW->List RW
 | []=>[r]
 | y::l=>if ltK (ja r) (ja y) then r::y::l else if ja r=ja y then r::l else y::yK r l
def isH(l:List RW)(k:Ky):Bool:=l.any λr=>ja r==k
def yL(l:List RW):Prop:=l.Pairwise λa b=>ltK (ja a) (ja b)=true
theorem Vx(a:Ky):ltK a a=false:=by simp[ltK]
theorem ZV{a b:Ky}(h:ltK a b=true):a≠b:=λe=>by rw[e,Vx] at h;cases h
theorem KC{a b c:Ky}(h:ltK a b=true)(g:ltK b c=true):ltK a c=true:=by
 rw[xG] at *; omega
theorem Zba{a b:Ky}(h:ltK a b=false)(g:a≠b):ltK b a=true:=by
 have h:¬ (a.1<b.1∨(a.1=b.1/\a.2<b.2)):=λq=>by rw[xG.2 q] at h;cases h
 have g:¬ (a.1=b.1/\a.2=b.2):=λq=>g (Prod.ext q.1 q.2)
 rw[xG];omega
theorem vpa{a b:Ky}(h:ltK a b=true):ltK b a=false:=by
 cases q:ltK b a
 ·rfl
 ·have:=KC h q;rw[Vx] at this;cases this
theorem vR{l:List RW}{k:Ky}:isH l k=true↔∃r∈l,ja r=k:=by
 simp[isH,List.any_eq_true]
theorem Zca{r:RW}{k:Ky}:∀ {l:List RW},isH (yK r l) k=(ja r==k || isH l k)
 | []=>rfl
 | y::l=>by
   unfold yK
   split
   ·rfl
   ·split
    ·rename_i h
     show(ja r==k || isH l k)=(ja r==k || (ja y==k || isH l k))
     rw[h]
     cases ja y==k<;>rfl
    ·show(ja y==k || isH (yK r l) k)=(ja r==k || (ja y==k || isH l k))
     rw[Zca (l:=l)]
     cases ja y==k<;>cases ja r==k<;>rfl
theorem Vy{r z:RW}:∀ {l:List RW},z∈yK r l->z=r∨(z∈l/\ja z≠ja r)∨(z∈l/\¬ yL l)
 | [],h=> .inl (by simpa [yK] using h)
 | y::l,h=>by
   unfold yK at h
   by_cases a:yL (y::l)
   ·obtain⟨c,d⟩:=zR.1 a
    split at h
    ·rename_i b
     rcases zx.1 h with rfl|h
     ·exact .inl rfl
     ·refine .inr (.inl ⟨h,λe=>?_⟩)
      rcases zx.1 h with rfl|h
      ·exact ZV b e.symm
      ·exact ZV (KC b (c z h)) e.symm
    ·split at h
     ·rename_i b
      rcases zx.1 h with rfl|h
      ·exact .inl rfl
      ·exact .inr (.inl ⟨.tail _ h,λe=>ZV (c z h) (by rw[<-b,e])⟩)
     ·rename_i b
      rcases zx.1 h with rfl|h
      ·exact .inr (.inl ⟨.head _,λe=>b e.symm⟩)
      ·rcases Vy h with q|q|q
       ·exact .inl q
       ·exact .inr (.inl ⟨.tail _ q.1,q.2⟩)
       ·exact absurd d q.2
   ·split at h
    ·rcases zx.1 h with rfl|h
     ·exact .inl rfl
     ·exact .inr (.inr ⟨h,a⟩)
    ·split at h
     ·rcases zx.1 h with rfl|h
      ·exact .inl rfl
      ·exact .inr (.inr ⟨.tail _ h,a⟩)
     ·rcases zx.1 h with rfl|h
      ·exact .inr (.inr ⟨.head _,a⟩)
      ·rcases Vy h with q|q|q
       ·exact .inl q
       ·exact .inr (.inr ⟨.tail _ q.1,a⟩)
       ·exact .inr (.inr ⟨.tail _ q.1,a⟩)
theorem Zda(r:RW):∀l:List RW,r∈yK r l
 | []=> .head _
 | y::l=>by
   unfold yK
   split
   ·exact .head _
   ·split
    ·exact .head _
    ·exact .tail _ (Zda r l)
theorem zYa{r z:RW}(a:ja z≠ja r):∀ {l:List RW},z∈l->z∈yK r l
 | y::l,h=>by
   unfold yK
   split
   ·exact .tail _ h
   ·split
    ·rename_i b
     rcases zx.1 h with rfl|h
     ·exact absurd b.symm a
     ·exact .tail _ h
    ·rcases zx.1 h with rfl|h
     ·exact .head _
     ·exact .tail _ (zYa a h)
theorem xka{r:RW}:∀ {l:List RW},yL l->yL (yK r l)
 | [],_=>by simp[yK,yL]
 | y::l,f=>by
   obtain⟨e,d⟩:=zR.1 f
   unfold yK
   split
   ·rename_i b
    refine zR.2 ⟨λz a=>?_,f⟩
    rcases zx.1 a with rfl|a
    ·exact b
    ·exact KC b (e z a)
   ·split
    ·rename_i b
     exact zR.2 ⟨λz a=>by rw[b];exact e z a,d⟩
    ·rename_i b c
     refine zR.2 ⟨λz a=>?_,xka d⟩
     rcases Vy a with rfl|q|q
     ·exact Zba (by simpa using b) c
     ·exact e z q.1
     ·exact absurd d q.2
theorem xla{r:RW}:∀ {l:List RW},yL l->(yK r l).length=l.length+if isH l (ja r) then 0 else 1
 | [],_=>rfl
 | y::l,d=>by
   obtain⟨g,f⟩:=zR.1 d
   unfold yK
   split
   ·rename_i a
    have:isH (y::l) (ja r)=false:=by
     cases q:isH (y::l) (ja r)
     ·rfl
     ·obtain⟨z,b,e⟩:=vR.1 q
      rcases zx.1 b with rfl|b
      ·exact absurd e.symm (ZV a)
      ·exact absurd e.symm (ZV (KC a (g z b)))
    rw[this];rfl
   ·split
    ·rename_i a
     have:isH (y::l) (ja r)=true:=vR.2 ⟨y,.head _,a.symm⟩
     rw[this];rfl
    ·rename_i a c
     have:isH (y::l) (ja r)=isH l (ja r):=by
      show(ja y==ja r || isH l (ja r))=_
      rw[beq_eq_false_iff_ne.2 (λe=>c e.symm),Bool.false_or]
     rw[this,List.length_cons,xla f,List.length_cons]
     omega
def Qh(s:Setup)(ev:List Ev)(want:Bool)(t:List RW × List Ky)(k:Ky):List RW × List Ky:=
 if isH t.1 k==want then(yK (qm s ev k.1 k.2) t.1,t.2++[k]) else t
def kC(s:Setup)(ev:List Ev)(want:Bool)(t:List RW × List Ky)(ks:List Ky):List RW × List Ky:=ks.foldl (Qh s ev want) t
theorem zZa(s:Setup)(ev:List Ev)(w wk:Int)(a:0<=w):ja (qm s ev w wk)=(w,wk):=by
 unfold qm
 split
 ·rfl
 ·show((w.toNat:Int),wk)=(w,wk)
  rw[Int.toNat_of_nonneg a]
structure SomeOk (s:Setup) (ev:List Ev) (want:Bool) (R:List RW) (ks:List Ky) (R':List RW) (nw:List Ky):Prop where
 srt:yL R'
 keys:nw=ks.filter λk=>isH R k==want
 held:∀k,isH R' k=(isH R k || nw.contains k)
 new:∀z∈R',(ja z∈nw/\z=qm s ev (ja z).1 (ja z).2)∨(z∈R/\ja z∉nw)
 old:∀z∈R,ja z∉nw->z∈R'
 got:∀k∈nw,qm s ev k.1 k.2∈R'
 len:R'.length=R.length+if want then 0 else nw.length
theorem xob{α:Type}{P:List α->Prop}(h0:P [])(b:∀l c,P l->P (l++[c]))(l:List α):P l:=by
 have h:∀r:List α,P r.reverse:=λr=>by
  induction r with
  | nil=>exact h0
  | cons c r a=>rw[List.reverse_cons];exact b _ _ a
 simpa using h l.reverse
theorem Zea{s:Setup}{ev:List Ev}{want:Bool}{R:List RW}(x:yL R):∀(ks:List Ky),ks.Nodup->(∀k∈ks,(isH R k==want)=true->0<=k.1)->∀(b:List Ky),
  ∃c new,kC s ev want (R,b) ks=(c,b++new)/\SomeOk s ev want R ks c new:=by
 intro ks
 refine xob (P:=λks=>ks.Nodup->(∀k∈ks,(isH R k==want)=true->0<=k.1)->∀(b:List Ky),∃c new,kC s ev want (R,b) ks=(c,b++new)/\SomeOk s ev want R ks c new) ?_ ?_ ks
 ·exact λ_ _ b=>⟨R,[],by rw[zH];rfl,x,rfl,λk=>by simp,λz d=> .inr ⟨d,by simp⟩,λz d _=>d,λk h=>(by cases h),by cases want<;>rfl⟩
 ·intro ks k w v m b
  rw[List.nodup_append] at v
  obtain⟨n1,_,n2⟩:=v
  have p:k∉ks:=λh=>n2 k h k (by simp) rfl
  obtain⟨c,new,e,o⟩:=w n1 (λz d=>m z (List.mem_append_left _ d)) b
  have i:k∉new:=λh=>p (by rw[o.keys] at h;exact(zT.1 h).1)
  have t:isH c k=isH R k:=by
   rw[o.held,show new.contains k=false by simpa using i,Bool.or_false]
  have es:kC s ev want (R,b) (ks++[k])=Qh s ev want (c,b++new) k:=by
   unfold kC at e⊢
   rw[qK,e]
   rfl
  rw[es]
  unfold Qh
  simp only[t]
  cases q:isH R k==want
  ·refine⟨c,new,rfl,o.srt,?_,o.held,o.new,o.old,o.got,o.len⟩
   rw[qu, <-o.keys]
   simp[q]
  ·have a:ja (qm s ev k.1 k.2)=k:=zZa s ev k.1 k.2 (m k (by simp) q)
   refine⟨yK (qm s ev k.1 k.2) c,new++[k],by simp,xka o.srt,?_,?_,?_,?_,?_,?_⟩
   ·rw[qu, <-o.keys]
    simp[q]
   ·intro j
    rw[Zca,a,o.held]
    have:(new++[k]).contains j=(new.contains j || k==j):=by
     have u:∀l:List Ky,l.contains j=decide (j∈l):=λl=>List.contains_eq_mem j l
     rw[u,u,Bool.eq_iff_iff,Bool.or_eq_true,decide_eq_true_eq,decide_eq_true_eq,zK,zW,beq_iff_eq]
     exact or_congr_right eq_comm
    rw[this]
    cases k==j<;>cases isH R j<;>cases new.contains j<;>rfl
   ·intro z d
    rcases Vy d with rfl|⟨r,g⟩|⟨_,g⟩
    ·exact .inl ⟨by rw[a];simp,by rw[a]⟩
    ·rw[a] at g
     rcases o.new z r with⟨a1,a2⟩|⟨a1,a2⟩
     ·exact .inl ⟨List.mem_append_left _ a1,a2⟩
     ·exact .inr ⟨a1,λh=>by
       rcases zK.1 h with h|h
       ·exact a2 h
       ·exact g (by simpa using h)⟩
    ·exact absurd o.srt g
   ·intro z d h
    have r:ja z∉new:=λq=>h (List.mem_append_left _ q)
    have g:ja z≠k:=λq=>h (by rw[q];simp)
    exact zYa (by rw[a];exact g) (o.old z d r)
   ·intro j f
    by_cases e:j=k
    ·subst e
     exact Zda _ _
    ·have f:j∈new:=by
      rcases zK.1 f with f|f
      ·exact f
      ·exact absurd (by simpa using f) e
     have n:0<=j.1:=by
      rw[o.keys] at f
      have:=zT.1 f
      exact m j (List.mem_append_left _ this.1) this.2
     exact zYa (by rw[a,zZa s ev _ _ n];exact e) (o.got j f)
   ·rw[xla o.srt,o.len,a,t]
    cases want
    ·have:isH R k=false:=by simpa using q
     rw[this,zf]
     simp
     omega
    ·have:isH R k=true:=by simpa using q
     rw[this]
     simp
def Zl(q:Cm):Fx:=if q.kind=1 then⟨1,q.fx.ev⟩ else q.fx
def vf(s:Setup)(q:Cm):List Ky:=if q.kind=7 then(List.range s.rates.length).map λ(w:Nat)=>((w:Int),q.week) else [(q.worker,q.week)]
def Wm:RW:=(⟨0,0,0,λ_=>0,λ_=>0,(0,0),(0,0),0,0,0,0,0⟩,[])
def Jt(l:List RW)(k:Ky):RW:=(l.find? λr=>ja r==k).getD Wm
def vg(s:Setup)(x:Ch)(q:Cm):Ch × An × List Ky:=
 if q.kind=3/\jf s q=false then(x,wt 80,[])
 else if kz q=false∨(q.kind=7/\jv x.bk.shut q.week=false) then(x,wt 212,[])
 else
  let t:=kC s x.bk.evs false (x.rows,[]) (vf s q)
  let rs:=(vf s q).map (Jt t.1)
  (⟨x.bk,t.1⟩,⟨if q.kind=7 then(j5 rs).2 else 0,rs,[],if q.kind=7 then(j5 rs).1 else []⟩,t.2)
def doC(s:Setup)(x:Ch)(q:Cm):Ch × An × List Ky:=
 if q.kind=3∨q.kind=7 then vg s x q
 else if(doP s x.bk q).2.err=0/\(q.kind=1∨q.kind=2) then
  let t:=kC s (doP s x.bk q).1.evs true (x.rows,[]) (jt s x.bk.evs (Zl q))
  (⟨(doP s x.bk q).1,t.1⟩,(doP s x.bk q).2,t.2)
 else(⟨(doP s x.bk q).1,x.rows⟩,(doP s x.bk q).2,[])
def xU(s:Setup):Ch->List Cm->Ch × List An × List (List Ky)
 | x,[]=>(x,[],[])
 | x,q::l=>((xU s (doC s x q).1 l).1,(doC s x q).2.1::(xU s (doC s x q).1 l).2.1,(doC s x q).2.2::(xU s (doC s x q).1 l).2.2)
structure ChI (s:Setup) (x:Ch):Prop where
 bk:BkI s x.bk
 srt:yL x.rows
 val:∀r∈x.rows,r=qm s x.bk.evs (ja r).1 (ja r).2
 rng:∀r∈x.rows,(0<=(ja r).1/\(ja r).1<(s.rates.length:Int))/\0<=(ja r).2/\(ja r).2<=52
def z0a:Ch:=⟨Kx,[]⟩
theorem z1a(s:Setup):ChI s z0a:=⟨QPa s,.nil,λ_ h=>(by cases h),λ_ h=>by cases h⟩
theorem WQ{s:Setup}{q:Cm}:jf s q=true↔0<=q.worker/\q.worker<(s.rates.length:Int):=by
 unfold jf
 simp
theorem KPa{l:List RW}(b:yL l){r:RW}(a:r∈l):l.find? (λz=>ja z==ja r)=some r:=by
 induction l with
 | nil=>cases a
 | cons y l c=>
   obtain⟨e,d⟩:=zR.1 b
   rw[List.find?_cons]
   rcases zx.1 a with rfl|a
   ·simp
   ·have:(ja y==ja r)=false:=beq_eq_false_iff_ne.2 (ZV (e r a))
    rw[this]
    exact c d a
theorem WXa{l:List RW}(a:yL l){r:RW}(b:r∈l):Jt l (ja r)=r:=by
 unfold Jt
 rw[KPa a b]
 rfl
theorem ChI.get{s:Setup}{x:Ch}(i:ChI s x){k:Ky}(h:isH x.rows k=true):Jt x.rows k=qm s x.bk.evs k.1 k.2:=by
 obtain⟨r,a,rfl⟩:=vR.1 h
 rw[WXa i.srt a]
 exact i.val r a
theorem z2a(l:List Ky):(Ksa l).Nodup:=(Vn l).imp λh=>ZV h
theorem Q5a(s:Setup)(q:Cm):(vf s q).Nodup:=by
 unfold vf
 split
 ·refine List.Pairwise.map _ (λa b h e=>h ?_) List.nodup_range
  have:=congrArg Prod.fst e
  omega
 ·simp
theorem Zfa{s:Setup}{q:Cm}(c:q.kind=3∨q.kind=7)(b:¬ (q.kind=3/\jf s q=false)){k:Ky}(a:k∈vf s q):(0<=k.1/\k.1<(s.rates.length:Int))/\k.2=q.week:=by
 unfold vf at a
 split at a
 ·rw[zr] at a
  obtain⟨w,b,rfl⟩:=a
  rw[qW] at b
  exact⟨⟨by simp only;omega,by simp only;omega⟩,rfl⟩
 ·rename_i e
  have c:q.kind=3:=by omega
  rw[zW] at a
  subst a
  have:jf s q=true:=by
   cases d:jf s q
   ·exact absurd ⟨c,d⟩ b
   ·rfl
  exact⟨WQ.1 this,rfl⟩
theorem z3a{s:Setup}{x:Ch}{q:Cm}(i:ChI s x)(n:q.kind=3∨q.kind=7):
  ((q.kind=3/\jf s q=false)/\vg s x q=(x,wt 80,[]))∨
  (¬ (q.kind=3/\jf s q=false)/\(kz q=false∨(q.kind=7/\jv x.bk.shut q.week=false))/\vg s x q=(x,wt 212,[]))∨
  (¬ (q.kind=3/\jf s q=false)/\kz q=true/\(q.kind=7->jv x.bk.shut q.week=true)/\∃a new,SomeOk s x.bk.evs false x.rows (vf s q) a new/\ChI s ⟨x.bk,a⟩/\
   (∀k∈vf s q,isH a k=true)/\kC s x.bk.evs false (x.rows,[]) (vf s q)=(a,new)/\
   vg s x q=(⟨x.bk,a⟩,⟨if q.kind=7 then(j5 ((vf s q).map λk=>qm s x.bk.evs k.1 k.2)).2 else 0,(vf s q).map λk=>qm s x.bk.evs k.1 k.2,[],if q.kind=7 then(j5 ((vf s q).map λk=>qm s x.bk.evs k.1 k.2)).1 else []⟩,new)):=by
 by_cases b:q.kind=3/\jf s q=false
 ·exact .inl ⟨b,by unfold vg;rw[if_pos b]⟩
 ·by_cases g:kz q=false∨(q.kind=7/\jv x.bk.shut q.week=false)
  ·exact .inr (.inl ⟨b,g,by unfold vg;rw[if_neg b,if_pos g]⟩)
  ·have d:kz q=true:=by
    cases f:kz q
    ·exact absurd (.inl f) g
    ·rfl
   have l:=λk h=>Zfa (s:=s) (q:=q) n b (k:=k) h
   obtain⟨a,new,e,o⟩:=Zea (s:=s) (ev:=x.bk.evs) (want:=false) i.srt (vf s q) (Q5a s q) (λk h _=>(l k h).1.1) []
   rw[List.nil_append] at e
   have c:∀k∈vf s q,isH a k=true:=λk h=>by
    rw[o.held]
    cases f:isH x.rows k
    ·have:k∈new:=by rw[o.keys,zT];exact⟨h,by rw[f];rfl⟩
     simpa using this
    ·rfl
   have hi:ChI s ⟨x.bk,a⟩:=⟨i.bk,o.srt,λz j=>by
    rcases o.new z j with⟨_,h⟩|⟨h,_⟩
    ·exact h
    ·exact i.val z h,λz j=>by
    rcases o.new z j with⟨h,_⟩|⟨h,_⟩
    ·rw[o.keys] at h
     have:=l _ (zT.1 h).1
     refine⟨this.1,?_⟩
     rw[this.2]
     exact QT.1 d
    ·exact i.rng z h⟩
   refine .inr (.inr ⟨b,d,λm=>?_,a,new,o,hi,c,e,?_⟩)
   ·cases f:jv x.bk.shut q.week
    ·exact absurd (.inr ⟨m,f⟩) g
    ·rfl
   ·unfold vg
    rw[if_neg b,if_neg g,e]
    have:(vf s q).map (Jt a)=(vf s q).map λk=>qm s x.bk.evs k.1 k.2:=List.map_congr_left λk h=>hi.get (c k h)
    simp only[this]
set_option maxRecDepth 100000
def s3:Setup:=⟨1,[],(1,1),[((1,1),(1,1))],[(1,1)],[(1,1)],0,1,3600,0,86400,0,28800,43200,144000,0,0,[1500,1000],0,0,0,[]⟩
def cmB:Cm:=⟨1,⟨0,qpa⟩,0,0,0⟩
def l3:List Cm:=[cm0 3,cm0 3,cmB,cm0 3,cm0 5,cm0 7]
def rA3:RowV × List Flg:=qm s3 [] 0 0
def rB3:RowV × List Flg:=qm s3 [qpa] 0 0
def rC3:RowV × List Flg:=qm s3 [qpa] 1 0
def xpb:List Int:=(j5 [rB3,rC3]).1
def an3:List An:=[⟨0,[rA3],[],[]⟩,⟨0,[rA3],[],[]⟩,wt 0,⟨0,[rB3],[],[]⟩,wt 0,⟨0,[rB3,rC3],[],xpb⟩]
def ks3:List (List Ky):=[[(0,0)],[],[(0,0)],[],[],[(1,0)]]
theorem Ju:xU s3 z0a l3=(⟨⟨[qpa],[0]⟩,[rB3,rC3]⟩,an3,ks3):=by kernel_rfl
theorem qdb:rB3.1.total=1500:=by kernel_rfl
theorem xqb:rC3.1.worker=1:=by kernel_rfl
theorem ksb:Jt [rB3,rC3] (1,0)=rC3:=by kernel_rfl
theorem is3:isH [rB3,rC3] (1,0)=true:=by kernel_rfl
theorem ktb:isH [rB3,rC3] (1,1)=false:=by kernel_rfl
theorem ok3:z6 s3=true:=by kernel_rfl
def vqa(a b:Int):Int:=if a=0 then b else a
theorem cOr(h:List Ob)(x:AV)(a b:Int)(l:SlOf h x 1 [qn a,qn b]):ACalls Tryz.prog 176 [x] h λr h'=>r=i64 (vqa a b)/\h'=h:=by
 have c:=l.rows
 have e:=l.at (i:=0) (by simp)
 refine zi Tryz.f176 [.tmp 2] 18 rfl rfl rfl rfl rfl rfl (by decide) (⟨_,_,⟨rfl,rfl⟩,.refl⟩) λB=>?_
 simp only[go_sem,c,List.length_cons,List.length_nil]
 refine zI (by decide) (λm T h'=>h'=h/\∃j:Nat,j<=2/\T 3=i64 0/\T 6=x/\T 7=i64 2/\T 8=i64 j/\(1<=j->a=0)/\(2<=j->b=0)/\m=2 - j) 2
  ⟨rfl,0,by omega,by(simp only[go_sem]<;>rfl),by simp only[go_sem],by(simp only[go_sem]<;>rfl),by(simp only[go_sem]<;>rfl),λh=>by omega,λh=>by omega,rfl⟩ ?_
 rintro m T h' ⟨rfl,j,u,t3,t6,f,t8,k,s,rfl⟩
 have n:decide ((0:Int)<2)=true:=rfl
 have o:decide ((1:Int)<2)=true:=rfl
 have t:decide ((2:Int)<2)=false:=rfl
 obtain rfl|rfl|rfl:j=0∨j=1∨j=2:=by omega
 ·have t8:T 8=i64 0:=t8
  cases q:(a != 0)
  ·have g:a=0:=by simpa using q
   simp only[go_sem,t3,t6,f,t8,c,e,q,n,qt,qn]
   exact⟨2 - (0+1),by omega,0+1,by omega,rfl,λ_=>g,λh=>by omega,rfl⟩
  ·have g:a≠0:=by simpa using q
   have d:vqa a b=a:=if_neg g
   simp only[go_sem,t3,t6,f,t8,c,e,q,n,qt,qn]
   refine zn ?_<;>(simp only[go_sem,d]<;>try rfl)
 ·have t8:T 8=i64 1:=t8
  have d:vqa a b=b:=if_pos (k (by omega))
  cases q:(b != 0)
  ·have p:b=0:=by simpa using q
   simp only[go_sem,t3,t6,f,t8,c,e,q,o,qt,qn]
   exact⟨2 - (1+1),by omega,1+1,by omega,rfl,λ_=>k (by omega),λ_=>p,rfl⟩
  ·simp only[go_sem,t3,t6,f,t8,c,e,q,o,qt,qn]
   refine zn ?_<;>(simp only[go_sem,d]<;>try rfl)
 ·have t8:T 8=i64 2:=t8
  have d:vqa a b=0:=by rw[show vqa a b=b from if_pos (k (by omega)),s (by omega)]
  simp only[go_sem,t3,t6,f,t8,c,e,t,qt]
  refine zn ?_<;>(simp only[go_sem,d,t3]<;>try rfl)
def jma(a b:Ky):Int:=vqa (Kh a.1 b.1) (Kh a.2 b.2)
theorem KQa(a b:Ky):decide (jma a b<0)=ltK a b:=by
 rw[Bool.eq_iff_iff,decide_eq_true_eq,xG]
 unfold jma vqa Kh
 split<;>split<;>(try split)<;>(try split)<;>omega
theorem KRa(a b:Ky):(jma a b==0)=(a==b):=by
 have h:(a==b)=(a.1==b.1 && a.2==b.2):=by
  rw[Bool.eq_iff_iff,zq,beq_iff_eq,beq_iff_eq,beq_iff_eq]
  exact⟨λh=>by rw[h];exact⟨rfl,rfl⟩,λh=>Prod.ext h.1 h.2⟩
 rw[h,Bool.eq_iff_iff,zq,beq_iff_eq,beq_iff_eq,beq_iff_eq]
 unfold jma vqa Kh
 split<;>split<;>(try split)<;>(try split)<;>omega
theorem YMa(r:RW)(k:Ky):xA Tryz.prog 102 [.ag (q9 r),.ag (jm k)] (i64 (jma (ja r) k)):=λh=>by
 refine zi Tryz.f102 [.tmp 4] 17 rfl rfl rfl rfl rfl rfl (by decide) (⟨_,_,⟨rfl,rfl⟩,.refl⟩) λB=>?_
 simp only[go_sem,q9,ve,jm,List.cons_append,List.nil_append]
 refine zL rfl [.res] 1 [(0,0,[]),(2,0,[]),(5,0,[]),(7,0,[]),(1,0,[]),(3,0,[]),(6,0,[]),(8,0,[]),(4,0,[6,8]),(9,0,[]),(10,0,[]),(11,0,[]),(12,0,[])] rfl (by decide) (by decide) ?_
 simp only[go_sem,q9,ve,jm,List.cons_append,List.nil_append]
 refine zg (c95 _ _ _) ?_
 rintro _ a ⟨rfl,rfl⟩
 simp only[go_sem,q9,ve,jm,List.cons_append,List.nil_append]
 refine zg (c95 _ _ _) ?_
 rintro _ a ⟨rfl,rfl⟩
 simp only[go_sem,q9,ve,jm,List.cons_append,List.nil_append]
 refine zg (cOr _ _ (Kh r.1.worker k.1) (Kh r.1.week k.2) (ZR (ty:=3) (st:=0) (by rw[zG (k:=2) rfl];rfl))) ?_
 rintro _ a ⟨rfl,rfl⟩
 simp only[go_sem]
 refine zn ?_<;>(simp only[go_sem,jma,ja]<;>try rfl)
def atR(l:List RW)(k:Ky):Nat:=(l.takeWhile λr=>ltK (ja r) k).length
theorem qeb(l:List RW)(k:Ky):atR l k<=l.length:=(List.takeWhile_prefix _).length_le
theorem w9a{k:Ky}:∀ {l:List RW} {i:Nat},i<=l.length->(∀t (h:t<l.length),t<i->ltK (ja l[t]) k=true)->(∀t (h:t<l.length),i<=t->ltK (ja l[t]) k=false)->atR l k=i
 | [],i,hi,_,_=>by simp at hi;subst hi;rfl
 | y::l,0,_,_,a=>by
   have:=a 0 (by simp) (zo _)
   simp only[List.getElem_cons_zero] at this
   unfold atR
   rw[List.takeWhile_cons,this]
   rfl
 | y::l,i+1,hi,b,a=>by
   have h0:=b 0 (by simp) (by omega)
   simp only[List.getElem_cons_zero] at h0
   have c:=w9a (k:=k) (l:=l) (i:=i) (by simpa using hi) (λt h q=>b (t+1) (by simpa using h) (by omega)) (λt h q=>a (t+1) (by simpa using h) (by omega))
   unfold atR at c⊢
   rw[List.takeWhile_cons,h0]
   simp[c]
theorem Vz{l:List RW}(b:yL l){i j:Nat}(hi:i<l.length)(c:j<l.length)(a:i<j):ltK (ja l[i]) (ja l[j])=true:=
 List.pairwise_iff_getElem.1 b i j hi c a
theorem qfb{l:List RW}(c:yL l){k:Ky}{i:Nat}(hi:i<=l.length)(j:∀t (h:t<l.length),t<i->ltK (ja l[t]) k=true)(g:∀t (h:t<l.length),i<=t->ltK (ja l[t]) k=false):isH l k=if h:i<l.length then ja l[i]==k else false:=by
 rw[Bool.eq_iff_iff,vR]
 constructor
 ·rintro ⟨r,f,rfl⟩
  obtain⟨t,b,rfl⟩:=List.mem_iff_getElem.1 f
  have d:¬ t<i:=λq=>by have:=j t b q;rw[Vx] at this;cases this
  by_cases e:t=i
  ·subst e
   rw[dif_pos b]
   exact beq_self_eq_true _
  ·have a:i<l.length:=by omega
   have:=Vz c a b (by omega)
   rw[g i a (zo _)] at this
   cases this
 ·intro h
  split at h
  ·rename_i a
   exact⟨_,zy a,by simpa using h⟩
  ·cases h
theorem qgb{i j:Nat}(h:i+j<9007199254740992):IntKind.wrap .i64 ((IntKind.wrap .u64 (IntKind.wrap .i64 ((i:Int)+j))).fdiv (2 ^ min 1 64))=(((i+j) / 2:Nat):Int):=by
 have e:(2:Int) ^ min 1 64=2:=by decide
 have a:IntKind.wrap .i64 ((i:Int)+j)=((i+j:Nat):Int):=qp (by unfold Fit;omega)
 have b:IntKind.wrap .u64 ((i+j:Nat):Int)=((i+j:Nat):Int):=by rw[IntKind.wrap_u64];omega
 rw[e,a,b,Int.fdiv_eq_ediv_of_nonneg _ (by decide)]
 exact qp (by unfold Fit;omega)
set_option maxHeartbeats 1000000 in
theorem KSa(h:List Ob)(x:AV)(l:List RW)(k:Ky)(s:SlOf h x 27 (l.map q9))(v:yL l)(P:l.length<1099511627776):
  ACalls Tryz.prog 101 [x,.ag (jm k),.fn (.func 102) [] []] h λr h'=>r= .tup [i64 (atR l k),bl (isH l k)]/\h'=h:=by
 have f:∀M,qa (h++M) x=some (l.map q9):=λM=>(s.app M).rows
 have I:=s.rows
 refine zi Tryz.f101 [.tmp 6,.tmp 7] 49 rfl rfl rfl rfl rfl rfl (by decide) (⟨_,_,⟨rfl,rfl⟩,.refl⟩) λB=>?_
 simp only[go_sem,jm,f,I,zb]
 refine zI (by decide) (λm T h'=>h'=h++[.box 90 (jm k)]/\∃i j:Nat,i<=j/\j<=l.length/\T 0=x/\T 2= .fn (.func 102) [] []/\T 4= .ptr h.length 0/\T 8=i64 l.length/\T 9=i64 i/\T 10=i64 j/\
   (∀t (h:t<l.length),t<i->ltK (ja l[t]) k=true)/\(∀t (h:t<l.length),j<=t->ltK (ja l[t]) k=false)/\m=j - i) l.length
  ⟨rfl,0,l.length,by omega,by omega,by simp only[go_sem],by simp only[go_sem],by simp only[go_sem],by(simp only[go_sem]<;>rfl),by(simp only[go_sem]<;>rfl),by(simp only[go_sem]<;>rfl),λt h q=>by omega,λt h q=>by omega,rfl⟩ ?_
 rintro m T h' ⟨rfl,i,j,G,w,t0,t2,t4,t8,t9,t10,A,z,rfl⟩
 simp only[go_sem,t9,t10]
 refine ways (λe=>?_) (λe=>?_)
 ·have c:i<j:=by have:=of_decide_eq_true e;omega
  have o:=qgb (i:=i) (j:=j) (by omega)
  obtain⟨q,H⟩:∃q,q=(i+j) / 2:=⟨_,rfl⟩
  rw[<-H] at o
  have g:q<l.length:=by omega
  have a:=xH q9 g
  have n:=λM=>(s.app M).at (i:=q) (by simpa using g)
  have d:(q:Int)<l.length:=by omega
  obtain⟨r,b⟩:∃r,r=l[q]:=⟨_,rfl⟩
  rw[<-b] at a
  simp only[go_sem,t9,t10,o]
  refine zL rfl [] 0 [(0,0,[]),(1,0,[]),(2,0,[]),(3,0,[]),(4,0,[]),(5,0,[]),(6,0,[]),(7,0,[])] rfl (by decide) (by decide) ?_
  simp only[go_sem,t0,t2,t4,o,a,n,d,f,jm,zb,Int.toNat_natCast,zh,q9,ve,List.cons_append,List.nil_append]
  refine zg (YMa r k _) ?_
  rintro _ L ⟨rfl,rfl⟩
  simp only[go_sem,KQa]
  refine ways (λp=>?_) (λp=>?_)
  ·simp only[go_sem,o]
   refine⟨j - (q+1),by omega,q+1,j,by omega,w,t0,t2,t4,t8,qf (by omega) rfl,t10,λt y E=>?_,z,rfl⟩
   by_cases D:t=q
   ·subst D;rw[<-b];exact p
   ·exact KC (Vz v y g (by omega)) (by rw[<-b];exact p)
  ·simp only[go_sem,o]
   refine⟨q - i,by omega,i,q,by omega,by omega,t0,t2,t4,t8,t9,rfl,A,λt y N=>?_,rfl⟩
   by_cases D:t=q
   ·subst D;rw[<-b];exact p
   ·cases K:ltK (ja l[t]) k
    ·rfl
    ·have:=KC (Vz v g y (by omega)) K
     rw[<-b,p] at this
     cases this
 ·have F:¬ i<j:=λq=>by have:=of_decide_eq_false e;omega
  have C:j=i:=by omega
  subst C
  have J:=w9a w A z
  have O:=qfb v w A z
  rw[J,O]
  by_cases c:j<l.length
  ·rw[dif_pos c]
   have a:=xH q9 c
   have n:=λM=>(s.app M).at (i:=j) (by simpa using c)
   have d:(j:Int)<l.length:=by omega
   have u:decide ((j:Int)<(l.length:Int))=true:=decide_eq_true d
   obtain⟨r,b⟩:∃r,r=l[j]:=⟨_,rfl⟩
   rw[<-b] at a⊢
   simp only[go_sem]
   refine zL rfl [] 0 [(0,0,[]),(1,0,[]),(2,0,[]),(3,0,[]),(4,0,[]),(5,0,[]),(6,0,[]),(7,0,[]),(8,0,[]),(9,0,[]),(10,0,[]),(11,0,[]),(12,0,[]),(13,0,[]),(14,0,[]),(15,0,[])] rfl (by decide) (by decide) ?_
   simp only[go_sem,t0,t2,t4,t8,t9,a,n,d,u,f,jm,zb,Int.toNat_natCast,zh,q9,ve,List.cons_append,List.nil_append,qt]
   refine zg (YMa r k _) ?_
   rintro _ L ⟨rfl,rfl⟩
   simp only[go_sem,t9,u,KRa,qt]
   refine zn ?_<;>(simp only[go_sem]<;>try rfl)
  ·rw[dif_neg c]
   have u:decide ((j:Int)<(l.length:Int))=false:=decide_eq_false (by omega)
   simp only[go_sem]
   refine zL rfl [] 0 [(0,0,[]),(1,0,[]),(2,0,[]),(3,0,[]),(4,0,[]),(5,0,[]),(6,0,[]),(7,0,[]),(8,0,[]),(9,0,[]),(10,0,[]),(11,0,[]),(12,0,[]),(13,0,[]),(14,0,[]),(15,0,[])] rfl (by decide) (by decide) ?_
   simp only[go_sem,t0,t2,t4,t8,t9,u,f,jm,zb,qt]
   refine zn ?_<;>(simp only[go_sem]<;>try rfl)
theorem WYa(l:List Flg):((l.map km).all λr=>r.length==2 && r.all AV.one)=true:=by
 rw[qb];intro r a;obtain⟨s,_,rfl⟩:=zr.1 a;rfl
theorem Q6a(h:List Ob)(x:AV)(rows:List (List AV))(b:SlOf h x 2 rows)(o:rows.length<1099511627776)(j:(rows.all λr=>r.length==2 && r.all AV.one)=true):
  ACalls Tryz.prog 177 [x] h λr h'=>(rows=[]/\h'=h/\r= .v (.slice none 0 0))∨(h'=h++[.row 105 2 rows 1]/\r= .tl h.length 1):=by
 refine jN (N:=8) (rs:=[.tmp 2]) (fn:=Tryz.f177) rfl rfl rfl rfl (qo rfl) rfl (⟨_,_,.inr ⟨rfl,rfl⟩,resK_app⟩) λB=>?_
 cases rows with
 | nil=>
   refine Zo 0 rfl b.rows (λm=>?_) ?_
   ·refine qD _ (by decide) ?_;simp only[go_sem]
    exact⟨.v (.slice none 0 0),by simp only[go_sem],.inl (.inl ⟨rfl,rfl⟩)⟩
   ·refine qD _ (by decide) ?_;simp only[go_sem]
    exact⟨.tl h.length 1,by simp only[go_sem],.inl (.inr ⟨rfl,rfl⟩)⟩
 | cons y l=>
   have k:=b.at (i:=0) (by simp)
   have g:=b.rows
   have f:xZ x=false:=by
    rcases yb g with⟨e,xs,rfl⟩|⟨i,s,rfl⟩|⟨a,e,i,n,rfl⟩<;>rfl
   unfold xZ at f
   have c:∀L,qa (h++L) x=some (y::l):=λL=>(b.app L).rows
   have d:(y::l).length*17<=140737488355328:=by omega
   rw[List.length_cons] at d
   refine qD _ (by decide) ?_;simp only[go_sem,g,k,f,c,j,d,Bool.or_true,decide_true]
   exact⟨.tl h.length 1,by simp only[go_sem],.inl (.inr ⟨rfl,rfl⟩)⟩
theorem qhb(h:List Ob)(r:RW)(c:r.2.length<1099511627776):
  ACalls Tryz.prog 103 [.ag (q9 r)] h λv h'=>∃L x,h'=h++L/\NoRes L/\v= .ag (ve r.1++[x])/\New h 2 x (r.2.map km) L:=by
 have hex:∃v h',(∃L x,h'=h++L/\NoRes L/\v=AV.ag (ve r.1++[x])/\New h 2 x (r.2.map km) L)/\ResK h h':=⟨_,_,⟨[],.sl 2 _,rfl,jh,rfl,λ_ _=>⟨rfl,λ_=>rfl⟩⟩,resK_app⟩
 refine zi Tryz.f103 [.cell 2 45] 8 rfl rfl rfl rfl rfl rfl (by decide) (hex) λB=>?_
 simp only[go_sem,q9,ve,List.cons_append,List.nil_append]
 refine zg (Q6a _ (.sl 2 (r.2.map km)) _ ⟨rfl,λ_=>rfl⟩ (by rw[zb];exact c) (WYa _)) ?_
 rintro v e a
 rcases a with⟨b,rfl,rfl⟩|⟨rfl,rfl⟩
 ·simp only[go_sem]
  refine⟨.ag (ve r.1++[.v (.slice none 0 0)]),?_,.inl ⟨_,.v (.slice none 0 0),rfl,zl rfl (zD rfl),rfl,?_⟩⟩
  ·simp only[go_sem]
   rfl
  ·rw[b]
   exact λd _=>⟨rfl,λh=>absurd rfl h⟩
 ·simp only[go_sem]
  refine⟨.ag (ve r.1++[.tl (h.length+2) 1]),?_,.inl ⟨_,.tl (h.length+2) 1,rfl,zl rfl (zl rfl (zD rfl)),rfl,?_⟩⟩
  ·simp only[go_sem]
   rfl
  ·exact OwnS.new (h0:=h) (ty:=105) (.inr ⟨h.length+2,1,by omega,rfl,by rw[zG (k:=2) rfl];rfl⟩) (zo _)
theorem xrb(h:List Ob)(r:RW)(a:r.2.length<1099511627776):ACalls Tryz.prog 103 [.ag (q9 r)] h λv h'=>v= .ag (q9 r)/\h'=h:=
 X0 (by decide) rfl (V6 _) (qhb h r a)
abbrev jL(s:Setup)(a:SA)(x c b:AV):List AV:=[i64 s.places,a.w,i64 s.pace.1,i64 s.pace.2,a.e,a.c,a.g,i64 s.allow,i64 s.unit,i64 s.cap,i64 s.paidBreak,i64 s.autoAfter,i64 s.autoBreak,
 i64 s.dayReg,i64 s.dayOver,i64 s.weekReg,i64 s.nightFrom,i64 s.nightTo,a.r,i64 s.diff,i64 s.least,i64 s.fault,a.t,x,c,b]
theorem WZa{l:List RW}{k:Ky}{i:Nat}(hi:i<l.length)(c:∀t (h:t<l.length),t<i->ltK (ja l[t]) k=true)(a:ja l[i]=k):Jt l k=l[i]:=by
 unfold Jt
 have:l.find? (λr=>ja r==k)=some l[i]:=by
  rw[List.find?_eq_some_iff_getElem]
  refine⟨by simp[a],i,hi,rfl,λj b=>?_⟩
  have:=ZV (c j (by omega) b)
  simpa using this
 rw[this]
 rfl
theorem xsb{l:List RW}{k:Ky}:∀ {t:Nat} (h:t<l.length),t<atR l k->ltK (ja l[t]) k=true:=λ{t} h b=>by
 have c:(l.takeWhile λr=>ltK (ja r) k)[t]? =some l[t]:=by
  obtain⟨R,a⟩:=List.takeWhile_prefix (p:=λr=>ltK (ja r) k) (l:=l)
  have:l[t]? =(l.takeWhile λr=>ltK (ja r) k)[t]? :=by
   conv=>lhs;rw[<-a]
   exact zO b
  rw[<-this,zj h]
 have:=qq c
 exact(List.all_takeWhile (p:=λr=>ltK (ja r) k) (l:=l)) |> qb.1 |> λq=>q _ this
theorem KTa{l:List RW}(f:yL l){k:Ky}(h:isH l k=true):∃j:atR l k<l.length,ja l[atR l k]=k:=by
 obtain⟨r,g,rfl⟩:=vR.1 h
 obtain⟨t,b,rfl⟩:=List.mem_iff_getElem.1 g
 have:atR l (ja l[t])=t:=w9a (Nat.le_of_lt b) (λu d a=>Vz f d b a) (λu d a=>by
  by_cases e:u=t
  ·subst e;exact Vx _
  ·exact vpa (Vz f b d (by omega)))
 have c:atR l (ja l[t])<l.length:=by rw[this];exact b
 refine⟨c,?_⟩
 have i:l[atR l (ja l[t])]=l[t]:=by congr 1
 rw[i]
theorem qib(h:List Ob)(s:Setup)(a:SA)(E:SIn h s a)(x c f:AV)(o:AV.one x=true)(n:AV.one c=true)(l:List RW)(k:Ky)(g:SlOf h f 27 (l.map q9))(w:yL l)(H:l.length<1099511627776)(F:∀r∈l,r.2.length<1099511627776):
  ACalls Tryz.prog 38 [.ag (jL s a x c f),.ag (jm k)] h λr h'=>r= .tup [if isH l k then .ag (q9 (Jt l k)) else .ag (ve Wm.1++[.v (.slice none 0 0)]),bl (isH l k)]/\h'=h:=by
 have D:=E.ones
 have y:=g.one
 have m:∀M,qa (h++M) f=some (l.map q9):=λM=>(g.app M).rows
 refine zi Tryz.f38 [.cell 4 45,.tmp 5] 24 rfl rfl rfl rfl rfl rfl (by decide) (⟨_,_,⟨rfl,rfl⟩,.refl⟩) λB=>?_
 simp only[go_sem,D,y,o,n,jm]
 refine zg (KSa _ f l k (g.app _) w H) ?_
 rintro _ C ⟨rfl,rfl⟩
 cases q:isH l k
 ·simp only[go_sem,qt]
  refine zn ?_<;>(simp only[go_sem,Wm,ve]<;>try rfl)
 ·obtain⟨b,I⟩:=KTa w q
  have G:Jt l k=l[atR l k]:=WZa b (λt A u=>xsb A u) I
  have d:=xH q9 b
  have j:((atR l k:Nat):Int)<l.length:=by omega
  have e:=F _ (zy b)
  rw[<-G] at d e
  have p:∀M,eOf (h++M) f=some 27:=λM=>(g.app M).at (i:=atR l k) (by simpa using b)
  simp only[go_sem,qt,y,m,p,d,j,zb,Int.toNat_natCast,zh,q9,ve,List.cons_append,List.nil_append]
  refine zg (xrb _ (Jt l k) e) ?_
  rintro _ C ⟨rfl,z⟩
  rw[z]
  simp only[go_sem,q9,ve,List.cons_append,List.nil_append]
  refine Xt ?_ ?_
  ·simp only[go_sem,q9,ve,List.cons_append,List.nil_append]
  ·simp only[q9,ve,List.cons_append,List.nil_append,AV.lt,qy,V6,if_true,Bool.and_self]
theorem Q7a:WeakV (.ag (ve Wm.1++[.v (.slice none 0 0)])) (.ag (q9 Wm)):= .ag (WeakL.app _ (.cons (.nil 2) (.refl [])))
theorem Q8a{l:List RW}{k:Ky}(h:isH l k=false):Jt l k=Wm:=by
 unfold Jt
 have:l.find? (λr=>ja r==k)=none:=by
  rw[List.find?_eq_none]
  intro r b a
  rw[vR.2 ⟨r,b,by simpa using a⟩] at h
  cases h
 rw[this]
 rfl
theorem KUa(h:List Ob)(s:Setup)(a:SA)(m:SIn h s a)(x c d:AV)(e:AV.one x=true)(b:AV.one c=true)(l:List RW)(k:Ky)(f:SlOf h d 27 (l.map q9))(g:yL l)(j:l.length<1099511627776)(i:∀r∈l,r.2.length<1099511627776):
  ACalls Tryz.prog 38 [.ag (jL s a x c d),.ag (jm k)] h λr h'=>r= .tup [.ag (q9 (Jt l k)),bl (isH l k)]/\h'=h:=
 wP (qib h s a m x c d e b l k f g j i) λr h' ⟨o,n⟩=>by
  subst o
  refine⟨_,⟨rfl,n⟩,?_⟩
  cases q:isH l k
  ·rw[Q8a q]
   exact .two Q7a (.refl _)
  ·exact .refl _
open Go.RowKit
theorem yaa{c:Ctx}:∀ {us:List AV} {vs:List Value},ARs c us vs->vs.length=us.length
 | [],_,h=>by rw[show _=[] from h];rfl
 | a::us,_,⟨v,r,b,_,d⟩=>by rw[b,List.length_cons,List.length_cons,yaa d]
theorem vra{c:Ctx}:∀ {us bs:List AV} {vs:List Value},ARs c (us++bs) vs->ARs c us (vs.take us.length)/\ARs c bs (vs.drop us.length)
 | [],_,vs,h=>⟨by rw[List.length_nil,List.take_zero];exact rfl,h⟩
 | a::us,bs,_,⟨v,r,d,f,e⟩=>by
   obtain⟨g,b⟩:=vra (us:=us) (bs:=bs) e
   subst d
   exact⟨⟨v,_,rfl,f,g⟩,b⟩
theorem xma{e:Nat}:∀ {xs:List (List AV)},(∀x∈xs,x.length=e)->xs.flatten.length=xs.length*e
 | [],_=>by simp
 | x::xs,h=>by
   rw[List.flatten_cons,zf,h x (.head _),xma λy a=>h y (.tail _ a),List.length_cons,Nat.add_mul,Nat.one_mul,Nat.add_comm]
theorem qjb:∃i z,Tryz.prog.info? 45=some i/\i.size=27/\i.bytes<=1000/\i.zero=some z/\z.cells.size=27:=by
 have h:(Tryz.prog.info? 45).map (λi=>(i.size,decide (i.bytes<=1000),i.zero.map (·.cells.size)))=some (27,true,some 27):=by kernel_rfl
 cases hi:Tryz.prog.info? 45 with
 | none=>rw[hi] at h;cases h
 | some i=>
   rw[hi] at h
   injection h with h
   injection h with h1 h2
   injection h2 with h2 h3
   cases a:i.zero with
   | none=>rw[a] at h3;cases h3
   | some z=>
     rw[a] at h3
     injection h3 with h3
     exact⟨i,z,rfl,h1,of_decide_eq_true h2,a,h3⟩
theorem KVa{cur:Array Value}{o:Nat}{vs:List Value}(h:o+vs.length<=cur.size)(k:Nat)(a:k<=o):(Qi cur o vs).toList.take k=cur.toList.take k:=by
 unfold Qi
 have b:(cur.toList.take o).length=o:=by rw[zJ,qF];omega
 show(cur.toList.take o++vs++cur.toList.drop (o+vs.length)).take k=_
 rw[zt,qE (by omega),List.take_take,Nat.min_eq_left a]
theorem Yd{cur:Array Value}{o:Nat}{vs:List Value}(h:o+vs.length<=cur.size):(Qi cur o vs).toList.take (o+vs.length)=cur.toList.take o++vs:=by
 unfold Qi
 have a:(cur.toList.take o).length=o:=by rw[zJ,qF];omega
 show(cur.toList.take o++vs++cur.toList.drop (o+vs.length)).take (o+vs.length)=_
 rw[qE (by rw[zf];omega),List.take_of_length_le (by rw[zf];omega)]
theorem KWa{cur:Array Value}{o:Nat}{vs:List Value}(h:o+vs.length<=cur.size):(Qi cur o vs).toList.drop (o+vs.length)=cur.toList.drop (o+vs.length):=by
 unfold Qi
 have a:(cur.toList.take o).length=o:=by rw[zJ,qF];omega
 show(cur.toList.take o++vs++cur.toList.drop (o+vs.length)).drop (o+vs.length)=_
 rw[List.drop_append_of_le_length (by rw[zf];omega),List.drop_of_length_le (by rw[zf];omega),List.nil_append]
theorem z4a{w:World}{b o:Nat}{T:TypeId}{cur:Array Value}{vs:List Value}(a:w.heap[b]? =some (.cells cur T (0,0)))(h:∀j u,vs[j]? =some u->cur.toList[o+j]? =some u):∀j u,vs[j]? =some u->w.cell? ((⟨b,o,none⟩:Addr).add j)=some u:=λj u c=>by
 rw[Addr.add_lit]
 unfold World.cell?
 rw[a]
 have:=h j u c
 rw[qC] at this
 exact this
set_option maxHeartbeats 1000000 in
theorem xtb(h:List Ob)(id st E st2:Nat)(xs:List (List AV))(y:List AV)(i:Nat)(ho:h[id]? =some (.row 45 27 xs st))(ho2:h[E]? =some (.row 45 27 [y] st2))(hne:id≠E)(hi:i<xs.length)(hl:xs.length<1048576)
  (hx1:(xs.all λr=>r.all AV.one)=true) (hy1:y.all AV.one=true):
  ACalls Tryz.prog 171 [.tl id st,i64 i,.tl E st2] h λr h'=>r= .tl id (st+1)/\h'=h.set id (.row 45 27 (xs.take i++y::xs.drop i) (st+1)):=by
 refine⟨by kernel_rfl,⟨_,_,⟨rfl,rfl⟩,qi ho rfl⟩,λφ A B w g vs hh hB κ=>?_⟩
 have S:=qL (φ:=φ) ho rfl
 have Z:=qL (φ:=φ) ho2 rfl
 obtain⟨v1,r1,rfl,h1,v2,r2,rfl,h2,v3,r3,rfl,h3,hr⟩:=κ
 have hr:r3=[]:=hr
 have h2:v2= .int .i64 (i:Int):=h2
 have hcur:=Qj h1 S
 have υ:=Qj h3 Z
 subst hr h2 hcur υ
 obtain⟨_,lx,cells,q2,q3⟩:=hh.ok _ _ S
 obtain⟨_,ly,J,p2,p3⟩:=hh.ok _ _ Z
 obtain⟨n,hn⟩:∃n,n=xs.length:=⟨_,rfl⟩
 have α:cells.length=n*27:=by rw[yaa q3,xma lx,hn]
 have F:J.length=27:=by rw[yaa p3];simp[ly y (.head _)]
 rw[<-hn] at q2 hi hl
 have hc1:∀v∈cells,v.oneCell'=true:=Qs (by
  rw[qb] at hx1⊢
  intro a ha
  obtain⟨r,hr,ha⟩:=List.mem_flatten.1 ha
  exact qb.1 (hx1 r hr) a ha) q3
 have θ:∀v∈J,v.oneCell'=true:=Qs (by simpa using hy1) p3
 rcases q2.2 with⟨_,e1⟩|⟨f,cap,cur,e1,e2,e3,e4,e5,e6,e7⟩
 ·omega
 rcases p2.2 with⟨_,f1⟩|⟨M,vc,t,f1,f2,f3,f4,f5,f6,f7⟩
 ·exact absurd f1 (by simp)
 have e1:g.cur id= .slice (some ⟨f,0,none⟩) n cap:=e1
 have f1:g.cur E= .slice (some ⟨M,0,none⟩) 1 vc:=f1
 have hvb:M≠f:=λq=>by
  subst q
  exact hh.apart id E _ _ _ hne S Z (show(g.cur id).ownBlock=some M by rw[e1];rfl) (show(g.cur E).ownBlock=some M by rw[f1];rfl)
 have e5':cap<=9223372036854775807:=e5
 have hsz:n*27<=cur.size:=by rw[e6];exact Nat.mul_le_mul_right _ e4
 have f4:1<=vc:=f4
 have hvs:27<=t.size:=by rw[f6];omega
 have f7:t.toList.take 27=J:=by simpa using f7
 have T:∀j u,J[j]? =some u->t.toList[0+j]? =some u:=λj u A=>by
  have hj:=(zd.1 A).1
  rw[<-f7,qY,if_pos (by omega)] at A
  rw[Nat.zero_add]
  exact A
 have X:∀j u,(cells.drop (i*27))[j]? =some u->cur.toList[i*27+j]? =some u:=λj u A=>by
  have hj:=(zd.1 A).1
  rw[List.length_drop] at hj
  rw[List.getElem?_drop, <-e7,qY,if_pos (by omega)] at A
  exact A
 have O:(cells.drop (i*27)).length=(n - i)*27:=by rw[List.length_drop,α,Nat.sub_mul]
 have hin:i*27+27<=n*27:=by omega
 obtain⟨ii,z,W,L,hi3,hi4,hi5⟩:=qjb
 have hnew:ARs (ctx w g (fill φ h)) (xs.take i++y::xs.drop i).flatten (cells.take (i*27)++J++cells.drop (i*27)):=by
  have hxs:(xs.take i).flatten++(xs.drop i).flatten=xs.flatten:=by rw[<-List.flatten_append,qQ]
  rw[<-hxs] at q3
  obtain⟨s1,s2⟩:=vra q3
  have hl1:(xs.take i).flatten.length=i*27:=by rw[xma λx hx=>lx x (List.mem_of_mem_take hx),zJ];congr 1;omega
  rw[hl1] at s1 s2
  have p3:ARs (ctx w g (fill φ h)) y J:=by simpa using p3
  rw[List.flatten_append,List.flatten_cons, <-zt]
  exact vT (vT s1 p3) s2
 have hxl:∀x∈xs.take i++y::xs.drop i,x.length=27:=λx hx=>by
  rcases zK.1 hx with hx|hx
  ·exact lx x (List.mem_of_mem_take hx)
  ·rcases zx.1 hx with rfl|hx
   ·exact ly x (.head _)
   ·exact lx x (List.mem_of_mem_drop hx)
 have hlen:(xs.take i++y::xs.drop i).length=n+1:=by rw[zf,List.length_cons,zJ,List.length_drop];omega
 have hil:=(zd.1 S).1
 have fin:∀(w':World) (N G:Nat) (row:Array Value),w.grownBy w' (some f)->w'.heap[N]? =some (.cells row 45 (0,0))->B<=N->n+1<=G->G<=maxLen->row.size=G*27->row.toList.take ((n+1)*27)=cells.take (i*27)++J++cells.drop (i*27)->(N=f∨w.heap.size<=N)->
   ∃v r h' g',Ending.returned (.slice (some ⟨N,0,none⟩) (n+1) G)= .returned v/\(r=AV.tl id (st+1)/\h'=h.set id (.row 45 27 (xs.take i++y::xs.drop i) (st+1)))/\ResK h h'/\Good B w g (fill φ h) w' g' (fill φ h')/\AR (ctx w' g' (fill φ h')) r v:=λw' N G row a1 a2 a3 a4 a5 a6 a7 a8=>by
  have τ:=Zy (w':=w') (xs':=xs.take i++y::xs.drop i) (v':= .slice (some ⟨N,0,none⟩) (n+1) G) (cells:=cells.take (i*27)++J++cells.drop (i*27)) (st':=st+1) hh hB S hxl (by rw[e1];exact a1) (by
   rw[hlen]
   refine⟨?_,.inr ⟨N,G,row,rfl,a3,a2,a4,a5,a6,a7⟩⟩
   rw[zf,zf,zJ,List.length_drop,α,F]
   omega) hnew (.inr (Nat.lt_succ_self st)) (λb hb=>by
   have hb:some N=some b:=hb
   injection hb with hb
   subst hb
   rcases a8 with rfl|a8
   ·exact .inl (by rw[e1];rfl)
   ·exact .inr a8)
  refine⟨_,_,_,_,rfl,⟨rfl,rfl⟩,qi ho rfl,by rw[jj rfl];exact τ,⟨_,_,_,rfl⟩,⟨_,by rw[jj rfl,zp hil],rfl⟩,λs hs=>?_⟩
  have hs:Ob.tok (fill φ (h.set id (.row 45 27 (xs.take i++y::xs.drop i) (st+1))))[id]? =some s:=hs
  rw[jj rfl,zp hil] at hs
  have hs:some (st+1)=some s:=hs
  injection hs with hs
  subst hs
  exact⟨zo _,λ_=>by simp[ctx]⟩
 show Calls Tryz.prog _ (Array.mk [g.cur id,Value.int .i64 (i:Int),g.cur E]) w _
 have ο:(Array.mk [g.cur id,Value.int .i64 (i:Int),g.cur E])= #[.slice (some ⟨f,0,none⟩) n cap,.int .i64 (i:Int),.slice (some ⟨M,0,none⟩) 1 vc]:=by rw[e1,f1]
 rw[ο]
 by_cases I:n+1<=cap
 ·have hsz1:(n+1)*27<=cur.size:=by rw[e6];exact Nat.mul_le_mul_right _ I
  have hb:w.drew.heap[f]? =some (.cells cur 45 (0,0)):=e3
  have d:(i+1)*27+(cells.drop (i*27)).length<=cur.size:=by rw[O, <-Nat.add_mul,show i+1+(n - i)=n+1 by omega];exact hsz1
  have r1:=λty=>yP (P:=Tryz.prog) w.drew 32 ty 45 ii Tryz.underlying32 W f _ cur hb ((i+1)*27) (n - i) (cap - (i+1)) ⟨f,i*27,none⟩ (n+1 - i) (cap - i) (n - i) (by simp only[Nat.min_def];split<;>omega) (cells.drop (i*27)) (by rw[L];exact O) (z4a hb X) (λu A=>hc1 u (List.mem_of_mem_drop A)) d
  obtain⟨l,p⟩:∃l,l=Qi cur ((i+1)*27) (cells.drop (i*27)):=⟨_,rfl⟩
  rw[<-p] at r1
  have D:l.size=cur.size:=by rw[p,Jv d]
  have Y:=setRow_heap w.drew f cur l _ _ hb
  have σ:(w.drew.setRow f l).heap[M]? =some (.cells t 45 (0,0)):=by rw[setRow_other _ _ _ _ hvb];exact f3
  have c:i*27+J.length<=l.size:=by rw[F,D];omega
  have r2:=λty=>yP (P:=Tryz.prog) (w.drew.setRow f l) 32 ty 45 ii Tryz.underlying32 W f _ l Y (i*27) (n+1 - i) (cap - i) ⟨M,0,none⟩ 1 vc 1 (by simp only[Nat.min_def];split<;>omega) J (by rw[L,F]) (z4a σ T) θ c
  obtain⟨K,m⟩:∃K,K=Qi l (i*27) J:=⟨_,rfl⟩
  rw[<-m] at r2
  have U:K.size=cur.size:=by rw[m,Jv c,D]
  have ξ:=setRow_heap (w.drew.setRow f l) f l K _ _ Y
  have R:=W0a f n cap i M vc w hi I e5' hvb 45 45 t.size cur.size (by simp[World.shape?,f3]) (by simp[World.shape?,e3]) (by omega) (by simp[World.frozen?,f3]) (by simp[World.frozen?,f3]) _ _ r1 r2
  refine R.mono ?_
  rintro e w' ⟨rfl,rfl⟩
  refine fin _ f cap K ⟨rfl,rfl,rfl,by simp,λk hk C=>?_⟩ ξ e2 I e5 (by rw[U,e6]) ?_ (.inl rfl)
  ·have C:k≠f:=λq=>C (by rw[q])
   rw[setRow_other _ _ _ _ C,setRow_other _ _ _ _ C]
   rfl
  ·have hd2:=KWa c
   rw[<-m,F] at hd2
   have Q:=Yd c
   rw[<-m,F] at Q
   have ht1:=KVa d (i*27) (by omega)
   rw[<-p] at ht1
   have ζ:=Yd d
   rw[<-p,O] at ζ
   have hp1:cur.toList.take (i*27)=cells.take (i*27):=by
    rw[<-e7,List.take_take,Nat.min_eq_left (by omega)]
   have γ:K.toList.take ((n+1)*27)=K.toList.take (i*27+27)++(K.toList.drop (i*27+27)).take ((n - i)*27):=by
    rw[show(n+1)*27=i*27+27+(n - i)*27 by omega,List.take_add]
   rw[γ,Q,hd2,ht1,hp1]
   congr 1
   have:(l.toList.take ((i+1)*27+(n - i)*27)).drop (i*27+27)=(l.toList.drop (i*27+27)).take ((n - i)*27):=by
    rw[List.drop_take]
    congr 1
    omega
   rw[<-this,ζ,show i*27+27=(i+1)*27 by omega,List.drop_append_of_le_length (by rw[zJ,qF];omega),List.drop_of_length_le (by rw[zJ];omega),List.nil_append]
 ·obtain⟨G,hG⟩:∃G,G=grownCap w (n+1) cap 45:=⟨_,rfl⟩
  have hGn:n+1<=G:=by rw[hG];exact grownCap_ge w _ _ _
  have hGm:G<=maxLen:=by rw[hG];exact grownCap_le_maxLen w _ _ _ (by unfold maxLen;omega)
  have hG63:G<=9223372036854775807:=hGm
  have hold:(Builtin.firstCells ii.size i (.slice (some ⟨f,0,none⟩) i cap)).run Tryz.prog w.drew= .ok (cells.take (i*27)).toArray w.drew:=by
   rw[L]
   exact run_firstCells_some w.drew 27 i ⟨f,0,none⟩ i cap (cells.take (i*27)) (by rw[zJ,α];omega) (z4a (o:=0) (show w.drew.heap[f]? =_ from e3) λj u A=>by
    rw[qY] at A
    split at A
    ·rw[<-e7,qY,if_pos (by omega)] at A
     rw[Nat.zero_add]
     exact A
    ·cases A)
  have hbd:(n+1)*ii.bytes<=140737488355328:=Nat.le_trans (Nat.mul_le_mul_left _ hi3) (by omega)
  have η:∀ty,(Builtin.append_ #[32,3] ty #[.slice (some ⟨f,0,none⟩) i cap,.int .i64 ((n:Int)+1 - (i:Int))]).run Tryz.prog w= .ok (.slice (some ⟨w.heap.size,0,none⟩) (n+1) G) (w.drew.alloc (.cells ((cells.take (i*27)).toArray++Builtin.zeroCells z.cells (n+1 - i)++Builtin.zeroCells z.cells (G - (n+1))) 45)):=λty=>by
   have hk:i+(n+1 - i)=n+1:=by omega
   have:=Lib.run_append_grow_zeros w 32 3 ty 45 ii z .i64 .i64 Tryz.underlying32 Tryz.underlying3 W hi4 (some ⟨f,0,none⟩) i cap (cells.take (i*27)) hold (n+1 - i) (by omega) (by rw[L];decide) (by omega) (by omega) (Nat.le_trans (Nat.mul_le_mul_left _ hi3) (by omega)) (by rw[hk];exact growslice_fits (by omega) hbd)
   rw[hk, <-hG] at this
   rw[show(n:Int)+1 - (i:Int)=((n+1 - i:Nat):Int) by omega]
   exact this
  obtain⟨row,V⟩:∃row:Array Value,row=(cells.take (i*27)).toArray++Builtin.zeroCells z.cells (n+1 - i)++Builtin.zeroCells z.cells (G - (n+1)):=⟨_,rfl⟩
  rw[<-V] at η
  have hzs:∀k,(Builtin.zeroCells z.cells k).size=k*27:=λk=>by simp[Builtin.zeroCells,hi5]
  have ρ:row.size=G*27:=by
   rw[V,Array.size_append,Array.size_append,hzs,hzs,List.size_toArray,zJ,α]
   omega
  have hrt:row.toList.take (i*27)=cells.take (i*27):=by
   rw[V,Array.toList_append,Array.toList_append,zt,qE (by simp[α];omega)]
   exact List.take_of_length_le (by simp;omega)
  have hbN:(w.drew.alloc (.cells row 45)).heap[w.heap.size]? =some (.cells row 45 (0,0)):=heap_alloc_new w.drew _
  have hggN:f<w.heap.size:=(qN.1 e3).1
  have hvbN:M<w.heap.size:=(qN.1 f3).1
  have H:∀k,k<w.heap.size->(w.drew.alloc (.cells row 45)).heap[k]? =w.heap[k]? :=λk hk=>heap_alloc_old w.drew _ hk
  have σ:(w.drew.alloc (.cells row 45)).heap[M]? =some (.cells t 45 (0,0)):=by rw[H M hvbN];exact f3
  have d:i*27+J.length<=row.size:=by rw[F,ρ];omega
  have r1:=λty=>yP (P:=Tryz.prog) (w.drew.alloc (.cells row 45)) 32 ty 45 ii Tryz.underlying32 W w.heap.size _ row hbN (i*27) (n+1 - i) (G - i) ⟨M,0,none⟩ 1 vc 1 (by simp only[Nat.min_def];split<;>omega) J (by rw[L,F]) (z4a σ T) θ d
  obtain⟨l,p⟩:∃l,l=Qi row (i*27) J:=⟨_,rfl⟩
  rw[<-p] at r1
  have D:l.size=row.size:=by rw[p,Jv d]
  have Y:=setRow_heap _ w.heap.size row l _ _ hbN
  have hg1:((w.drew.alloc (.cells row 45)).setRow w.heap.size l).drew.heap[f]? =some (.cells cur 45 (0,0)):=by
   show((w.drew.alloc (.cells row 45)).setRow w.heap.size l).heap[f]? =_
   rw[setRow_other _ _ _ _ (by omega),H f hggN]
   exact e3
  have c:(i+1)*27+(cells.drop (i*27)).length<=l.size:=by rw[O,D,ρ];omega
  have r2:=λty=>yP (P:=Tryz.prog) ((w.drew.alloc (.cells row 45)).setRow w.heap.size l).drew 32 ty 45 ii Tryz.underlying32 W w.heap.size _ l Y ((i+1)*27) (n - i) (G - (i+1)) ⟨f,i*27,none⟩ (n - i) (cap - i) (n - i) (by simp only[Nat.min_def];split<;>omega) (cells.drop (i*27)) (by rw[L];exact O) (z4a hg1 X) (λu A=>hc1 u (List.mem_of_mem_drop A)) c
  obtain⟨K,m⟩:∃K,K=Qi l ((i+1)*27) (cells.drop (i*27)):=⟨_,rfl⟩
  rw[<-m] at r2
  have U:K.size=row.size:=by rw[m,Jv c,D]
  have ξ:=setRow_heap ((w.drew.alloc (.cells row 45)).setRow w.heap.size l).drew w.heap.size l K _ _ Y
  have R:=W1a f n cap i M vc w hi e4 (by omega) G hGn hG63 (by omega) _ _ _ η r1 r2
  refine R.mono ?_
  rintro e w' ⟨rfl,rfl⟩
  refine fin _ w.heap.size G K ⟨rfl,rfl,rfl,by simp,λk hk C=>?_⟩ ξ hB hGn hGm (by rw[U,ρ]) ?_ (.inr (zo _))
  ·rw[setRow_other _ _ _ _ (by omega)]
   show((w.drew.alloc (.cells row 45)).setRow w.heap.size l).heap[k]? =_
   rw[setRow_other _ _ _ _ (by omega),H k hk]
  ·have Q:=Yd c
   rw[<-m,O,show(i+1)*27+(n - i)*27=(n+1)*27 by omega] at Q
   have he1:=Yd d
   rw[<-p,F,show i*27+27=(i+1)*27 by omega] at he1
   rw[Q,he1,hrt]
end Go.Proofs.YtigdlmpjijhpaaaGreat.Ax
namespace Go.Proofs.YtigdlmpjijhpaaaGreat.Ax
open Go Go.Proofs
set_option maxRecDepth 100000
attribute [go_sem] qxb qzb
theorem xub(h:List Ob)(id st a b:Nat)(xs:List (List AV))(y:List AV)(g:h[id]? =some (.row 45 27 xs st))(f:h[a]? =some (.row 45 27 [y] b))(i:id≠a)(j:xs.length<1048576)
  (d:(y.length==27 && y.all AV.one)=true):
  ACalls Tryz.prog 171 [.tl id st,i64 xs.length,.tl a b] h λr h'=>r= .tl id (st+1)/\h'=h.set id (.row 45 27 (xs++[y]) (st+1)):=by
 have c:(xs.length+1)*233<=140737488355328:=by omega
 have b0:((1:Int)==0)=false:=rfl
 have e:((xs.length:Int)<=(xs.length:Int))=True:=eq_true (Int.le_refl _)
 refine zi Tryz.f171 [.tmp 6] 95 rfl rfl rfl rfl rfl rfl (by decide) (⟨_,_,⟨rfl,rfl⟩,qi g rfl⟩) λB=>?_
 simp only[go_sem,g,f,c,d,b0,e,List.length_cons,List.length_nil,beq_self_eq_true,qt,zh,Int.le_refl,List.all_cons,List.all_nil,Bool.and_true,or_self,true_or,Int.toNat_natCast]
 exact⟨.tl id (st+1),by simp only[go_sem],.inl ⟨rfl,rfl⟩⟩
theorem xvb(h:List Ob)(b a:Nat)(y:List AV)(d:h[b]? =some (.row 45 27 [y] a))(c:(y.length==27 && y.all AV.one)=true):
  ACalls Tryz.prog 171 [.v (.slice none 0 0),i64 0,.tl b a] h λr h'=>r= .tl h.length 0/\h'=h++[.row 45 27 [y] 0]:=by
 have b0:((1:Int)==0)=false:=rfl
 refine zi Tryz.f171 [.tmp 6] 95 rfl rfl rfl rfl rfl rfl (by decide) (⟨_,_,⟨rfl,rfl⟩,resK_app⟩) λB=>?_
 simp only[go_sem,d,c,b0,List.length_cons,List.length_nil,beq_self_eq_true,qt,zh,Int.le_refl,List.all_cons,List.all_nil,Bool.and_true,or_self,true_or,Int.toNat_natCast]
 exact⟨.tl h.length 0,by simp only[go_sem],.inl ⟨rfl,rfl⟩⟩
theorem kub(h:List Ob)(id st a b:Nat)(xs:List (List AV))(y:List AV)(i:Nat)(j:h[id]? =some (.row 45 27 xs st))(d:h[a]? =some (.row 45 27 [y] b))(e:id≠a)(hi:i<=xs.length)(k:xs.length<1048576)
  (f:(xs.all λr=>r.all AV.one)=true) (c:(y.length==27 && y.all AV.one)=true):
  ACalls Tryz.prog 171 [.tl id st,i64 i,.tl a b] h λr h'=>r= .tl id (st+1)/\h'=h.set id (.row 45 27 (xs.take i++y::xs.drop i) (st+1)):=by
 by_cases g:i<xs.length
 ·exact xtb h id st a b xs y i j d e g k f (by rw[zq] at c;exact c.2)
 ·have:i=xs.length:=by omega
  subst this
  have:=xub h id st a b xs y j d e k c
  rw[zP,List.drop_length]
  exact this
theorem Zga{r:RW}:∀ {R:List RW},yL R->yK r R=if isH R (ja r) then R.set (atR R (ja r)) r else R.take (atR R (ja r))++r::R.drop (atR R (ja r))
 | [],_=>rfl
 | y::l,h=>by
   obtain⟨k,j⟩:=zR.1 h
   have c:ltK (ja y) (ja r)=false->atR (y::l) (ja r)=0:=λq=>by
    unfold atR
    rw[List.takeWhile_cons,q]
    rfl
   unfold yK
   split
   ·rename_i a
    have d:isH (y::l) (ja r)=false:=by
     cases q:isH (y::l) (ja r)
     ·rfl
     ·obtain⟨z,f,e⟩:=vR.1 q
      rcases zx.1 f with rfl|f
      ·exact absurd e.symm (ZV a)
      ·exact absurd e.symm (ZV (KC a (k z f)))
    rw[d,c (vpa a)]
    rfl
   ·split
    ·rename_i a
     have d:isH (y::l) (ja r)=true:=vR.2 ⟨y,.head _,a.symm⟩
     rw[d,c (by rw[a];exact Vx _)]
     rfl
    ·rename_i a b
     have g:ltK (ja y) (ja r)=true:=Zba (by simpa using a) b
     have d:isH (y::l) (ja r)=isH l (ja r):=by
      show(ja y==ja r || isH l (ja r))=_
      rw[beq_eq_false_iff_ne.2 (λe=>b e.symm),Bool.false_or]
     have i:atR (y::l) (ja r)=atR l (ja r)+1:=by
      unfold atR
      rw[List.takeWhile_cons,g]
      rfl
     rw[d,i,Zga j]
     split<;>rfl
abbrev qkb(s:Setup)(a:SA)(x c d b:AV):List AV:=[i64 s.places,a.w,i64 s.pace.1,i64 s.pace.2,a.e,a.c,a.g,i64 s.allow,i64 s.unit,i64 s.cap,i64 s.paidBreak,i64 s.autoAfter,i64 s.autoBreak,
 i64 s.dayReg,i64 s.dayOver,i64 s.weekReg,i64 s.nightFrom,i64 s.nightTo,a.r,i64 s.diff,i64 s.least,i64 s.fault,a.t,x,c,d,b]
abbrev xI(s:Setup)(b:Bk)(c a:AV):Ob:= .box 161 (qkb s (frA s) (BX b) (BC b) c a)
structure ShI (h0 H:List Ob) (d:Nat) (s:Setup) (b:Bk) (R:List RW) (ks:List Ky):Prop where
 pre:Pre h0 H
 dl:h0.length<=d
 box:∃rv kv,H[d]? =some (xI s b rv kv)/\OwnS h0 H 45 27 rv (R.map q9)/\OwnS h0 H 90 2 kv (ks.map jm)
def BoxD(d:Nat)(H a:List Ob):Prop:=∀j t cs,j≠d->H[j]? =some (.box t cs)->a[j]? =some (.box t cs)
theorem BoxD.refl{d:Nat}{H:List Ob}:BoxD d H H:=λ_ _ _ _ h=>h
theorem BoxD.trans{d:Nat}{H c a:List Ob}(k:BoxD d H c)(q:BoxD d c a):BoxD d H a:=λj t cs b h=>q j t cs b (k j t cs b h)
theorem BoxD.app{d:Nat}{H a:List Ob}(k:BoxD d H a)(M:List Ob):BoxD d H (a++M):=λj t cs b h=>ze (k j t cs b h)
theorem BoxD.setD{d:Nat}{H b:List Ob}(k:BoxD d H b)(o:Ob):BoxD d H (b.set d o):=λj t cs a h=>by rw[zc (λe=>a e.symm)];exact k j t cs a h
theorem BoxD.setR{d:Nat}{H a:List Ob}(k:BoxD d H a){id ty e st:Nat}{xs:List (List AV)}(c:a[id]? =some (.row ty e xs st))(o:Ob):BoxD d H (a.set id o):=λj t cs b h=>xq (h0:=a) (k j t cs b h) c
theorem BoxD.setNew{d:Nat}{H a:List Ob}(k:BoxD d H a){i:Nat}(hi:H.length<=i)(o:Ob):BoxD d H (a.set i o):=λj t cs b h=>by
 have:=(zd.1 h).1
 rw[zc (by omega)]
 exact k j t cs b h
section
variable {h0 H:List Ob} {d:Nat} {s:Setup} {b:Bk} {R:List RW} {ks:List Ky}
theorem ShI.app(i:ShI h0 H d s b R ks){M:List Ob}(a:NoRes M):ShI h0 (H++M) d s b R ks:=by
 obtain⟨e,g,h,c,f⟩:=i.box
 exact⟨i.pre.app a,i.dl,e,g,ze h,c.app M,f.app M⟩
theorem ShI.any(i:ShI h0 H d s b R ks)(b':Bk)(c:List RW)(a:List Ky):∃e,(ShI h0 e d s b' c a/\BoxD d H e)/\ResK H e:=by
 obtain⟨h,l,g,m,o⟩:=i.box
 have j:=i.pre.len
 have n:=(zd.1 g).1
 have f:(H++[Ob.row 45 27 (c.map q9) 0,.row 90 2 (a.map jm) 0])[d]? =some (xI s b h l):=ze g
 refine⟨(H++[Ob.row 45 27 (c.map q9) 0,.row 90 2 (a.map jm) 0]).set d (xI s b' (.tl H.length 0) (.tl (H.length+1) 0)),⟨⟨(i.pre.app (zl rfl (zD rfl))).set i.dl rfl,i.dl,_,_,zm f,.inr ⟨H.length,0,j,rfl,?_⟩,.inr ⟨H.length+1,0,by omega,rfl,?_⟩⟩,(BoxD.refl.app _).setD _⟩,resK_app.trans (qi f rfl)⟩
 ·rw[zc (by omega),zM rfl];rfl
 ·rw[zc (by omega),zG (k:=1) rfl];rfl
end
theorem W2a{α:Type}{xs:List α}{i:Nat}(h:i<=xs.length)(z y:α):(xs.take i++z::xs.drop i).set i y=xs.take i++y::xs.drop i:=by
 rw[zU _ _ (by rw[zJ];omega),zJ,Nat.min_eq_left h,Nat.sub_self,List.set_cons_zero]
theorem KXa(l:List RW):((l.map q9).all λr=>r.all AV.one)=true:=by
 rw[qb];intro r a;obtain⟨s,_,rfl⟩:=zr.1 a;rfl
theorem row_ne_key:45≠90:=by decide
theorem frM(s:Setup)(H:List Ob):SIn H s (frA s):=yI s
set_option maxHeartbeats 2000000 in
theorem W3a(h0 H:List Ob)(d:Nat)(s:Setup)(f:SFit s)(b:Bk)(R:List RW)(ks:List Ky)(k:Ky)(i:ShI h0 H d s b R ks)(hs:yL R)(τ:0<=k.1)(he:b.evs.length<=1000)(hR:R.length<1000000)(hks:ks.length<1000000):
  ACalls Tryz.prog 93 [.ptr d 0,.ag (jm k)] H λr I=>r= .tup []/\ShI h0 I d s b (yK (qm s b.evs k.1 k.2) R) (ks++[k])/\BoxD d H I:=by
 have hex:∃r I,(r=AV.tup []/\ShI h0 I d s b (yK (qm s b.evs k.1 k.2) R) (ks++[k])/\BoxD d H I)/\ResK H I:=by
  obtain⟨I,⟨U,q0⟩,W⟩:=i.any b (yK (qm s b.evs k.1 k.2) R) (ks++[k])
  exact⟨_,I,⟨rfl,U,q0⟩,W⟩
 obtain⟨n,p,rv,F,U,W,q3⟩:=i
 have hd:=(zd.1 U).1
 have V:=(frM s H).ones
 have ε:=W.rows.one
 have A:=q3.rows.one
 have l:∀M,(H++M)[d]? =some (xI s b rv F):=λM=>ze U
 obtain⟨r,hr⟩:∃r,r=qm s b.evs k.1 k.2:=⟨_,rfl⟩
 have ξ:ja r=k:=by rw[hr];exact zZa s b.evs k.1 k.2 τ
 have j:=Zga (r:=r) hs
 rw[ξ] at j
 rw[<-hr]
 refine jN (N:=65) (rs:=[]) (fn:=Tryz.f93) rfl rfl rfl rfl (qo rfl) rfl (by rw[hr];exact hex) λB=>?_
 refine qG (by decide) ?_
 simp only[go_sem,jm]
 refine jS (qG (by decide) ?_)
 simp only[go_sem]
 refine zL rfl [] 0 [(0,0,[]),(1,0,[]),(2,0,[]),(3,0,[]),(4,0,[]),(5,0,[]),(6,0,[]),(7,0,[]),(8,0,[]),(9,0,[]),(10,0,[]),(11,0,[])] rfl (by decide) (by decide) ?_
 simp only[go_sem,l,ε,jm]
 refine zg (KSa _ rv R k (W.app _).rows hs (by omega)) ?_
 rintro _ m ⟨rfl,rfl⟩
 simp only[go_sem]
 refine jS (xr (λT m=>T 0= .ptr d 0/\T 3= .ptr H.length 0/\T 4=i64 (atR R k)/\Pre h0 m/\BoxD d H m/\m[H.length]? =some (.box 90 (jm k))/\∃id st xs,h0.length<=id/\m[d]? =some (xI s b (.tl id st) F)/\m[id]? =some (.row 45 27 xs st)/\OwnS h0 m 90 2 F (ks.map jm)/\
   (∃P,xs[atR R k]? =some P/\P.length=27)/\xs.set (atR R k) (q9 r)=(yK r R).map q9) (by decide) ?_ ?_)
 ·cases q:isH R k
  ·rw[q] at j
   have u:=qeb R k
   have w:∀z,((R.map q9).take (atR R k)++z::(R.map q9).drop (atR R k)).set (atR R k) (q9 r)=(yK r R).map q9:=λz=>by
    rw[j,if_neg (by decide),W2a (by rw[zb];exact u),zw,List.map_cons,List.map_take,List.map_drop]
   have α:∀z:List AV,z.length=27->∃P,((R.map q9).take (atR R k)++z::(R.map q9).drop (atR R k))[atR R k]? =some P/\P.length=27:=λz hz=>by
    refine⟨z,?_,hz⟩
    have hl:((R.map q9).take (atR R k)).length=atR R k:=by rw[zJ,zb];omega
    rw[zX (by omega),hl,Nat.sub_self]
    rfl
   simp only[go_sem,q,qt,l,V,ε,A]
   rcases W with⟨rfl,a⟩|⟨id,st,S,rfl,v⟩
   ·have χ:R=[]:=by simpa using a
    have Y:atR R k=0:=by rw[χ];rfl
    have E:=w
    have K:=α
    rw[a,Y] at E K
    rw[Y]
    refine zg (xvb _ (H.length+1) 0 _ (by rw[zG (k:=1) rfl];rfl) rfl) ?_
    rintro _ g ⟨rfl,rfl⟩
    simp only[go_sem,l,V,A]
    refine⟨(n.app (zl rfl (zl rfl (zD rfl)))).set p rfl,(BoxD.refl.app _).setD _,by rw[zc (by omega),zM rfl];rfl,H.length+2,0,_,by have:=n.len;omega,zm (l _),by rw[zc (by omega),zG (k:=2) rfl];rfl,(q3.app _).setB (l _),K _ rfl,E _⟩
   ·have x:∀M,(H++M)[id]? =some (.row 45 27 (R.map q9) st):=λM=>ze v
    have hil:=(zd.1 v).1
    have C:d≠id:=λe=>by rw[e,v] at U;cases U
    have t:∀M o',((H++M).set id o')[d]? =some (xI s b (.tl id st) F):=λM o'=>xq (h0:=H) (l M) (x M)
    refine zg (kub _ id st (H.length+1) 0 (R.map q9) _ (atR R k) (x _) (by rw[zG (k:=1) rfl];rfl) (by omega) (by rw[zb];exact u) (by rw[zb];omega) (KXa R) rfl) ?_
    rintro _ g ⟨rfl,rfl⟩
    simp only[go_sem,t,V,A]
    refine⟨((n.app (zl rfl (zD rfl))).set S rfl).set p rfl,((BoxD.refl.app _).setR (x _) _).setD _,by rw[zc (by omega),zc (by omega),zM rfl];rfl,id,st+1,_,S,zm (t _ _),by rw[zc C];exact zm (x _),((q3.app _).set_row (x _) row_ne_key.symm _).setB (t _ _),α _ rfl,w _⟩
  ·rw[q] at j
   obtain⟨ζ,hkk⟩:=KTa hs q
   rcases W with⟨rfl,a⟩|⟨id,st,S,rfl,v⟩
   ·have:R=[]:=by simpa using a
    subst this
    cases ζ
   ·simp only[go_sem,q,qt]
    refine⟨n.app (zD rfl),BoxD.refl.app _,rfl,id,st,_,S,l _,ze v,q3.app _,⟨_,xH q9 ζ,rfl⟩,?_⟩
    rw[j,if_pos rfl,List.map_set]
 ·rintro T m ⟨t0,t3,t4,β,η,D,id,st,xs,hid,g1,G,g3,⟨P,u,φ⟩,w⟩
  have o:∀M,(m++M)[d]? =some (xI s b (.tl id st) F):=λM=>ze g1
  have X:∀M,(m++M)[id]? =some (.row 45 27 xs st):=λM=>ze G
  have kM:∀M,(m++M)[H.length]? =some (.box 90 (jm k)):=λM=>ze D
  have ο:((atR R k:Nat):Int)<xs.length:=by have:=(zd.1 u).1;omega
  have J:lay P 0 (vB r.1 (.sl 2 (r.2.map km)))=some (q9 r):=K4 _ _ φ
  refine qG (by decide) ?_
  simp only[go_sem]
  refine zL rfl [] 0 [(0,0,[]),(1,0,[]),(2,0,[]),(3,0,[]),(5,0,[]),(6,0,[]),(7,0,[]),(8,0,[]),(9,0,[]),(10,0,[]),(12,0,[]),(13,0,[]),(14,0,[]),(15,0,[]),(16,0,[]),(18,0,[]),(20,0,[]),(4,0,[]),(11,0,[]),(17,0,[]),(19,0,[]),(21,0,[]),(22,0,[4]),(23,0,[]),(24,0,[])] rfl (by decide) (by decide) ?_
  simp only[go_sem,t0,t3,t4,g1,o,kM,D,V,A,jm]
  refine zg (zGb _ s (frA s) (frM s _) f (BX b) b.evs k.1 k.2 ⟨rfl,λ_=>rfl⟩ he) ?_
  rintro _ h3 ⟨rfl,e3⟩
  rw[e3, <-hr]
  clear e3
  simp only[go_sem,t0,t3,t4,g1,G,X,ο,u,J,ve,List.cons_append,List.nil_append,Int.toNat_natCast,zh]
  rw[w]
  obtain⟨g,h⟩:∃g,g=m.set id (.row 45 27 ((yK r R).map q9) st):=⟨_,rfl⟩
  rw[<-h]
  have c:g[d]? =some (xI s b (.tl id st) F):=by rw[h];exact xq (h0:=m) g1 G
  have y:g[id]? =some (.row 45 27 ((yK r R).map q9) st):=by rw[h];exact zm G
  have σ:OwnS h0 g 90 2 F (ks.map jm):=by rw[h];exact g3.set_row G row_ne_key.symm _
  have L:g[H.length]? =some (.box 90 (jm k)):=by rw[h];exact xq (h0:=m) D G
  have O:Pre h0 g:=by rw[h];exact β.set hid rfl
  have Z:BoxD d H g:=by rw[h];exact η.setR G _
  have o:∀M,(g++M)[d]? =some (xI s b (.tl id st) F):=λM=>ze c
  have C:d≠id:=λe=>by rw[e,y] at c;cases c
  clear h η β g1 G g3 D u J X kM w
  refine zL rfl [.res] 1 [(0,0,[]),(1,0,[]),(2,0,[]),(3,0,[]),(4,0,[]),(5,0,[]),(6,0,[]),(7,0,[]),(8,0,[]),(9,0,[]),(10,0,[])] rfl (by decide) (by decide) ?_
  have kM:∀M,(g++M)[H.length]? =some (.box 90 (jm k)):=λM=>ze L
  rcases σ with⟨rfl,a⟩|⟨Q,su,S,rfl,v⟩
  ·simp only[go_sem,t0,t3,c,o,L,kM,V,jm]
   have hl2:=O.len
   refine⟨.tup [],by simp only[go_sem],.inl ⟨rfl,⟨(O.app (zl rfl (zD rfl))).set p rfl,p,.tl id st,.tl (g.length+1) 0,zm (o _),.inr ⟨id,st,hid,rfl,?_⟩,.inr ⟨g.length+1,0,by omega,rfl,?_⟩⟩,(Z.app _).setD _⟩⟩
   ·rw[zc C];exact ze y
   ·have hd2:=(zd.1 c).1
    rw[zc (by omega),zG (k:=1) rfl,zw,a];rfl
  ·have x:∀M,(g++M)[Q]? =some (.row 90 2 (ks.map jm) su):=λM=>ze v
   have δ:((ks.map jm).length+1)*17<=140737488355328:=by rw[zb];omega
   have t:∀M o',((g++M).set Q o')[d]? =some (xI s b (.tl id st) (.tl Q su)):=λM o'=>xq (h0:=g) (o M) (x M)
   simp only[go_sem,t0,t3,c,o,L,kM,V,x,δ,t,jm]
   have ρ:Q≠id:=λe=>by rw[e,y] at v;injection v with v;injection v with z;exact absurd z row_ne_key
   have υ:d≠Q:=λe=>by rw[e,v] at c;cases c
   refine⟨.tup [],by simp only[go_sem],.inl ⟨rfl,⟨((O.app (zD rfl)).set S rfl).set p rfl,p,.tl id st,.tl Q (su+1),zm (t _ _),.inr ⟨id,st,hid,rfl,?_⟩,.inr ⟨Q,su+1,S,rfl,?_⟩⟩,((Z.app _).setR (x _) _).setD _⟩⟩
   ·rw[zc C,zc ρ];exact ze y
   ·rw[zc υ,zw];exact zm (x _)
def FlR(R:List RW):Prop:=∀r∈R,r.2.length<1099511627776
theorem Zha{s:Setup}(f:SFit s){l:List Ev}{w wk:Int}(a:l.length<=1000):(qm s l w wk).2.length<1099511627776:=by
 have:=(Vt f l w wk a).2
 omega
theorem vsa{s:Setup}(f:SFit s){ev:List Ev}(a:ev.length<=1000){want:Bool}:∀(ks:List Ky) {t:List RW × List Ky},FlR t.1->FlR (kC s ev want t ks).1
 | [],_,h=>h
 | k::ks,t,h=>by
   refine vsa f a ks (t:=Qh s ev want t k) ?_
   unfold Qh
   split
   ·intro r b
    rcases Vy b with rfl|q|q
    ·exact Zha f a
    ·exact h r q.1
    ·exact h r q.1
   ·exact h
theorem yba{s:Setup}{ev:List Ev}{want:Bool}{t:List RW × List Ky}{ks:List Ky}{n:Nat}(a:n<ks.length):kC s ev want t (ks.take (n+1))=Qh s ev want (kC s ev want t (ks.take n)) ks[n]:=by
 unfold kC
 rw[show ks.take (n+1)=ks.take n++[ks[n]] from(zE a).symm,qK]
 rfl
theorem Q9a{s:Setup}{ev:List Ev}{want:Bool}{t:List RW × List Ky}{k:Ky}(a:yL t.1):yL (Qh s ev want t k).1/\(Qh s ev want t k).1.length<=t.1.length+1/\(Qh s ev want t k).2.length<=t.2.length+1:=by
 unfold Qh
 split
 ·refine⟨xka a,?_,by simp⟩
  rw[xla a]
  split<;>omega
 ·exact⟨a,by omega,by omega⟩
theorem jna{s:Setup}{ev:List Ev}{want:Bool}:∀(ks:List Ky) {t:List RW × List Ky},yL t.1->yL (kC s ev want t ks).1/\(kC s ev want t ks).1.length<=t.1.length+ks.length/\(kC s ev want t ks).2.length<=t.2.length+ks.length
 | [],_,h=>⟨h,by exact zo _,by exact zo _⟩
 | k::ks,t,h=>by
   obtain⟨b,f,d⟩:=Q9a (s:=s) (ev:=ev) (want:=want) (k:=k) h
   obtain⟨a,c,g⟩:=jna ks b
   have e:kC s ev want t (k::ks)=kC s ev want (Qh s ev want t k) ks:=rfl
   rw[e,List.length_cons]
   exact⟨a,by omega,by omega⟩
theorem KYa{l:List Ky}{i:Nat}(h:i<l.length):(l.map jm)[i]? =some (jm l[i]):=by rw[zz,zj h];rfl
set_option maxHeartbeats 1000000 in
theorem YNa(h0 v:List Ob)(x:AV)(d:Nat)(s:Setup)(f:SFit s)(b:Bk)(c:List RW)(a ks:List Ky)(want:Bool)(J:FuncId)(ci:List AV)(O:∀H,SlOf H x 2 (ks.map jm))(Q:ShI h0 v d s b c a)(V:yL c)(G:∀k∈ks,0<=k.1)(S:b.evs.length<=1000)(hR:c.length<900000)(U:a.length<900000)(γ:ks.length<100000)(I:FlR c)
  (N:∀(H:List Ob) (R:List RW) (K:List Ky),ShI h0 H d s b R K->BoxD d v H->yL R->R.length<1000000->FlR R->∀k∈ks,ACalls Tryz.prog J ([.ag (jm k)]++ci) H λr h'=>r=bl (isH R k==want)/\h'=H):
  ACalls Tryz.prog 92 [x,.fn (.func J) [] ci,.fn (.func 93) [.ptr d 0] []] v λr l=>r= .tup []/\ShI h0 l d s b (kC s b.evs want (c,a) ks).1 (kC s b.evs want (c,a) ks).2/\BoxD d v l:=by
 have hex:∃r l,(r=AV.tup []/\ShI h0 l d s b (kC s b.evs want (c,a) ks).1 (kC s b.evs want (c,a) ks).2/\BoxD d v l)/\ResK v l:=by
  obtain⟨l,⟨Z,q0⟩,q2⟩:=Q.any b (kC s b.evs want (c,a) ks).1 (kC s b.evs want (c,a) ks).2
  exact⟨_,l,⟨rfl,Z,q0⟩,q2⟩
 have y:=λM=>(O M).rows
 refine zi Tryz.f92 [] 21 rfl rfl rfl rfl rfl rfl (by decide) (hex) λB=>?_
 simp only[go_sem,y,zb]
 refine zI (by decide) (λm T H=>∃n:Nat,n<=ks.length/\ShI h0 H d s b (kC s b.evs want (c,a) (ks.take n)).1 (kC s b.evs want (c,a) (ks.take n)).2/\BoxD d v H/\T 1= .fn (.func J) [] ci/\T 2= .fn (.func 93) [.ptr d 0] []/\T 8=x/\T 9=i64 ks.length/\T 10=i64 n/\m=ks.length - n) ks.length
  ⟨0,by omega,Q,.refl,by simp only[go_sem],by simp only[go_sem],by simp only[go_sem],by(simp only[go_sem]<;>rfl),by(simp only[go_sem]<;>rfl),rfl⟩ ?_
 rintro m T H ⟨n,hn,i,P,t1,t2,t8,t9,t10,rfl⟩
 simp only[go_sem,t9,t10]
 refine ways (λe=>?_) (λe=>?_)
 ·have j:=dlt e
  have o:=KYa j
  have z:(n:Int)<ks.length:=by omega
  have A:=λM=>(O M).at (i:=n) (by simpa using j)
  have g:=yba (s:=s) (ev:=b.evs) (want:=want) (t:=(c,a)) j
  obtain⟨L,l2,l3⟩:=jna (s:=s) (ev:=b.evs) (want:=want) (ks.take n) (t:=(c,a)) V
  have w:=vsa f S (want:=want) (ks.take n) (t:=(c,a)) I
  have β:(ks.take n).length<=n:=by rw[zJ];omega
  have h:ks[n]∈ks:=zy j
  obtain⟨t,Y⟩:∃t,t=kC s b.evs want (c,a) (ks.take n):=⟨_,rfl⟩
  rw[<-Y] at i g L l2 l3 w
  simp only at l2 l3
  obtain⟨k,hk⟩:∃k,k=ks[n]:=⟨_,rfl⟩
  rw[<-hk] at o g h
  have u:ShI h0 (H++[.box 90 (jm k)]) d s b t.1 t.2:=i.app (zD rfl)
  have p:=P.app [.box 90 (jm k)]
  have hc:=N _ _ _ u p L (by omega) w k h
  have C:(ks.map jm)[n]? =some [i64 k.1,i64 k.2]:=o
  simp only[go_sem,t1,t8,t10,y,A,C,z,zb,Int.toNat_natCast,zh]
  refine zg hc ?_
  rintro _ h1 ⟨rfl,X⟩
  rw[X]
  unfold Qh at g
  cases q:isH t.1 k==want
  ·rw[q] at g
   simp only[go_sem,q,qt,t10]
   exact⟨ks.length - (n+1),by omega,n+1,by omega,by rw[g];exact u,p,t1,t2,t8,t9,qf (by omega) rfl,rfl⟩
  ·rw[q] at g
   simp only[go_sem,q,qt,t2,zM]
   refine zg (W3a h0 _ d s f b t.1 t.2 k u L (G k h) S (by omega) (by omega)) ?_
   rintro _ h1 ⟨rfl,F,E⟩
   simp only[go_sem,t10]
   exact⟨ks.length - (n+1),by omega,n+1,by omega,by rw[g];exact F,p.trans E,t1,t2,t8,t9,qf (by omega) rfl,rfl⟩
 ·have W:=j9 e
  have D:n=ks.length:=by omega
  subst D
  rw[zP] at i
  simp only[go_sem]
  exact⟨.tup [],by simp only[go_sem],.inl ⟨rfl,i,P⟩⟩
