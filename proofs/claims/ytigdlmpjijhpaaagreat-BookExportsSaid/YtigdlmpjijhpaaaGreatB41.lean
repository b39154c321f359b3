import Derived.Test.YtigdlmpjijhpaaaGreatBA
import Derived.Test.YtigdlmpjijhpaaaGreatB40
set_option linter.all false
namespace Go.Proofs.YtigdlmpjijhpaaaGreat.Ax
open Go Go.Proofs
set_option maxRecDepth 100000
theorem XG{P:Program}{f:FuncId}{ar:List AV}{h:List Ob}{u:AV}{e:Nat}{rows:List (List AV)}(o:0<e)(d:u.lt h.length=true)(q:qQ h.length rows=true)(c:ACalls P f ar h λr h'=>∃L x,h'=h++L/\NoRes L/\r= .tup [x,u]/\New h e x rows L):ACalls P f ar h λr h'=>r= .tup [.sl e rows,u]/\h'=h:=by
 refine⟨c.1,⟨_,_,⟨rfl,rfl⟩,.refl⟩,λφ m B w g vs l hB b=>?_⟩
 refine(c.2.2 φ m B w g vs l hB b).mono λD w' ⟨v,r,h',g',y,⟨L,x,z,_,n,n1⟩,_,i,k⟩=>?_
 subst z n
 rw[jC m] at i k
 have a:(fill φ h).length=h.length:=q9
 obtain⟨us,rfl,s,E,C,a1,p,A,t,a2,j⟩:=k
 have j:A=[]:=j
 subst j t
 refine⟨_,_,h,g',y,⟨rfl,rfl⟩,.refl,i.drop rfl (by have:=l.ids;exact this),us,rfl,?_⟩
 rw[C]
 exact⟨s,_,rfl,QT i.ok o a1 (n1 _ a) (λid hid=>by rw[a];exact n1.root id hid) (by rw[a];exact q),p,[],rfl,AR.less (xD w' g' (fill φ h) L) _ _ (by rw[q9];exact d) a2,rfl⟩
def qX(n:Int):List AV:=[.v (.int .u8 n)]
theorem Zl{n:Nat}:∀l:List Int,qQ n (l.map qX)=true
 | []=>rfl
 | s::l=>by
   rw[List.map_cons,qQ,Zl l];rfl
theorem XJa(l:List Int):((l.map qX).all λr=>r.length==1 && r.all AV.one)=true:=by
 rw[zR]
 intro r a
 obtain⟨s,_,rfl⟩:=zw.1 a
 rfl
def Qs(n:Int)(j:Nat):Int:=IntKind.wrap .u8 (n.fdiv (2 ^ min (8*j) 64))
def xC(n:Int):Nat->List Int
 | 0=>[]
 | k+1=>Qs n k::xC n k
theorem wE(n:Int):∀k,(xC n k).length=k
 | 0=>rfl
 | k+1=>by rw[xC,List.length_cons,wE n k]
theorem yOa(n:Int):0<=jE n/\jE n<=8:=by
 have a:0<=IntKind.wrap .u64 n/\IntKind.wrap .u64 n<=18446744073709551615:=by
  rw[IntKind.wrap_u64];omega
 have:=Go.Lib.bitLen_le (IntKind.wrap .u64 n).toNat 64 (by omega) (by omega)
 unfold jE
 rw[qp (n:=(Go.Lib.bitLen (IntKind.wrap .u64 n).toNat:Int)+7) (by unfold Fit;omega),Int.tdiv_eq_ediv_of_nonneg (by omega),qp (by unfold Fit;omega)]
 omega
def jb(n:Int):List Int:=IntKind.wrap .u8 (jE n)::xC n (jE n).toNat
theorem Q2(n:Int):(jb n).length<=9:=by
 have:=yOa n
 rw[jb,List.length_cons,wE];omega
def kJa(l:List Int):Bool:=l.any λn=>decide (n<0)
def wQ(b ns:List Int):List Int × Int:=if kJa ns then([],50) else(b++ns.flatMap jb,0)
theorem Y3a(h:List Ob)(x y:AV)(b ns:List Int)(hx:SlOf h x 1 (b.map qX))(hy:SlOf h y 1 (ns.map qB))(hb:b.length<1073741824)(hn:ns.length<1048576):
  ACalls Tryz.prog 24 [x,y] h λr h'=>∃L z,h'=h++L/\NoRes L/\r= .tup [z,i64 (wQ b ns).2]/\New h 1 z ((wQ b ns).1.map qX) L:=by
 have hex:∃r h',(∃L z,h'=h++L/\NoRes L/\r=AV.tup [z,i64 (wQ b ns).2]/\New h 1 z ((wQ b ns).1.map qX) L)/\ResK h h':=
  ⟨_,_,⟨[],.sl 1 _,rfl,jf,rfl,λ_ _=>⟨rfl,λ_=>rfl⟩⟩,qS⟩
 refine xF (N:=41) (rs:=[.tmp 4,.tmp 5]) (fn:=Tryz.f24) rfl rfl rfl rfl (qC rfl) rfl (hex) λB=>?_
 refine qf (by decide) ?_
 simp only[go_sem]
 refine qK (yy (λT' h'=>Pre h h'/\OwnS h h' 5 1 (T' 6) (b.map qX)/\T' 1=y) (by decide) ?_ ?_)
 ·simp only[go_sem]
  refine zg (zoa _ x _ hx (by rw[zb];omega) (XJa b)) ?_
  rintro r h1 hr
  rcases hr with⟨q1,rfl,rfl⟩|⟨rfl,rfl⟩
  ·simp only[go_sem]
   exact⟨.refl,.inl ⟨rfl,q1⟩⟩
  ·simp only[go_sem]
   exact⟨⟨_,rfl,zG rfl⟩,.inr ⟨h.length,1,zn _,rfl,by rw[zM rfl];rfl⟩⟩
 ·rintro T h' ⟨c,J,t1⟩
  have C:=(c.sl hy).rows
  refine qn _ (by decide) ?_
  simp only[go_sem,t1,C,zb]
  refine zP (by decide) (λm T h'=>∃i:Nat,i<=ns.length/\kJa (ns.take i)=false/\Pre h h'/\OwnS h h' 5 1 (T 6) ((b++(ns.take i).flatMap jb).map qX)/\T 12=y/\T 13=i64 ns.length/\T 14=i64 i/\m=ns.length - i) ns.length
   ⟨0,by omega,rfl,c,by simp only[go_sem];simpa using J,by simp only[go_sem,t1],by(simp only[go_sem]<;>rfl),by(simp only[go_sem]<;>rfl),rfl⟩ ?_
  clear c J t1 C
  rintro m T h' ⟨i,hi,s,c,J,g,o,f,rfl⟩
  simp only[go_sem,o,f]
  refine ways (λe=>?_) (λe=>?_)
  ·have F:=dlt e
   have H:=Xk F
   have ζ:=(c.sl hy).at (i:=i) (by rw[zb];exact F)
   have C:=(c.sl hy).rows
   have α:(i:Int)<ns.length:=by omega
   have A:ns.take (i+1)=ns.take i++[ns[i]]:=(zI F).symm
   have I:=zD F
   obtain⟨z,hz⟩:∃z,z=ns[i]:=⟨_,rfl⟩
   rw[<-hz] at H A I
   simp only[go_sem,g,f,ζ,C,H,α,zb,Int.toNat_natCast,zh]
   refine ways (λe2=>?_) (λe2=>?_)
   ·have X:kJa ns=true:=List.any_eq_true.2 ⟨z,I,e2⟩
    have hp:wQ b ns=([],50):=by unfold wQ;rw[X];rfl
    rw[hp]
    simp only[go_sem]
    obtain⟨L,Z,hN⟩:=c
    exact⟨_,rfl,.inl ⟨L,_,Z,hN,rfl,λh2 _=>⟨rfl,λh=>absurd rfl h⟩⟩⟩
   ·have Y:decide (z<0)=false:=e2
    simp only[go_sem]
    refine zg (XIa z _) ?_
    rintro _ h2 ⟨rfl,e3⟩
    rw[e3]
    have hk:=yOa z
    obtain⟨p,G⟩:∃p,p=b++(ns.take i).flatMap jb:=⟨_,rfl⟩
    rw[<-G] at J
    have hPl:p.length<=1073741824+9*1048576:=by
     have:∀l:List Int,(l.flatMap jb).length<=9*l.length:=λl=>by
      induction l with
      | nil=>simp
      | cons n l ih=>
        have:=Q2 n
        rw[List.flatMap_cons,ze,List.length_cons];omega
     have:=this (ns.take i)
     rw[qa] at this
     rw[G,ze];omega
    have W:(p.length+1)*2<=140737488355328:=by omega
    rcases J with⟨t6,q⟩|⟨id,st,u1,t6,u3⟩
    ·have hP:p=[]:=by simpa using q
     simp only[go_sem,t6]
     have a:Pre h (h'++[.row 5 1 [qX (IntKind.wrap .u8 (jE z))] 0,.row 5 1 [qX (IntKind.wrap .u8 (jE z))] 0]):=c.app (zr rfl (zG rfl))
     have d:OwnS h (h'++[.row 5 1 [qX (IntKind.wrap .u8 (jE z))] 0,.row 5 1 [qX (IntKind.wrap .u8 (jE z))] 0]) 5 1 (.tl (h'.length+1) 0) ((p++[IntKind.wrap .u8 (jE z)]).map qX):= .inr ⟨_,0,by have:=c.len;omega,rfl,by rw[zK (k:=1) rfl,hP];rfl⟩
     have ρ:((jE z).toNat:Int)=jE z:=by omega
     obtain⟨k,O⟩:∃k,k=(jE z).toNat:=⟨_,rfl⟩
     have ι:k<=8:=by omega
     refine zP (by decide) (λm T E=>∃j:Nat,j<=k/\Pre h E/\(∃D,xC z k=D++xC z j/\OwnS h E 5 1 (T 6) ((p++[IntKind.wrap .u8 (jE z)]++D).map qX))/\T 8=i64 z/\T 9=i64 j/\T 12=y/\T 13=i64 ns.length/\T 14=i64 i/\m=j) k
      ⟨k,zn _,a,⟨[],rfl,by simp only[go_sem];exact d⟩,by simp only[go_sem],by rw[show((k:Nat):Int)=jE z by omega];simp only[go_sem],by simp only[go_sem,g],by simp only[go_sem,o],by simp only[go_sem,f],rfl⟩ ?_
     clear a d g o f
     rintro m T E ⟨j,hj,a,⟨D,V,d⟩,t8,t9,g,o,f,rfl⟩
     simp only[go_sem,t9]
     refine ways (λS=>?_) (λS=>?_)
     ·have η:0<m:=by have:=of_decide_eq_true S;omega
      obtain⟨j,rfl⟩:∃j,m=j+1:=⟨m - 1,by omega⟩
      have w1:IntKind.wrap .i64 (((j+1:Nat):Int) - 1)=(j:Int):=(qp (n:=((j+1:Nat):Int) - 1) (by unfold Fit;omega)).trans (by omega)
      have w2:IntKind.wrap .i64 (8*(j:Int))=8*(j:Int):=qp (n:=8*(j:Int)) (by unfold Fit;omega)
      have w3:0<=8*(j:Int):=by omega
      have w4:(8*(j:Int)).toNat=8*j:=by omega
      have R:xC z k=(D++[Qs z j])++xC z j:=by rw[V,xC];simp
      have P:=congrArg List.length V
      rw[ze,wE,wE] at P
      have U:IntKind.wrap .u8 (z.fdiv (2 ^ min (8*j) 64))=Qs z j:=rfl
      have Q:(p.length+(D.length+1)+1)*2<=140737488355328:=by omega
      rcases d with⟨_,q⟩|⟨v,w,v1,t6,v3⟩
      ·simp at q
      ·have t:∀M,(E++M)[v]? =some (.row 5 1 ((p++[IntKind.wrap .u8 (jE z)]++D).map qX) w):=λM=>zf v3
       simp only[go_sem,t6,t8,t9,w1,w2,w3,w4,U,t,Q,zb]
       refine⟨j,by omega,j,by omega,(a.app (zG rfl)).set v1 rfl,⟨D++[Qs z j],R,.inr ⟨v,w+1,v1,rfl,?_⟩⟩,rfl,g,o,f,rfl⟩
       have e6:(p++IntKind.wrap .u8 (jE z)::(D++[Qs z j])).map qX=(p++IntKind.wrap .u8 (jE z)::D).map qX++[qX (Qs z j)]:=by simp
       rw[e6]
       exact zq (t _)
     ·have K:m=0:=by have:=of_decide_eq_false S;omega
      subst K
      have u:p++[IntKind.wrap .u8 (jE z)]++D=b++(ns.take (i+1)).flatMap jb:=by
       rw[A,List.flatMap_append, <-zp, <-G]
       have:D=xC z k:=by rw[V];simp[xC]
       rw[this,O]
       simp[jb]
      rw[u] at d
      simp only[go_sem,f]
      exact⟨ns.length - (i+1),by omega,i+1,by omega,by rw[A];unfold kJa at s ⊢;rw[List.any_append,s];simp[Y],a,d,g,o,qm (by omega) rfl,rfl⟩
    ·have hg:∀M,(h'++M)[id]? =some (.row 5 1 (p.map qX) st):=λM=>zf u3
     simp only[go_sem,t6,hg,W,zb]
     have a:Pre h ((h'++[Ob.row 5 1 [qX (IntKind.wrap .u8 (jE z))] 0]).set id (.row 5 1 (p.map qX++[qX (IntKind.wrap .u8 (jE z))]) (st+1))):=(c.app (zG rfl)).set u1 rfl
     have d:OwnS h ((h'++[Ob.row 5 1 [qX (IntKind.wrap .u8 (jE z))] 0]).set id (.row 5 1 (p.map qX++[qX (IntKind.wrap .u8 (jE z))]) (st+1))) 5 1 (.tl id (st+1)) ((p++[IntKind.wrap .u8 (jE z)]).map qX):= .inr ⟨id,st+1,u1,rfl,by rw[zy];exact zq (hg _)⟩
     have ρ:((jE z).toNat:Int)=jE z:=by omega
     obtain⟨k,O⟩:∃k,k=(jE z).toNat:=⟨_,rfl⟩
     have ι:k<=8:=by omega
     refine zP (by decide) (λm T E=>∃j:Nat,j<=k/\Pre h E/\(∃D,xC z k=D++xC z j/\OwnS h E 5 1 (T 6) ((p++[IntKind.wrap .u8 (jE z)]++D).map qX))/\T 8=i64 z/\T 9=i64 j/\T 12=y/\T 13=i64 ns.length/\T 14=i64 i/\m=j) k
      ⟨k,zn _,a,⟨[],rfl,by simp only[go_sem];exact d⟩,by simp only[go_sem],by rw[show((k:Nat):Int)=jE z by omega];simp only[go_sem],by simp only[go_sem,g],by simp only[go_sem,o],by simp only[go_sem,f],rfl⟩ ?_
     clear a d g o f
     rintro m T E ⟨j,hj,a,⟨D,V,d⟩,t8,t9,g,o,f,rfl⟩
     simp only[go_sem,t9]
     refine ways (λS=>?_) (λS=>?_)
     ·have η:0<m:=by have:=of_decide_eq_true S;omega
      obtain⟨j,rfl⟩:∃j,m=j+1:=⟨m - 1,by omega⟩
      have w1:IntKind.wrap .i64 (((j+1:Nat):Int) - 1)=(j:Int):=(qp (n:=((j+1:Nat):Int) - 1) (by unfold Fit;omega)).trans (by omega)
      have w2:IntKind.wrap .i64 (8*(j:Int))=8*(j:Int):=qp (n:=8*(j:Int)) (by unfold Fit;omega)
      have w3:0<=8*(j:Int):=by omega
      have w4:(8*(j:Int)).toNat=8*j:=by omega
      have R:xC z k=(D++[Qs z j])++xC z j:=by rw[V,xC];simp
      have P:=congrArg List.length V
      rw[ze,wE,wE] at P
      have U:IntKind.wrap .u8 (z.fdiv (2 ^ min (8*j) 64))=Qs z j:=rfl
      have Q:(p.length+(D.length+1)+1)*2<=140737488355328:=by omega
      rcases d with⟨_,q⟩|⟨v,w,v1,t6,v3⟩
      ·simp at q
      ·have t:∀M,(E++M)[v]? =some (.row 5 1 ((p++[IntKind.wrap .u8 (jE z)]++D).map qX) w):=λM=>zf v3
       simp only[go_sem,t6,t8,t9,w1,w2,w3,w4,U,t,Q,zb]
       refine⟨j,by omega,j,by omega,(a.app (zG rfl)).set v1 rfl,⟨D++[Qs z j],R,.inr ⟨v,w+1,v1,rfl,?_⟩⟩,rfl,g,o,f,rfl⟩
       have e6:(p++IntKind.wrap .u8 (jE z)::(D++[Qs z j])).map qX=(p++IntKind.wrap .u8 (jE z)::D).map qX++[qX (Qs z j)]:=by simp
       rw[e6]
       exact zq (t _)
     ·have K:m=0:=by have:=of_decide_eq_false S;omega
      subst K
      have u:p++[IntKind.wrap .u8 (jE z)]++D=b++(ns.take (i+1)).flatMap jb:=by
       rw[A,List.flatMap_append, <-zp, <-G]
       have:D=xC z k:=by rw[V];simp[xC]
       rw[this,O]
       simp[jb]
      rw[u] at d
      simp only[go_sem,f]
      exact⟨ns.length - (i+1),by omega,i+1,by omega,by rw[A];unfold kJa at s ⊢;rw[List.any_append,s];simp[Y],a,d,g,o,qm (by omega) rfl,rfl⟩
  ·have hge:=xb e
   have γ:i=ns.length:=by omega
   subst γ
   rw[zZ] at s J
   have hp:wQ b ns=(b++ns.flatMap jb,0):=by unfold wQ;rw[s];rfl
   rw[hp]
   simp only[go_sem]
   obtain⟨L,Z,hN⟩:=c
   rw[Z] at J
   exact⟨_,rfl,.inl ⟨L,_,Z,hN,rfl,J.new (zn _)⟩⟩
theorem q8b(h:List Ob)(x y:AV)(b ns:List Int)(a:SlOf h x 1 (b.map qX))(d:SlOf h y 1 (ns.map qB))(c:b.length<1073741824)(e:ns.length<1048576):
  ACalls Tryz.prog 24 [x,y] h λr h'=>r= .tup [.sl 1 ((wQ b ns).1.map qX),i64 (wQ b ns).2]/\h'=h:=
 XG (by decide) rfl (Zl _) (Y3a h x y b ns a d c e)
def Sb(z:AV)(b:List Int):Prop:=z= .sl 1 (b.map qX)∨z= .v (.slice none 0 0)/\b=[]
theorem Sb.sl{h:List Ob}{z:AV}{b:List Int}(k:Sb z b):SlOf h z 1 (b.map qX):=by
 rcases k with rfl|⟨rfl,rfl⟩
 ·exact⟨rfl,λ_=>rfl⟩
 ·exact⟨rfl,λh=>absurd rfl h⟩
theorem Sb.lt{n:Nat}{z:AV}{b:List Int}(k:Sb z b):z.lt n=true:=by
 rcases k with rfl|⟨rfl,rfl⟩
 ·exact Zl _
 ·rfl
def Zm(q:List Int × Bool)(n:Int):List Int × Bool:=(if q.2 && (wQ q.1 [n]).2==0 then(wQ q.1 [n]).1 else q.1,q.2 && (wQ q.1 [n]).2==0)
def xY(q:List Int × Bool)(ns:List Int):List Int × Bool:=ns.foldl Zm q
theorem kKa(q:List Int × Bool)(n:Int):(Zm q n).1.length<=q.1.length+9:=by
 have:=Q2 n
 have a:(wQ q.1 [n]).1.length<=q.1.length+9:=by
  unfold wQ
  split
  ·simp
  ·simp only[ze,List.flatMap_cons,List.flatMap_nil,zF];omega
 unfold Zm
 simp only
 split
 ·exact a
 ·omega
theorem JX:∀(ns:List Int) (q:List Int × Bool),(xY q ns).1.length<=q.1.length+9*ns.length
 | [],q=>by simp[xY]
 | n::ns,q=>by
   have b:=kKa q n
   have a:=JX ns (Zm q n)
   rw[xY,List.foldl_cons,List.length_cons]
   unfold xY at a
   omega
theorem Qua{q:List Int × Bool}{ns:List Int}{i:Nat}(h:i<ns.length):xY q (ns.take (i+1))=Zm (xY q (ns.take i)) ns[i]:=by
 unfold xY
 rw[show ns.take (i+1)=ns.take i++[ns[i]] from(zI h).symm,qY];rfl
def q9b(h:List Ob)(i:Nat)(p:AV)(n:Int):Prop:=∃id off ty cs,p= .ptr id off/\id≠i/\h[id]? =some (.box ty cs)/\off<cs.length/\nth cs off=i64 n
theorem xvb(h:List Ob)(i:Nat)(z:AV)(b:List Int)(ok:Bool)(x:AV)(d:List (AV × Int))(hi:h[i]? =some (.box 107 [z,bl ok]))(hz:Sb z b)(hx:SlOf h x 1 (d.map λp=>[p.1]))(hp:∀p∈d,q9b h i p.1 p.2)(hb:b.length<536870912)(hn:d.length<1048576):
  ACalls Tryz.prog 45 [.ptr i 0,x] h λr h'=>r= .tup []/\∃s,Sb s (xY (b,ok) (d.map (·.2))).1/\h'=h.set i (.box 107 [s,bl (xY (b,ok) (d.map (·.2))).2]):=by
 have hex:∃r h',(r=AV.tup []/\∃s,Sb s (xY (b,ok) (d.map (·.2))).1/\h'=h.set i (.box 107 [s,bl (xY (b,ok) (d.map (·.2))).2]))/\ResK h h':=
  ⟨_,_,⟨rfl,_,.inl rfl,rfl⟩,qj hi rfl⟩
 refine zj Tryz.f45 [] 46 rfl rfl rfl rfl rfl rfl (by decide) (hex) λB=>?_
 simp only[go_sem,hx.rows,zb]
 obtain⟨ns,v⟩:∃ns,ns=d.map (·.2):=⟨_,rfl⟩
 have γ:ns.length=d.length:=by rw[v];simp
 have O:=λj=>JX (ns.take j) (b,ok)
 rw[<-v]
 have I:=(zd.1 hi).1
 refine zP (by decide) (λm T h'=>∃(j:Nat) (s:AV) (L:List Ob),j<=d.length/\Sb s (xY (b,ok) (ns.take j)).1/\h'=h.set i (.box 107 [s,bl (xY (b,ok) (ns.take j)).2])++L/\NoRes L/\T 0= .ptr i 0/\T 8=x/\T 9=i64 d.length/\T 10=i64 j/\m=d.length - j) d.length
  ⟨0,z,[],by omega,hz,by rw[zF];exact(qM hi).symm,jf,by simp only[go_sem],by simp only[go_sem],by(simp only[go_sem]<;>rfl),by(simp only[go_sem]<;>rfl),rfl⟩ ?_
 rintro m T h' ⟨j,y,L,hj,f,rfl,W,t0,t8,t9,t10,rfl⟩
 simp only[go_sem,t9,t10]
 refine ways (λe=>?_) (λe=>?_)
 ·have w:=dlt e
  have t:(d.map λp=>[p.1])[j]? =some [d[j].1]:=by rw[zx,zi w];rfl
  have N:(j:Int)<d.length:=by omega
  have a:=Qua (q:=(b,ok)) (ns:=ns) (i:=j) (by omega)
  have U:ns[j]'(by omega)=d[j].2:=by simp[v]
  obtain⟨id,off,ty,cs,p1,p2,p3,p4,p5⟩:=hp d[j] (zD w)
  have E:=O j
  rw[U] at a
  obtain⟨n,V⟩:∃n,n=d[j].2:=⟨_,rfl⟩
  obtain⟨pt,S⟩:∃pt,pt=d[j].1:=⟨_,rfl⟩
  rw[<-V] at a p5
  rw[<-S] at t p1
  subst p1
  obtain⟨Q,hQ⟩:∃Q,Q=xY (b,ok) (ns.take j):=⟨_,rfl⟩
  rw[<-hQ] at a f E⊢
  have ζ:Q.1.length<1073741824:=by
   simp only[qa] at E
   omega
  obtain⟨H,C⟩:∃H,H=h.set i (.box 107 [y,bl Q.2])++L:=⟨_,rfl⟩
  have F:H[i]? =some (.box 107 [y,bl Q.2]):=by rw[C];exact zf (zo I)
  have α:H[id]? =some (.box ty cs):=by rw[C];exact zf (by rw[zc (Ne.symm p2)];exact p3)
  have D:SlOf H x 1 (d.map λp=>[p.1]):=by rw[C];exact(hx.keep (.setB hi)).app _
  have Z:∀o,H.set i o=h.set i o++L:=λo=>by rw[C,qb _ _ (by rw[zz];exact I),zU]
  rw[<-C]
  clear C
  have X:=D.rows
  have P:=D.at (i:=j) (by rw[zb];exact w)
  have c:∀M,(H++M)[i]? =some (.box 107 [y,bl Q.2]):=λM=>zf F
  have u:∀M,(H++M)[id]? =some (.box ty cs):=λM=>zf α
  have k:=(f.sl (h:=h)).one
  have g:=(f.sl (h:=h)).cells
  simp only[go_sem,t0,t8,t10,X,P,t,N,zb,Int.toNat_natCast,zh]
  refine zV rfl [.res] 1 [(0,0,[]),(1,0,[]),(2,0,[]),(4,0,[]),(5,0,[]),(3,0,[]),(6,0,[]),(7,0,[]),(8,0,[]),(9,0,[]),(10,0,[]),(11,0,[]),(12,0,[]),(13,0,[])] rfl (by decide) (by decide) ?_
  simp only[go_sem,t0,c,u,p4,p5,k,g]
  refine zg (q8b _ y _ Q.1 [n] f.sl ⟨by rw[qU,zM rfl];rfl,λ_=>by rw[jI,zM rfl];rfl⟩ (by omega) (by show 1<1048576;decide)) ?_
  rintro _ h3 ⟨rfl,e3⟩
  rw[e3]
  obtain⟨R,hR⟩:∃R,R=wQ Q.1 [n]:=⟨_,rfl⟩
  rw[<-hR]
  simp only[go_sem,t0,c,u,p4,p5,k,g]
  have G:Zm Q n=(if Q.2 && R.2==0 then R.1 else Q.1,Q.2 && R.2==0):=by rw[hR];rfl
  rw[G] at a
  have A:∀o M,((H++M).set i o)[i]? =some o:=λo M=>zq (c M)
  have l:∀o M,(H++M).set i o=h.set i o++(L++M):=λo M=>by
   rw[qb _ _ (by exact(zd.1 F).1),Z,zp]
  cases J:Q.2
  ·rw[J] at a c
   simp only[Bool.false_and,Bool.false_eq_true,if_false] at a
   simp only[go_sem,J,qD,t0,t10,c,A,k,g]
   exact⟨d.length - (j+1),by omega,j+1,y,L++[.row 3 1 [[i64 n]] 0],by omega,by rw[a];exact f,by rw[a];exact l _ _,W.app (zG rfl),t8,t9,qm (by omega) rfl,rfl⟩
  ·rw[J] at a c
   simp only[Bool.true_and] at a
   cases K:R.2==0
   ·rw[K] at a
    simp only[Bool.false_eq_true,if_false] at a
    simp only[go_sem,J,K,qD,t0,t10,c,A,k,g]
    exact⟨d.length - (j+1),by omega,j+1,y,L++[.row 3 1 [[i64 n]] 0],by omega,by rw[a];exact f,by rw[a];exact l _ _,W.app (zG rfl),t8,t9,qm (by omega) rfl,rfl⟩
   ·rw[K] at a
    simp only[if_true] at a
    simp only[go_sem,J,K,qD,t0,t10,c,A,k,g,zU]
    exact⟨d.length - (j+1),by omega,j+1,.sl 1 (R.1.map qX),L++[.row 3 1 [[i64 n]] 0],by omega,by rw[a];exact .inl rfl,by rw[a];exact l _ _,W.app (zG rfl),t8,t9,qm (by omega) rfl,rfl⟩
 ·have ο:=xb e
  have Y:j=d.length:=by omega
  subst Y
  rw[<-γ,zZ] at f⊢
  simp only[go_sem]
  exact⟨.tup [],rfl,.inr ⟨_,L,rfl,by rw[zz],rfl,KeepLt.set .refl rfl (by simp only[Kq,qz,f.lt,AV.lt,Bool.and_self]),rfl,y,f,rfl⟩⟩
structure Cm where
 kind:Int
 fx:Fx
 worker:Int
 week:Int
 last:Int
abbrev qG(s:Setup)(a:SA)(x c:AV)(err:Int)(rows segs bytes:AV)(q:Cm):List AV:=[i64 s.places,a.w,i64 s.pace.1,i64 s.pace.2,a.e,a.c,a.g,i64 s.allow,i64 s.unit,i64 s.cap,i64 s.paidBreak,i64 s.autoAfter,i64 s.autoBreak,
 i64 s.dayReg,i64 s.dayOver,i64 s.weekReg,i64 s.nightFrom,i64 s.nightTo,a.r,i64 s.diff,i64 s.least,i64 s.fault,a.t,x,c,i64 err,rows,segs,bytes,i64 q.kind,i64 q.fx.op,i64 q.fx.ev.id,i64 q.fx.ev.worker,i64 q.fx.ev.at_,i64 q.fx.ev.kind,i64 q.fx.ev.from_,i64 q.fx.ev.to_,i64 q.fx.ev.element,i64 q.fx.ev.units,i64 q.fx.ev.class_,i64 q.fx.ev.gear,i64 q.fx.ev.code,i64 q.worker,i64 q.week,i64 q.last]
def jM(err:Int)(c:Bool)(e:Int):Int:=if err==0 && !c then e else err
section
variable {h:List Ob} {d:Nat} {s:Setup} {a:SA} {x c:AV} {err:Int} {rows segs bytes:AV} {q:Cm}
theorem JY(g:h[d]? =some (.box 154 (qG s a x c err rows segs bytes q)))(b:Bool)(e:Int):
  ACalls Tryz.prog 162 [.ptr d 0,bl b,i64 e] h λr h'=>r=bl (jM err b e==0)/\h'=h.set d (.box 154 (qG s a x c (jM err b e) rows segs bytes q)):=by
 have j:∀o,(h.set d o)[d]? =some o:=λo=>zq g
 refine zj Tryz.f162 [.tmp 6] 28 rfl rfl rfl rfl rfl rfl (by decide) (⟨_,_,⟨rfl,rfl⟩,qj g rfl⟩) λB=>?_
 simp only[go_sem,g]
 cases f:err==0
 ·have i:jM err b e=err:=by unfold jM;rw[f];rfl
  rw[i]
  simp only[go_sem,f,qD,g]
  exact⟨bl (err==0),by simp only[go_sem,f],.inl ⟨by rw[f],(qM g).symm⟩⟩
 ·cases b
  ·have i:jM err false e=e:=by unfold jM;rw[f];rfl
   rw[i]
   simp only[go_sem,f,qD,g,j]
   exact⟨bl (e==0),by simp only[go_sem],.inl ⟨rfl,rfl⟩⟩
  ·have i:jM err true e=err:=by unfold jM;rw[f];rfl
   rw[i]
   simp only[go_sem,f,qD,g]
   exact⟨bl (err==0),by simp only[go_sem,f],.inl ⟨by rw[f],(qM g).symm⟩⟩
theorem WZ(e:h[d]? =some (.box 154 (qG s a x c err rows segs bytes q)))(l:List Int)(b:SlOf h c 1 (l.map qB))(f:l.length<1048576)(n:Int):
  ACalls Tryz.prog 163 [.ptr d 0,i64 n] h λr h'=>r=bl (l.any (n== ·))/\h'=h:=by
 refine zj Tryz.f163 [.tmp 4] 12 rfl rfl rfl rfl rfl rfl (by decide) (⟨_,_,⟨rfl,rfl⟩,.refl⟩) λB=>?_
 simp only[go_sem,e]
 refine zg (Qqa _ c l n b f) ?_
 rintro _ g ⟨rfl,rfl⟩
 simp only[go_sem]
 refine zm ?_<;>(simp only[go_sem]<;>try rfl)
def xZ(s:Setup)(q:Cm):Bool:=decide (q.worker≥0) && decide (q.worker<(s.rates.length:Int))
def JZ(q:Cm):Bool:=decide (q.week≥0) && decide (q.week<=52)
theorem yPa(e:h[d]? =some (.box 154 (qG s a x c err rows segs bytes q)))(k:SIn h s a):
  ACalls Tryz.prog 164 [.ptr d 0] h λr h'=>r=bl (xZ s q)/\h'=h:=by
 have f:=k.r.rows
 refine zj Tryz.f164 [.tmp 2] 24 rfl rfl rfl rfl rfl rfl (by decide) (⟨_,_,⟨rfl,rfl⟩,.refl⟩) λB=>?_
 simp only[go_sem]
 refine zV rfl [] 0 [(0,0,[]),(1,0,[]),(2,0,[]),(3,0,[]),(4,0,[]),(5,0,[]),(6,0,[]),(7,0,[]),(8,0,[]),(9,0,[]),(10,0,[]),(12,0,[]),(13,0,[]),(14,0,[]),(15,0,[]),(16,0,[]),(11,0,[]),(17,0,[]),(18,0,[]),(19,0,[]),(20,0,[]),(21,0,[])] rfl (by decide) (by decide) ?_
 simp only[go_sem,e]
 cases b:decide (q.worker≥0)
 ·simp only[go_sem,b,qD,e]
  refine zm ?_<;>(simp only[go_sem,xZ,b,Bool.false_and]<;>try rfl)
 ·simp only[go_sem,b,qD,e,f,zb]
  refine zm ?_<;>(simp only[go_sem,xZ,b,Bool.true_and]<;>try rfl)
theorem XKa(e:h[d]? =some (.box 154 (qG s a x c err rows segs bytes q))):
  ACalls Tryz.prog 165 [.ptr d 0] h λr h'=>r=bl (JZ q)/\h'=h:=by
 refine zj Tryz.f165 [.tmp 2] 17 rfl rfl rfl rfl rfl rfl (by decide) (⟨_,_,⟨rfl,rfl⟩,.refl⟩) λB=>?_
 simp only[go_sem,e]
 cases b:decide (q.week≥0)
 ·simp only[go_sem,b,qD,e]
  refine zm ?_<;>(simp only[go_sem,JZ,b,Bool.false_and]<;>try rfl)
 ·simp only[go_sem,b,qD,e]
  refine zm ?_<;>(simp only[go_sem,JZ,b,Bool.true_and]<;>try rfl)
end
def frA(s:Setup):SA:=⟨.sl 3 (s.ways.map XW),.sl 4 (s.elements.map XX),.sl 2 (s.classes.map jP),.sl 2 (s.gears.map jP),.sl 1 (s.rates.map qB),.sl 2 (s.tiers.map jP)⟩
theorem Q3{h:List Ob}(s:Setup):SIn h s (frA s):=⟨⟨rfl,λ_=>rfl⟩,⟨rfl,λ_=>rfl⟩,⟨rfl,λ_=>rfl⟩,⟨rfl,λ_=>rfl⟩,⟨rfl,λ_=>rfl⟩,⟨rfl,λ_=>rfl⟩⟩
theorem VSa(l:List Way):((l.map XW).all λr=>r.length==3 && r.all AV.one)=true:=by
 rw[zR];intro r a;obtain⟨s,_,rfl⟩:=zw.1 a;rfl
theorem VTa(l:List Elt):((l.map XX).all λr=>r.length==4 && r.all AV.one)=true:=by
 rw[zR];intro r a;obtain⟨s,_,rfl⟩:=zw.1 a;rfl
theorem jXa(l:List qt):((l.map jP).all λr=>r.length==2 && r.all AV.one)=true:=by
 rw[zR];intro r a;obtain⟨s,_,rfl⟩:=zw.1 a;rfl
theorem VUa(l:List Int):((l.map qB).all λr=>r.length==1 && r.all AV.one)=true:=by
 rw[zR];intro r a;obtain⟨s,_,rfl⟩:=zw.1 a;rfl
theorem Kf{n:Nat}:∀l:List Way,qQ n (l.map XW)=true
 | []=>rfl
 | s::l=>by rw[List.map_cons,qQ,Kf l];rfl
theorem Kg{n:Nat}:∀l:List Elt,qQ n (l.map XX)=true
 | []=>rfl
 | s::l=>by rw[List.map_cons,qQ,Kg l];rfl
theorem Q4{n:Nat}:∀l:List qt,qQ n (l.map jP)=true
 | []=>rfl
 | s::l=>by rw[List.map_cons,qQ,Q4 l];rfl
theorem Y4a{n:Nat}(s:Setup):(je s (frA s)).lt n=true:=by
 simp only[frA,AV.lt,qz,Kf,Kg,Q4,ZE,Bool.and_self]
structure SFew (s:Setup):Prop where
 w:s.ways.length<1099511627776
 e:s.elements.length<1099511627776
 c:s.classes.length<1099511627776
 g:s.gears.length<1099511627776
 r:s.rates.length<1099511627776
 t:s.tiers.length<1099511627776
theorem jab(h:List Ob)(s:Setup)(a:SA)(k:SIn h s a)(f:SFew s):
  ACalls Tryz.prog 76 [je s a] h λr h'=>r=je s (frA s)/\h'=h:=by
 refine zj Tryz.f76 [.cell 2 30] 28 rfl rfl rfl rfl rfl rfl (by decide) (⟨_,_,⟨rfl,rfl⟩,.refl⟩) λB=>?_
 simp only[go_sem,k.ones]
 refine zV rfl [] 0 [(0,0,[]),(3,0,[]),(6,0,[]),(1,0,[]),(4,0,[]),(7,0,[]),(2,0,[4,7]),(9,0,[]),(5,0,[7]),(8,0,[]),(10,0,[]),(11,0,[]),(12,0,[]),(13,0,[]),(14,0,[])] rfl (by decide) (by decide) ?_
 simp only[go_sem,k.ones]
 refine zg (wya _ a.w _ (k.app _).w (by rw[zb];exact f.w) (VSa _) (Kf _)) ?_
 rintro _ b ⟨rfl,rfl⟩
 simp only[go_sem,k.ones]
 refine zg (wza _ a.e _ (k.app _).e (by rw[zb];exact f.e) (VTa _) (Kg _)) ?_
 rintro _ b ⟨rfl,rfl⟩
 simp only[go_sem,k.ones]
 refine zg (zna _ a.c _ (k.app _).c (by rw[zb];exact f.c) (jXa _) (Q4 _)) ?_
 rintro _ b ⟨rfl,rfl⟩
 simp only[go_sem,k.ones]
 refine zV rfl [] 0 [(0,0,[]),(3,0,[]),(6,0,[]),(1,0,[]),(4,0,[]),(7,0,[]),(2,0,[4,7]),(9,0,[]),(5,0,[7]),(8,0,[]),(10,0,[]),(11,0,[]),(12,0,[]),(13,0,[]),(14,0,[])] rfl (by decide) (by decide) ?_
 simp only[go_sem,k.ones]
 refine zg (zna _ a.g _ (k.app _).g (by rw[zb];exact f.g) (jXa _) (Q4 _)) ?_
 rintro _ b ⟨rfl,rfl⟩
 simp only[go_sem,k.ones]
 refine zg (wAa _ a.r _ (k.app _).r (by rw[zb];exact f.r) (VUa _) (ZE _)) ?_
 rintro _ b ⟨rfl,rfl⟩
 simp only[go_sem,k.ones]
 refine zg (kFa _ a.t _ (k.app _).t (by rw[zb];exact f.t) (jXa _) (Q4 _)) ?_
 rintro _ b ⟨rfl,rfl⟩
 simp only[go_sem,k.ones]
 refine⟨je s (frA s),by simp only[go_sem];rfl,.inr ⟨h,_,rfl,rfl,Y4a s,.refl,rfl,rfl⟩⟩
abbrev wm(s:Setup)(a:SA)(x c:AV):List AV:=[i64 s.places,a.w,i64 s.pace.1,i64 s.pace.2,a.e,a.c,a.g,i64 s.allow,i64 s.unit,i64 s.cap,i64 s.paidBreak,i64 s.autoAfter,i64 s.autoBreak,
 i64 s.dayReg,i64 s.dayOver,i64 s.weekReg,i64 s.nightFrom,i64 s.nightTo,a.r,i64 s.diff,i64 s.least,i64 s.fault,a.t,x,c]
def kW:AV:= .v (.slice none 0 0)
def zS:Setup:=⟨0,[],(0,0),[],[],[],0,0,0,0,0,0,0,0,0,0,0,[],0,0,0,[]⟩
def zA:SA:=⟨kW,kW,kW,kW,kW,kW⟩
def Qva(s:Setup):AV:=if qv s then .tup [.ag (wm s (frA s) kW kW),i64 0] else .tup [.ag (wm zS zA kW kW),i64 70]
theorem Y5a{s:Setup}(h:qv s=true):SFew s:=by
 simp only[qv,yH,yI,wM,zl,decide_eq_true_eq] at h
 have d:∀a b c:Int,K9a a b c<=8->a<=8/\b<=8/\c<=8:=λa b c h=>by
  unfold K9a at h
  split at h<;>split at h<;>omega
 have d:=d _ _ _ h.1.1.2.2
 exact⟨by omega,by omega,by omega,by omega,by omega,by omega⟩
theorem xwb(h:List Ob)(s:Setup)(a:SA)(k:SIn h s a)(f:SFit s):
  ACalls Tryz.prog 26 [je s a] h λr h'=>r=Qva s/\h'=h:=by
 refine zj Tryz.f26 [.cell 2 63,.tmp 3] 11 rfl rfl rfl rfl rfl rfl (by decide) (⟨_,_,⟨rfl,rfl⟩,.refl⟩) λB=>?_
 simp only[go_sem,k.ones]
 refine zg (c16 _ s a (k.app _) f) ?_
 rintro _ d ⟨rfl,rfl⟩
 cases b:qv s
 ·have c:Qva s= .tup [.ag (wm zS zA kW kW),i64 70]:=by unfold Qva;rw[b];rfl
  simp only[go_sem,b,qD,Bool.not_false]
  refine⟨.tup [.ag (wm zS zA kW kW),i64 70],by simp only[go_sem];rfl,.inr ⟨h,_,rfl,rfl,rfl,.refl,c.symm,rfl⟩⟩
 ·have c:Qva s= .tup [.ag (wm s (frA s) kW kW),i64 0]:=by unfold Qva;rw[if_pos b]
  simp only[go_sem,b,qD,Bool.not_true,k.ones]
  refine zg (jab _ s a (k.app _) (Y5a b)) ?_
  rintro _ d ⟨rfl,rfl⟩
  simp only[go_sem,(Q3 (h:=h) s).ones]
  refine⟨.tup [.ag (wm s (frA s) kW kW),i64 0],by simp only[go_sem];rfl,.inr ⟨h,_,rfl,rfl,?_,.refl,c.symm,rfl⟩⟩
  simp only[frA,kW,AV.lt,qz,Kf,Kg,Q4,ZE,Bool.and_self]
theorem Qt(q:List Int × Bool)(a b:List Int):xY q (a++b)=xY (xY q a) b:=by unfold xY;rw[qY]
structure PnH (h:List Ob) (i:Nat) (Q:List Int × Bool) (H:List Ob):Prop where
 eq:∃z L,Sb z Q.1/\H=h.set i (.box 107 [z,bl Q.2])++L/\NoRes L
theorem PnH.app{h:List Ob}{i:Nat}{Q:List Int × Bool}{H:List Ob}(k:PnH h i Q H){M:List Ob}(a:NoRes M):PnH h i Q (H++M):=by
 obtain⟨z,L,k1,k2,k3⟩:=k.eq
 exact⟨z,L++M,k1,by rw[k2,zp],k3.app a⟩
theorem PnH.get{h:List Ob}{i:Nat}{Q:List Int × Bool}{H:List Ob}(k:PnH h i Q H){m:Nat}{o:Ob}(a:m≠i)(b:h[m]? =some o):H[m]? =some o:=by
 obtain⟨z,L,k1,k2,k3⟩:=k.eq
 rw[k2]
 exact zf (by rw[zc (Ne.symm a)];exact b)
theorem zra{h H:List Ob}{i:Nat}{Q:List Int × Bool}(k:PnH h i Q H)(b:i<h.length)(x:AV)(a:List (AV × Int))(n:SlOf H x 1 (a.map λp=>[p.1]))(d:∀p∈a,q9b H i p.1 p.2)(f:Q.1.length<536870912)(q:a.length<1048576):
  ACalls Tryz.prog 45 [.ptr i 0,x] H λr h'=>r= .tup []/\PnH h i (xY Q (a.map (·.2))) h'/\∀m o,m≠i->H[m]? =some o->h'[m]? =some o:=by
 obtain⟨z,L,k1,k2,k3⟩:=k.eq
 have c:H[i]? =some (.box 107 [z,bl Q.2]):=by rw[k2];exact zf (zo b)
 refine(xvb H i z Q.1 Q.2 x a c k1 n d f q).mono ?_
 rintro r h' ⟨rfl,e,j,rfl⟩
 refine⟨rfl,⟨e,L,j,?_,k3⟩,λm o l g=>by rw[zc (Ne.symm l)];exact g⟩
 rw[k2,qb _ _ (by rw[zz];exact b),zU]
def Q5(R:RowV):List Int:=[R.tot 0,R.tot 1,R.tot 2,R.tot 3,R.tot 4,R.tot 5,R.tot 6]
def Z3(R:RowV):List Int:=[R.pays 0,R.pays 1,R.pays 2,R.pays 3,R.pays 4,R.pays 5,R.pays 6]
def j8(R:RowV):List Int:=[R.worker,R.week,R.err]++Q5 R++Z3 R++[R.earned.1,R.earned.2,R.perf.1,R.perf.2,R.elig,wr (R.tier+1),R.extra,R.supp,R.total]
theorem Y6a(R:RowV)(a:AV){k:Nat}(b:k<7):nth (xO R a) (3+k)=i64 (R.tot k)/\(Q5 R)[k]? =some (R.tot k):=by
 have:k=0∨k=1∨k=2∨k=3∨k=4∨k=5∨k=6:=by omega
 rcases this with rfl|rfl|rfl|rfl|rfl|rfl|rfl<;>exact⟨rfl,rfl⟩
theorem VVa(R:RowV)(a:AV){k:Nat}(b:k<7):nth (xO R a) (10+k)=i64 (R.pays k)/\(Z3 R)[k]? =some (R.pays k):=by
 have:k=0∨k=1∨k=2∨k=3∨k=4∨k=5∨k=6:=by omega
 rcases this with rfl|rfl|rfl|rfl|rfl|rfl|rfl<;>exact⟨rfl,rfl⟩
theorem q0a{l:List Int}{k:Nat}{n:Int}(h:l[k]? =some n):l.take (k+1)=l.take k++[n]:=by
 obtain⟨b,a⟩:=zd.1 h
 rw[<-a];exact(zI b).symm
theorem VWa{n:Int}(h:Fit n):wr (wr (n+1) - 1)=n:=by
 by_cases e:n=9223372036854775807
 ·subst e
  decide
 ·have a:Fit (n+1):=by unfold Fit at *; omega
  rw[qp a]
  exact(qp (n:=n+1 - 1) (by unfold Fit at *; omega)).trans (by omega)
theorem Y7a(h:List Ob)(i j:Nat)(z:AV)(Q:List Int × Bool)(R:RowV)(G:AV)(a:j≠i)(hi:h[i]? =some (.box 107 [z,bl Q.2]))(U:Sb z Q.1)(y:h[j]? =some (.box 45 (xO R G)))(X:Fit R.tier)(O:AV.one G=true)(hQ:Q.1.length<268435456):
  ACalls Tryz.prog 49 [.ptr j 0,.fn (.func 45) [.ptr i 0] []] h λr h'=>r= .tup []/\PnH h i (xY Q (j8 R)) h':=by
 have q:=(zd.1 hi).1
 have hex:∃r h',(r=AV.tup []/\PnH h i (xY Q (j8 R)) h')/\ResK h h':=
  ⟨_,h.set i (.box 107 [.sl 1 ((xY Q (j8 R)).1.map qX),bl (xY Q (j8 R)).2]),⟨rfl,_,[],.inl rfl,by simp,jf⟩,qj hi rfl⟩
 have base:PnH h i Q h:=⟨z,[],U,by rw[zF];exact(qM hi).symm,jf⟩
 have v:=λns=>JX ns Q
 refine zj Tryz.f49 [] 90 rfl rfl rfl rfl rfl rfl (by decide) (hex) λB=>?_
 simp only[go_sem,y]
 refine zV rfl [.res] 1 [(0,0,[]),(1,0,[]),(2,0,[]),(3,0,[]),(4,0,[]),(5,0,[]),(6,0,[]),(7,0,[]),(8,0,[])] rfl (by decide) (by decide) ?_
 simp only[go_sem]
 have k0:=base.app (M:=[.box 3 [i64 R.err],.row 109 1 [[.ptr j 0],[.ptr j 1],[.ptr h.length 0]] 0]) (zr rfl (zG rfl))
 have o:=k0.get a y
 have x:(h++[Ob.box 3 [i64 R.err],.row 109 1 [[.ptr j 0],[.ptr j 1],[.ptr h.length 0]] 0])[h.length]? =some (.box 3 [i64 R.err]):=by rw[zM rfl];rfl
 refine zg (zra k0 q (.tl (h.length+1) 0) [(.ptr j 0,R.worker),(.ptr j 1,R.week),(.ptr h.length 0,R.err)] ⟨by rw[qU,zK (k:=1) rfl];rfl,λ_=>by rw[jI,zK (k:=1) rfl];rfl⟩ (λp d=>by
  rcases zE.1 d with rfl|d
  ·exact⟨j,0,_,_,rfl,a,o,by show 0<27;decide,rfl⟩
  rcases zE.1 d with rfl|d
  ·exact⟨j,1,_,_,rfl,a,o,by show 1<27;decide,rfl⟩
  rw[zN] at d
  subst d
  exact⟨h.length,0,_,_,rfl,by omega,x,by show 0<1;decide,rfl⟩) (by omega) (by show 3<1048576;decide)) ?_
 rintro _ Y ⟨rfl,k1,I⟩
 have b:=I j _ a o
 have C:=I h.length _ (by omega) x
 simp only[go_sem,b,C]
 rw[qM b]
 refine zP (by decide) (λm T H=>∃n:Nat,n<=7/\PnH h i (xY Q ([R.worker,R.week,R.err]++(Q5 R).take n)) H/\T 0= .ptr j 0/\T 1= .fn (.func 45) [.ptr i 0] []/\T 25=i64 n/\m=7 - n) 7
  ⟨0,by omega,k1,by simp only[go_sem],by simp only[go_sem],by(simp only[go_sem]<;>rfl),rfl⟩ ?_
 clear k0 k1 o b x C I
 rintro m T H ⟨n,V,l,t0,t1,t25,rfl⟩
 simp only[go_sem,t25]
 refine ways (λe=>?_) (λe=>?_)
 ·have w:(n:Int)<7:=of_decide_eq_true e
  have c:n<7:=by omega
  have g:=l.get a y
  obtain⟨N,K⟩:=Y6a R G c
  simp only[go_sem,t0,t1,t25,w,c,Nat.mul_one,Int.toNat_natCast,zh]
  have f:=l.app (M:=[.row 109 1 [[.ptr j (3+n)]] 0]) (zG rfl)
  have A:=v ([R.worker,R.week,R.err]++(Q5 R).take n)
  have s:([R.worker,R.week,R.err]++(Q5 R).take n).length<=10:=by simp[Q5];omega
  refine zg (zra f q (.tl H.length 0) [(.ptr j (3+n),R.tot n)] ⟨by rw[qU,zM rfl];rfl,λ_=>by rw[jI,zM rfl];rfl⟩ (λp d=>by
   rw[zN] at d
   subst d
   exact⟨j,3+n,_,_,rfl,a,zf g,by show 3+n<27;omega,N⟩) (by omega) (by show 1<1048576;decide)) ?_
  rintro _ H2 ⟨rfl,k2,F⟩
  rw[<-Qt] at k2
  simp only[go_sem,t25]
  exact⟨7 - (n+1),by omega,n+1,by omega,by rw[q0a K];simpa using k2,t0,t1,qm (by omega) rfl,rfl⟩
 ·have L:¬ (n:Int)<7:=of_decide_eq_false e
  have u:n=7:=by omega
  subst u
  simp only[go_sem]
  refine zP (by decide) (λm T H=>∃n:Nat,n<=7/\PnH h i (xY Q ([R.worker,R.week,R.err]++Q5 R++(Z3 R).take n)) H/\T 0= .ptr j 0/\T 1= .fn (.func 45) [.ptr i 0] []/\T 37=i64 n/\m=7 - n) 7
   ⟨0,by omega,by simpa [Q5] using l,by simp only[go_sem,t0],by simp only[go_sem,t1],by(simp only[go_sem]<;>rfl),rfl⟩ ?_
  clear l t0 t1 t25
  rintro m T H ⟨n,V,l,t0,t1,t,rfl⟩
  simp only[go_sem,t]
  refine ways (λe=>?_) (λe=>?_)
  ·have w:(n:Int)<7:=of_decide_eq_true e
   have c:n<7:=by omega
   have g:=l.get a y
   obtain⟨N,K⟩:=VVa R G c
   simp only[go_sem,t0,t1,t,w,c,Nat.mul_one,Int.toNat_natCast,zh]
   have f:=l.app (M:=[.row 109 1 [[.ptr j (10+n)]] 0]) (zG rfl)
   have A:=v ([R.worker,R.week,R.err]++Q5 R++(Z3 R).take n)
   have s:([R.worker,R.week,R.err]++Q5 R++(Z3 R).take n).length<=17:=by simp[Q5,Z3];omega
   refine zg (zra f q (.tl H.length 0) [(.ptr j (10+n),R.pays n)] ⟨by rw[qU,zM rfl];rfl,λ_=>by rw[jI,zM rfl];rfl⟩ (λp d=>by
    rw[zN] at d
    subst d
    exact⟨j,10+n,_,_,rfl,a,zf g,by show 10+n<27;omega,N⟩) (by omega) (by show 1<1048576;decide)) ?_
   rintro _ H2 ⟨rfl,k2,F⟩
   rw[<-Qt] at k2
   simp only[go_sem,t]
   exact⟨7 - (n+1),by omega,n+1,by omega,by rw[q0a K];simpa using k2,t0,t1,qm (by omega) rfl,rfl⟩
  ·have L:¬ (n:Int)<7:=of_decide_eq_false e
   have u:n=7:=by omega
   subst u
   have g:=l.get a y
   simp only[go_sem,t0,g]
   refine zV rfl [.res] 1 [(0,0,[]),(1,0,[]),(2,0,[]),(3,0,[]),(4,0,[]),(5,0,[]),(6,0,[]),(7,0,[]),(8,0,[]),(9,0,[]),(10,0,[]),(11,0,[]),(12,0,[]),(13,0,[]),(14,0,[]),(15,0,[]),(16,0,[]),(17,0,[]),(18,0,[]),(19,0,[]),(20,0,[]),(21,0,[]),(22,0,[]),(23,0,[]),(24,0,[]),(25,0,[]),(26,0,[]),(27,0,[]),(28,0,[]),(29,0,[]),(30,0,[])] rfl (by decide) (by decide) ?_
   simp only[go_sem,t0,t1]
   have f:=l.app (M:=[.box 3 [i64 (wr (R.tier+1))],.row 109 1 [[.ptr j 17],[.ptr j 18],[.ptr j 19],[.ptr j 20],[.ptr j 21],[.ptr H.length 0],[.ptr j 23],[.ptr j 24],[.ptr j 25]] 0]) (zr rfl (zG rfl))
   have P:i<H.length:=by
    obtain⟨z0,Z,_,W,_⟩:=l.eq
    rw[W,ze,zz];omega
   have b:=f.get a y
   have E:(H++[Ob.box 3 [i64 (wr (R.tier+1))],.row 109 1 [[.ptr j 17],[.ptr j 18],[.ptr j 19],[.ptr j 20],[.ptr j 21],[.ptr H.length 0],[.ptr j 23],[.ptr j 24],[.ptr j 25]] 0])[H.length]? =some (.box 3 [i64 (wr (R.tier+1))]):=by rw[zM rfl];rfl
   have A:=v ([R.worker,R.week,R.err]++Q5 R++(Z3 R).take 7)
   have s:([R.worker,R.week,R.err]++Q5 R++(Z3 R).take 7).length<=17:=by simp[Q5,Z3]
   refine zg (zra f q (.tl (H.length+1) 0) [(.ptr j 17,R.earned.1),(.ptr j 18,R.earned.2),(.ptr j 19,R.perf.1),(.ptr j 20,R.perf.2),(.ptr j 21,R.elig),(.ptr H.length 0,wr (R.tier+1)),(.ptr j 23,R.extra),(.ptr j 24,R.supp),(.ptr j 25,R.total)]
    ⟨by rw[qU,zK (k:=1) rfl];rfl,λ_=>by rw[jI,zK (k:=1) rfl];rfl⟩ (λp d=>by
    simp only[zE,List.not_mem_nil,or_false] at d
    rcases d with rfl|rfl|rfl|rfl|rfl|rfl|rfl|rfl|rfl
    ·exact⟨j,17,_,_,rfl,a,b,by show 17<27;decide,rfl⟩
    ·exact⟨j,18,_,_,rfl,a,b,by show 18<27;decide,rfl⟩
    ·exact⟨j,19,_,_,rfl,a,b,by show 19<27;decide,rfl⟩
    ·exact⟨j,20,_,_,rfl,a,b,by show 20<27;decide,rfl⟩
    ·exact⟨j,21,_,_,rfl,a,b,by show 21<27;decide,rfl⟩
    ·exact⟨H.length,0,_,_,rfl,by omega,E,by show 0<1;decide,rfl⟩
    ·exact⟨j,23,_,_,rfl,a,b,by show 23<27;decide,rfl⟩
    ·exact⟨j,24,_,_,rfl,a,b,by show 24<27;decide,rfl⟩
    ·exact⟨j,25,_,_,rfl,a,b,by show 25<27;decide,rfl⟩) (by omega) (by show 9<1048576;decide)) ?_
   rintro _ H2 ⟨rfl,k2,F⟩
   have D:=F j _ a b
   have J:=F H.length _ (by omega) E
   have S:IntKind.wrap .i64 (wr (R.tier+1) - 1)=R.tier:=VWa X
   rw[<-Qt] at k2
   simp only[go_sem,t0,D,J,S]
   rw[qM D]
   exact⟨_,rfl,.inl ⟨rfl,by simpa [j8,Z3,Q5] using k2⟩⟩
theorem PnH.base{h M:List Ob}{i:Nat}{Q:List Int × Bool}{H:List Ob}(k:PnH (h++M) i Q H)(hi:i<h.length)(a:NoRes M):PnH h i Q H:=by
 obtain⟨z,L,k1,k2,k3⟩:=k.eq
 exact⟨z,M++L,k1,by rw[k2,qb _ _ hi,zp],a.app k3⟩
theorem PnH.sl{h:List Ob}{i:Nat}{Q:List Int × Bool}{H:List Ob}(k:PnH h i Q H){t:TypeId}{cs:List AV}(hi:h[i]? =some (.box t cs)){x:AV}{e:Nat}{rows:List (List AV)}(a:SlOf h x e rows):SlOf H x e rows:=by
 obtain⟨z,L,k1,k2,k3⟩:=k.eq
 rw[k2]
 exact(a.keep (.setB hi)).app _
def wo(F:List Flg):List Int:=F.flatMap λf=>[f.id,f.kind]
theorem Xo:∀F:List Flg,(wo F).length=2*F.length
 | []=>rfl
 | f::F=>by
   have:=Xo F
   unfold wo at*
   rw[List.flatMap_cons,ze,List.length_cons,this];simp;omega
theorem wDa{F:List Flg}{n:Nat}(h:n<F.length):wo (F.take (n+1))=wo (F.take n)++[(F[n]).id,(F[n]).kind]:=by
 unfold wo
 rw[show F.take (n+1)=F.take n++[F[n]] from(zI h).symm,List.flatMap_append];simp
def jq(R:RowV)(F:List Flg):List Int:=j8 R++[(F.length:Int)]++wo F
theorem ZM(R:RowV):(j8 R).length=26:=rfl
theorem yQa(h:List Ob)(i:Nat)(z:AV)(Q:List Int × Bool)(R:RowV)(c:AV)(F:List Flg)(hi:h[i]? =some (.box 107 [z,bl Q.2]))(hz:Sb z Q.1)(ht:Fit R.tier)(N:SlOf h c 2 (F.map xy))(hQ:Q.1.length<134217728)(η:F.length<524288):
  ACalls Tryz.prog 46 [.ptr i 0,.ag (xO R c)] h λr h'=>r= .tup []/\PnH h i (xY Q (jq R F)) h':=by
 have d:=(zd.1 hi).1
 have s:=N.one
 have hex:∃r h',(r=AV.tup []/\PnH h i (xY Q (jq R F)) h')/\ResK h h':=
  ⟨_,h.set i (.box 107 [.sl 1 ((xY Q (jq R F)).1.map qX),bl (xY Q (jq R F)).2]),⟨rfl,_,[],.inl rfl,by simp,jf⟩,qj hi rfl⟩
 have t:=λns=>JX ns Q
 refine zj Tryz.f46 [] 29 rfl rfl rfl rfl rfl rfl (by decide) (hex) λB=>?_
 simp only[go_sem,s]
 have X:(h++[Ob.box 45 (xO R c)])[i]? =some (.box 107 [z,bl Q.2]):=zf hi
 have L:(h++[Ob.box 45 (xO R c)])[h.length]? =some (.box 45 (xO R c)):=by rw[zM rfl];rfl
 have j:h.length≠i:=by omega
 refine zg (Y7a _ i h.length z Q R c j X hz L ht s (by omega)) ?_
 rintro _ a ⟨rfl,k1⟩
 have q:=k1.get j L
 have E:z6 a c=some (F.map xy):=by
  obtain⟨z0,Z,_,K,_⟩:=k1.eq
  rw[K,qb _ _ d,zp]
  exact((N.keep (.setB hi)).app _).rows
 simp only[go_sem,q,E,zb]
 have U:=k1.base d (zG rfl)
 have v:=U.app (M:=[.box 3 [i64 F.length],.row 109 1 [[.ptr a.length 0]] 0]) (zr rfl (zG rfl))
 have x:=t (j8 R)
 rw[ZM] at x
 have δ:i<a.length:=by
  obtain⟨z0,Z,_,K,_⟩:=U.eq
  rw[K,ze,zz];omega
 have b:(a++[Ob.box 3 [i64 F.length],.row 109 1 [[.ptr a.length 0]] 0])[a.length]? =some (.box 3 [i64 F.length]):=by rw[zM rfl];rfl
 have w:(a++[Ob.box 3 [i64 F.length],.row 109 1 [[.ptr a.length 0]] 0])[h.length]? =some (.box 45 (xO R c)):=zf q
 refine zg (zra v d (.tl (a.length+1) 0) [(.ptr a.length 0,(F.length:Int))] ⟨by rw[qU,zK (k:=1) rfl];rfl,λ_=>by rw[jI,zK (k:=1) rfl];rfl⟩ (λp A=>by
  rw[zN] at A
  subst A
  exact⟨a.length,0,_,_,rfl,by omega,b,by show 0<1;decide,rfl⟩) (by omega) (by show 1<1048576;decide)) ?_
 rintro _ H2 ⟨rfl,k2,g2⟩
 rw[<-Qt] at k2
 have G:=g2 h.length _ j w
 have u:=(k2.sl hi N).rows
 simp only[go_sem,G,u,zb]
 refine zP (by decide) (λm T H=>∃n:Nat,n<=F.length/\PnH h i (xY Q (j8 R++[(F.length:Int)]++wo (F.take n))) H/\T 0= .ptr i 0/\T 17=c/\T 18=i64 F.length/\T 19=i64 n/\m=F.length - n) F.length
  ⟨0,by omega,by simpa [wo] using k2,by simp only[go_sem],by simp only[go_sem],by(simp only[go_sem]<;>rfl),by(simp only[go_sem]<;>rfl),rfl⟩ ?_
 clear k1 k2 U v q w G u E b g2
 rintro m T H ⟨n,hn,y,t0,D,C,l,rfl⟩
 simp only[go_sem,C,l]
 refine ways (λe=>?_) (λe=>?_)
 ·have o:=dlt e
  have f:=yLa o
  have P:(n:Int)<F.length:=by omega
  have I:=y.sl hi N
  have W:=I.at (i:=n) (by rw[zb];exact o)
  have V:=I.rows
  have J:=wDa o
  obtain⟨g,hg⟩:∃g,g=F[n]:=⟨_,rfl⟩
  rw[<-hg] at f J
  simp only[go_sem,t0,D,l,W,V,f,P,zb,Int.toNat_natCast,zh]
  have β:i<H.length:=by
   obtain⟨z0,Z,_,K,_⟩:=y.eq
   rw[K,ze,zz];omega
  have O:=y.app (M:=[.box 105 [i64 g.id,i64 g.kind],.row 109 1 [[.ptr H.length 0],[.ptr H.length 1]] 0]) (zr rfl (zG rfl))
  have b:(H++[Ob.box 105 [i64 g.id,i64 g.kind],.row 109 1 [[.ptr H.length 0],[.ptr H.length 1]] 0])[H.length]? =some (.box 105 [i64 g.id,i64 g.kind]):=by rw[zM rfl];rfl
  have x:=t (j8 R++[(F.length:Int)]++wo (F.take n))
  have Y:(j8 R++[(F.length:Int)]++wo (F.take n)).length<=27+2*F.length:=by
   rw[ze,ze,ZM,Xo,qa]
   show 26+1+_<=_
   omega
  refine zg (zra O d (.tl (H.length+1) 0) [(.ptr H.length 0,g.id),(.ptr H.length 1,g.kind)] ⟨by rw[qU,zK (k:=1) rfl];rfl,λ_=>by rw[jI,zK (k:=1) rfl];rfl⟩ (λp A=>by
   simp only[zE,List.not_mem_nil,or_false] at A
   rcases A with rfl|rfl
   ·exact⟨H.length,0,_,_,rfl,by omega,b,by show 0<2;decide,rfl⟩
   ·exact⟨H.length,1,_,_,rfl,by omega,b,by show 1<2;decide,rfl⟩) (by omega) (by show 2<1048576;decide)) ?_
  rintro _ H3 ⟨rfl,k3,g3⟩
  rw[<-Qt] at k3
  simp only[go_sem,l]
  exact⟨F.length - (n+1),by omega,n+1,by omega,by rw[J];simpa using k3,t0,D,C,qm (by omega) rfl,rfl⟩
 ·have ζ:=xb e
  have S:n=F.length:=by omega
  subst S
  rw[zZ] at y
  simp only[go_sem]
  exact⟨_,rfl,.inl ⟨rfl,y⟩⟩
def kC(R:RowV)(F:List Flg):Bool:= !(decide (R.err>100000) || decide ((F.length:Int)>200)) && (xY ([],true) (jq R F)).2
theorem yRa(h:List Ob)(R:RowV)(a:AV)(F:List Flg)(l:Fit R.tier)(e:SlOf h a 2 (F.map xy)):
  ACalls Tryz.prog 19 [.ag (xO R a)] h λr h'=>r=bl (kC R F)/\h'=h:=by
 have f:=e.one
 have d:∀M,z6 (h++M) a=some (F.map xy):=λM=>(e.app M).rows
 refine zj Tryz.f19 [.tmp 2] 18 rfl rfl rfl rfl rfl rfl (by decide) (⟨_,_,⟨rfl,rfl⟩,.refl⟩) λB=>?_
 simp only[go_sem,f]
 cases b:decide (R.err>100000)
 ·cases c:decide ((F.length:Int)>200)
  ·simp only[go_sem,b,c,qD,d,zb]
   have hi:(h++[Ob.box 45 (xO R a),.box 107 [.v (.slice none 0 0),bl true]])[h.length+1]? =some (.box 107 [.v (.slice none 0 0),bl true]):=by rw[zK (k:=1) rfl];rfl
   refine zg (yQa _ (h.length+1) (.v (.slice none 0 0)) ([],true) R a F hi (.inr ⟨rfl,rfl⟩) l (e.app _) (by decide) (by have:=of_decide_eq_false c;omega)) ?_
   rintro _ i ⟨rfl,k1⟩
   obtain⟨z,L,m,g,z3⟩:=k1.eq
   have j:i[h.length+1]? =some (.box 107 [z,bl (xY ([],true) (jq R F)).2]):=by rw[g];exact zf (zo (by simp))
   simp only[go_sem,j]
   refine⟨bl (xY ([],true) (jq R F)).2,by simp only[go_sem],.inr ⟨h,[.box 45 (xO R a),.box 107 [z,bl (xY ([],true) (jq R F)).2]]++L,?_,rfl,rfl,.refl,?_,rfl⟩⟩
   ·rw[g,zL _ _ (by omega),show h.length+1 - h.length=1 by omega,zp];rfl
   ·unfold kC;rw[b,c];rfl
  ·simp only[go_sem,b,c,qD,d,zb]
   refine zm ?_<;>(simp only[go_sem,kC,b,c,Bool.or_true,Bool.not_true,Bool.false_and]<;>try rfl)
 ·simp only[go_sem,b,qD]
  refine zm ?_<;>(simp only[go_sem,kC,b,Bool.true_or,Bool.not_true,Bool.false_and]<;>try rfl)
theorem Y8a(h:List Ob)(R:RowV)(a:AV)(F:List Flg)(c:Fit R.tier)(b:SlOf h a 2 (F.map xy))(d:F.length<524288):
  ACalls Tryz.prog 19 [.ag (xO R a)] h λr h'=>r=bl (kC R F)/\h'=h:=
 yRa h R a F c b
def xr(W:List (RowV × List Flg)):List Int:=W.flatMap λq=>jq q.1 q.2
def okW(W:List (RowV × List Flg)):Bool:=W.all λq=>kC q.1 q.2
def jZ(W:List (RowV × List Flg)):List Int × Int:=if okW W then((xY ([],true) ([(W.length:Int)]++xr W)).1,0) else([],200)
abbrev RwA:=RowV × AV × List Flg
def kF(W:List RwA):List (RowV × List Flg):=W.map λq=>(q.1,q.2.2)
theorem VS:∀W:List (RowV × List Flg),okW W=true->(xr W).length<=427*W.length
 | [],_=>by simp[xr]
 | q::W,h=>by
   unfold okW at h
   rw[List.all_cons,zl] at h
   have c:=VS W h.2
   have b:(jq q.1 q.2).length<=427:=by
    have a:=h.1
    unfold kC at a
    simp only[zl,Bool.not_eq_true',zY,decide_eq_false_iff_not] at a
    unfold jq
    rw[ze,ze,ZM,Xo]
    show 26+1+_<=_
    omega
   unfold xr at*
   rw[List.flatMap_cons,ze,List.length_cons]
   omega
theorem PnH.trans{h H d:List Ob}{i:Nat}{Q Q':List Int × Bool}(k:PnH h i Q H)(k':PnH H i Q' d)(hi:i<h.length):PnH h i Q' d:=by
 obtain⟨z,L,k1,k2,k3⟩:=k.eq
 obtain⟨e,f,c,b,a⟩:=k'.eq
 exact⟨e,L++f,c,by rw[b,k2,qb _ _ (by rw[zz];exact hi),zU,zp],k3.app a⟩
theorem wEa{W:List RwA}{n:Nat}(h:n<W.length):kF (W.take (n+1))=kF (W.take n)++[((W[n]).1,(W[n]).2.2)]:=by
 unfold kF
 rw[show W.take (n+1)=W.take n++[W[n]] from(zI h).symm,zy];rfl
theorem PnH.over{h b H:List Ob}{o:Ob}{Q:List Int × Bool}(a:b=h++[o])(k:PnH b h.length Q H):∃L,H=h++L:=by
 obtain⟨z,L,k1,k2,k3⟩:=k.eq
 subst a
 refine⟨[.box 107 [z,bl Q.2]]++L,?_⟩
 rw[k2,zL _ _ (zn _),Nat.sub_self,zp]
 rfl
theorem VXa(h:List Ob)(x:AV)(W:List RwA)(hx:SlOf h x 27 (W.map λq=>xO q.1 q.2.1))(hF:∀q∈W,SlOf h q.2.1 2 (q.2.2.map xy)/\Fit q.1.tier/\q.2.2.length<524288)(hl:W.length<4096):
  ACalls Tryz.prog 15 [x] h λr h'=>(∃z,Sb z (jZ (kF W)).1/\r= .tup [z,i64 (jZ (kF W)).2])/\h'=h:=by
 have hex:∃r h',((∃z,Sb z (jZ (kF W)).1/\r=AV.tup [z,i64 (jZ (kF W)).2])/\h'=h)/\ResK h h':=⟨_,_,⟨⟨_,.inl rfl,rfl⟩,rfl⟩,.refl⟩
 have ξ:=hx.rows
 have γ:∀M,z6 (h++M) x=some (W.map λq=>xO q.1 q.2.1):=λM=>(hx.app M).rows
 refine zj Tryz.f15 [.tmp 2,.tmp 3] 27 rfl rfl rfl rfl rfl rfl (by decide) (hex) λB=>?_
 simp only[go_sem,γ,zb]
 obtain⟨j,a⟩:∃j,j=h++[Ob.box 107 [.v (.slice none 0 0),bl true]]:=⟨_,rfl⟩
 have hi:j[h.length]? =some (.box 107 [.v (.slice none 0 0),bl true]):=by rw[a,zM rfl];rfl
 have s:h.length<j.length:=by rw[a];simp
 have base:PnH j h.length ([],true) j:=⟨_,[],.inr ⟨rfl,rfl⟩,by rw[zF];exact(qM hi).symm,jf⟩
 have y:=base.app (M:=[.box 3 [i64 W.length],.row 109 1 [[.ptr (h.length+1) 0]] 0]) (zr rfl (zG rfl))
 have hE:j++[Ob.box 3 [i64 W.length],.row 109 1 [[.ptr (h.length+1) 0]] 0]=h++[Ob.box 107 [.v (.slice none 0 0),bl true],.box 3 [i64 W.length],.row 109 1 [[.ptr (h.length+1) 0]] 0]:=by rw[a];simp
 rw[hE] at y
 refine zg (zra y s (.tl (h.length+2) 0) [(.ptr (h.length+1) 0,(W.length:Int))] ⟨by rw[qU,zK (k:=2) rfl];rfl,λ_=>by rw[jI,zK (k:=2) rfl];rfl⟩ (λp hp=>by
  rw[zN] at hp
  subst hp
  exact⟨h.length+1,0,_,_,rfl,by omega,by rw[zK (k:=1) rfl];rfl,by show 0<1;decide,rfl⟩) (by decide) (by show 1<1048576;decide)) ?_
 rintro _ H2 ⟨rfl,k2,g2⟩
 have N:SlOf j x 27 (W.map λq=>xO q.1 q.2.1):=by rw[a];exact hx.app _
 have Z:∀q∈W,SlOf j q.2.1 2 (q.2.2.map xy):=λq hq=>by rw[a];exact(hF q hq).1.app _
 have K:=(k2.sl hi N).rows
 simp only[go_sem,K,zb]
 refine zP (by decide) (λm T H=>∃n:Nat,n<=W.length/\okW (kF (W.take n))=true/\PnH j h.length (xY ([],true) ([(W.length:Int)]++xr (kF (W.take n)))) H/\T 4= .ptr h.length 0/\T 13=x/\T 14=i64 W.length/\T 15=i64 n/\m=W.length - n) W.length
  ⟨0,by omega,rfl,by simpa [xr,kF] using k2,by simp only[go_sem],by simp only[go_sem],by(simp only[go_sem]<;>rfl),by(simp only[go_sem]<;>rfl),rfl⟩ ?_
 clear k2 y g2 K
 rintro m T H ⟨n,hn,c,u,t4,U,Q,A,rfl⟩
 simp only[go_sem,Q,A]
 refine ways (λe=>?_) (λe=>?_)
 ·have o:=dlt e
  have d:(W.map λq=>xO q.1 q.2.1)[n]? =some (xO (W[n]).1 (W[n]).2.1):=by rw[zx,zi o];rfl
  have Y:(n:Int)<W.length:=by omega
  have O:=u.sl hi N
  have δ:=O.at (i:=n) (by rw[zb];exact o)
  have β:=O.rows
  have l:=wEa o
  have b:=zD o
  obtain⟨⟨R,D,F⟩,hg⟩:∃g,g=W[n]:=⟨_,rfl⟩
  rw[<-hg] at d l b
  obtain⟨q1,q2,q3⟩:=hF _ b
  have t:=Z _ b
  simp only at d l q1 q2 q3 t
  have f:=u.sl hi t
  have I:=f.one
  simp only[go_sem,t4,U,A,δ,β,d,Y,I,zb,Int.toNat_natCast,zh]
  refine zg (Y8a _ R D F q2 (f.app _) q3) ?_
  rintro _ H3 ⟨rfl,e3⟩
  rw[e3]
  cases V:kC R F
  ·have G:okW (kF W)=false:=by
    unfold okW
    rw[List.all_eq_false]
    exact⟨(R,F),zw.2 ⟨(R,D,F),b,rfl⟩,by simp[V]⟩
   have P:jZ (kF W)=([],200):=by unfold jZ;rw[G];rfl
   simp only[go_sem,V,qD,Bool.not_false]
   obtain⟨L',C⟩:=(u.app (M:=[Ob.box 45 (xO R D)]) (zG rfl)).over a
   exact⟨.tup [.v (.slice none 0 0),i64 200],rfl,.inr ⟨h,L',C,rfl,rfl,.refl,⟨_,by rw[P];exact .inr ⟨rfl,rfl⟩,by rw[P]⟩,rfl⟩⟩
  ·have J:okW (kF (W.take (n+1)))=true:=by
    rw[l];unfold okW at c ⊢;rw[List.all_append,c];simp[V]
   simp only[go_sem,V,qD,Bool.not_true,t4,I]
   obtain⟨z,L,X,z2,z3⟩:=u.eq
   have w:(H++[Ob.box 45 (xO R D)])[h.length]? =some (.box 107 [z,bl (xY ([],true) ([(W.length:Int)]++xr (kF (W.take n)))).2]):=by
    rw[z2];exact zf (zf (zo s))
   have E:=JX ([(W.length:Int)]++xr (kF (W.take n))) ([],true)
   have χ:=VS _ c
   have ο:(kF (W.take n)).length<=W.length:=by unfold kF;rw[zb,qa];omega
   have S:(xY ([],true) ([(W.length:Int)]++xr (kF (W.take n)))).1.length<134217728:=by
    rw[ze] at E
    simp only[List.length_nil,List.length_cons] at E
    omega
   refine zg (yQa _ h.length z _ R D F w X q2 (f.app _) S q3) ?_
   rintro _ H4 ⟨rfl,k4⟩
   have k5:=(u.app (M:=[Ob.box 45 (xO R D)]) (zG rfl)).trans k4 s
   rw[<-Qt] at k5
   simp only[go_sem,A]
   exact⟨W.length - (n+1),by omega,n+1,by omega,J,by rw[l];simpa [xr] using k5,t4,U,Q,qm (by omega) rfl,rfl⟩
 ·have υ:=xb e
  have α:n=W.length:=by omega
  subst α
  rw[zZ] at c u
  have P:jZ (kF W)=((xY ([],true) ([(W.length:Int)]++xr (kF W))).1,0):=by
   unfold jZ;rw[c];simp[kF]
  obtain⟨z,L,X,z2,z3⟩:=u.eq
  have w:H[h.length]? =some (.box 107 [z,bl (xY ([],true) ([(W.length:Int)]++xr (kF W))).2]):=by
   rw[z2];exact zf (zo s)
  simp only[go_sem,t4,w]
  obtain⟨L',C⟩:=u.over a
  exact⟨.tup [z,i64 0],rfl,.inr ⟨h,L',C,rfl,by simp only[AV.lt,qz,X.lt,Bool.and_self],.refl,⟨z,by rw[P];exact X,by rw[P]⟩,rfl⟩⟩
theorem Y9a(h:List Ob)(x:AV)(W:List RwA)(f:SlOf h x 27 (W.map λq=>xO q.1 q.2.1))(c:∀q∈W,SlOf h q.2.1 2 (q.2.2.map xy)/\Fit q.1.tier/\q.2.2.length<524288)(g:W.length<4096):
  ACalls Tryz.prog 15 [x] h λr h'=>r= .tup [.sl 1 ((jZ (kF W)).1.map qX),i64 (jZ (kF W)).2]/\h'=h:=
 yL (VXa h x W f c g) λr h' ⟨⟨z,e,b⟩,a⟩=>by
  subst b
  rcases e with rfl|⟨rfl,d⟩
  ·exact⟨_,⟨rfl,a⟩,.refl _⟩
  ·refine⟨_,⟨rfl,a⟩,.two ?_ (.refl _)⟩
   rw[d]
   exact .nil 1
section
variable {h:List Ob} {d:Nat} {s:Setup} {a:SA} {x c:AV} {err:Int} {rows segs bytes:AV} {q:Cm}
theorem jbb(i:h[d]? =some (.box 154 (qG s a x c err rows segs bytes q)))(k:SIn h s a)(f:SFit s)(l:List Ev)(y:SlOf h x 11 (l.map evC))(z:l.length<1048576):
  ACalls Tryz.prog 80 [.ptr d 0] h λr h'=>r= .tup []/\h'=h.set d (.box 154 (qG s a x c (jM err (xZ s q) 80) rows (if jM err (xZ s q) 80==0 then .sl 5 ((qF s l q.worker).1.map kG) else segs) bytes q)):=by
 refine zj Tryz.f80 [] 29 rfl rfl rfl rfl rfl rfl (by decide) (⟨_,_,⟨rfl,rfl⟩,qj i rfl⟩) λB=>?_
 simp only[go_sem]
 refine zg (yPa i k) ?_
 rintro _ C ⟨rfl,v⟩
 rw[v]
 simp only[go_sem]
 refine zg (JY i (xZ s q) 80) ?_
 rintro _ A ⟨rfl,rfl⟩
 have j:=zq (b:=Ob.box 154 (qG s a x c (jM err (xZ s q) 80) rows segs bytes q)) i
 have m:=y.keep (.setB (o:= .box 154 (qG s a x c (jM err (xZ s q) 80) rows segs bytes q)) i)
 have k2:SIn (h.set d (.box 154 (qG s a x c (jM err (xZ s q) 80) rows segs bytes q))) s a:=⟨k.w.keep (.setB i),k.e.keep (.setB i),k.c.keep (.setB i),k.g.keep (.setB i),k.r.keep (.setB i),k.t.keep (.setB i)⟩
 obtain⟨E,u⟩:∃E,E=jM err (xZ s q) 80:=⟨_,rfl⟩
 rw[<-u] at j m k2⊢
 simp only[go_sem]
 cases n:E==0
 ·simp only[go_sem,n]
  exact⟨_,rfl,.inl ⟨rfl,rfl⟩⟩
 ·simp only[go_sem,n]
  refine zV rfl [] 0 [(0,0,[]),(1,0,[]),(2,0,[]),(3,0,[]),(4,0,[]),(6,0,[]),(7,0,[]),(8,0,[]),(9,0,[]),(11,0,[]),(12,0,[]),(13,0,[]),(14,0,[]),(5,0,[]),(10,0,[]),(15,0,[]),(16,0,[]),(17,0,[]),(18,0,[]),(19,0,[]),(20,0,[]),(21,0,[]),(22,0,[]),(23,0,[])] rfl (by decide) (by decide) ?_
  simp only[go_sem,j]
  refine zg (yKa _ s a k2 f x l q.worker m z) ?_
  rintro _ D ⟨rfl,p⟩
  rw[p]
  simp only[go_sem,j,zU]
  exact⟨_,rfl,.inl ⟨rfl,rfl⟩⟩
theorem SIn.keep(k:SIn h s a){h':List Ob}(r:RowsK h h'):SIn h' s a:=⟨k.w.keep r,k.e.keep r,k.c.keep r,k.g.keep r,k.r.keep r,k.t.keep r⟩
def Jk(s:Setup)(err:Int)(q:Cm):Int:=jM (jM err (xZ s q) 80) (JZ q) 212
theorem jcb(i:h[d]? =some (.box 154 (qG s a x c err rows segs bytes q)))(k:SIn h s a)(f:SFit s)(l:List Ev)(F:SlOf h x 11 (l.map evC))(J:l.length<=1000):
  ACalls Tryz.prog 79 [.ptr d 0] h λr h'=>r= .tup []/\∃j L,h'=h.set d (.box 154 (qG s a x c (Jk s err q) j segs bytes q))++L/\NoRes L/\
   ((Jk s err q≠0/\j=rows/\L=[])∨(Jk s err q=0/\j= .tl h.length 0/\L=[.row 45 27 [yX (jj s l q.worker q.week).1++[.sl 2 ((jj s l q.worker q.week).2.map xy)]] 0])):=by
 have hex:∃r h',(r=AV.tup []/\∃j L,h'=h.set d (.box 154 (qG s a x c (Jk s err q) j segs bytes q))++L/\NoRes L/\
   ((Jk s err q≠0/\j=rows/\L=[])∨(Jk s err q=0/\j= .tl h.length 0/\L=[.row 45 27 [yX (jj s l q.worker q.week).1++[.sl 2 ((jj s l q.worker q.week).2.map xy)]] 0])))/\ResK h h':=by
  by_cases h0:Jk s err q=0
  ·exact⟨_,_,⟨rfl,_,_,rfl,zG rfl,.inr ⟨h0,rfl,rfl⟩⟩,(qj i rfl).trans qS⟩
  ·exact⟨_,_,⟨rfl,_,[],rfl,jf,.inl ⟨h0,rfl,rfl⟩⟩,by rw[zF];exact qj i rfl⟩
 refine zj Tryz.f79 [] 36 rfl rfl rfl rfl rfl rfl (by decide) (hex) λB=>?_
 simp only[go_sem]
 refine zg (yPa i k) ?_
 rintro _ K ⟨rfl,C⟩
 rw[C]
 simp only[go_sem]
 refine zg (JY i (xZ s q) 80) ?_
 rintro _ y ⟨rfl,rfl⟩
 have p:=zq (b:=Ob.box 154 (qG s a x c (jM err (xZ s q) 80) rows segs bytes q)) i
 simp only[go_sem]
 refine zg (XKa p) ?_
 rintro _ y ⟨rfl,G⟩
 rw[G]
 simp only[go_sem]
 refine zg (JY p (JZ q) 212) ?_
 rintro _ y ⟨rfl,rfl⟩
 rw[zU]
 have I:jM (jM err (xZ s q) 80) (JZ q) 212=Jk s err q:=rfl
 rw[I]
 have g:=zq (b:=Ob.box 154 (qG s a x c (Jk s err q) rows segs bytes q)) i
 have m:=F.keep (.setB (o:= .box 154 (qG s a x c (Jk s err q) rows segs bytes q)) i)
 have k3:=k.keep (.setB (o:= .box 154 (qG s a x c (Jk s err q) rows segs bytes q)) i)
 have e:(h.set d (.box 154 (qG s a x c (Jk s err q) rows segs bytes q))).length=h.length:=by rw[zz]
 obtain⟨E,v⟩:∃E,E=Jk s err q:=⟨_,rfl⟩
 rw[<-v] at g m k3 e⊢
 have n:∀o,(h.set d (.box 154 (qG s a x c E rows segs bytes q))).set d o=h.set d o:=λo=>zU _
 simp only[go_sem]
 cases u:E==0
 ·have h0:E≠0:=by simpa using u
  simp only[go_sem,u]
  exact⟨_,rfl,.inl ⟨rfl,rows,[],by rw[zF],jf,.inl ⟨h0,rfl,rfl⟩⟩⟩
 ·have h0:E=0:=by simpa using u
  simp only[go_sem,u]
  refine zV rfl [.res] 1 [(0,0,[]),(1,0,[]),(2,0,[]),(3,0,[]),(4,0,[]),(6,0,[]),(7,0,[]),(8,0,[]),(9,0,[]),(11,0,[]),(12,0,[]),(13,0,[]),(14,0,[]),(16,0,[]),(17,0,[]),(18,0,[]),(19,0,[]),(5,0,[]),(10,0,[]),(15,0,[]),(20,0,[]),(21,0,[]),(22,0,[]),(23,0,[]),(24,0,[]),(25,0,[]),(26,0,[])] rfl (by decide) (by decide) ?_
  obtain⟨H,D⟩:∃H,H=h.set d (.box 154 (qG s a x c E rows segs bytes q)):=⟨_,rfl⟩
  rw[<-D] at g m k3 e n⊢
  have t:∀M,(H++M)[d]? =some (.box 154 (qG s a x c E rows segs bytes q)):=λM=>zf g
  have w:=(zd.1 g).1
  simp only[go_sem,t]
  refine zg (q4b _ s a (k3.app _) f x l q.worker q.week (m.app _) J) ?_
  rintro _ N ⟨rfl,z⟩
  rw[z]
  obtain⟨W,A⟩:∃W,W=jj s l q.worker q.week:=⟨_,rfl⟩
  rw[<-A]
  simp only[go_sem,t,yX,List.cons_append,List.nil_append]
  refine⟨.tup [],rfl,.inl ⟨rfl,.tl h.length 0,_,?_,zG rfl,.inr ⟨h0,rfl,rfl⟩⟩⟩
  rw[qb _ _ w,n,e]
theorem zab(e:h[d]? =some (.box 154 (qG s a x c err rows segs bytes q)))(j:Nat)(b:h[j]? =some (.box 151 [.ptr d 0]))(n:Int):
  ACalls Tryz.prog 168 [i64 n,.ptr j 0] h λr h'=>r=bl (n==q.week)/\h'=h:=by
 refine zj Tryz.f168 [.tmp 3] 11 rfl rfl rfl rfl rfl rfl (by decide) (⟨_,_,⟨rfl,rfl⟩,.refl⟩) λB=>?_
 simp only[go_sem,e,b]
 refine zm ?_<;>(simp only[go_sem]<;>try rfl)
end
structure Bk where
 evs:List Ev
 shut:List Int
structure An where
 err:Int
 rows:List (RowV × List Flg)
 segs:List Seg
 bytes:List Int
def xn(e:Int):An:=⟨e,[],[],[]⟩
def WA(l:List Ev)(id:Int):List Ev:=l.eraseP λe=>e.id==id
def yO(l:List Ev)(x:Fx):List Ev:=(if j7 x then WA l x.ev.id else l)++if vn x then [x.ev] else []
def jw(s:Setup)(l:List Ev)(x:Fx):List Ev × Int:=
 if(!vn x && !j7 x) || (vn x && !wi s x.ev) then([],80)
 else if !j7 x && decide (Q0 l x.ev.id≥0) then([],130)
 else if j7 x && decide (Q0 l x.ev.id<0) then([],131)
 else(qu (yO l x),0)
def ltK(a b:Int × Int):Bool:=decide (a.1<b.1) || (a.1==b.1 && decide (a.2<b.2))
theorem vf{a b:Int × Int}:ltK a b=true↔a.1<b.1∨(a.1=b.1/\a.2<b.2):=by simp[ltK]
def J0(a b:Int):List Int:=(List.range (b - a+1).toNat).map λ(i:Nat)=>a+(i:Int)
theorem wFa{a b x:Int}:x∈J0 a b↔a<=x/\x<=b:=by
 unfold J0
 rw[zw]
 constructor
 ·rintro ⟨i,hi,rfl⟩
  rw[qT] at hi
  omega
 ·rintro ⟨d,c⟩
  exact⟨(x - a).toNat,by rw[qT];omega,by omega⟩
def XH(s:Setup)(e:Ev):List (Int × Int):=(J0 (VR s e.at_).1 (VR s e.at_).2).map λk=>(e.worker,k)
def K2(s:Setup)(l:List Ev)(x:Fx):List (Int × Int):=(if(Jf l x.ev.id).2 && j7 x then XH s (Jf l x.ev.id).1 else [])++if vn x then XH s x.ev else []
def jYa(k:Int × Int):List (Int × Int)->List (Int × Int)
 | []=>[k]
 | y::r=>if ltK k y then k::y::r else if k=y then y::r else y::jYa k r
def VYa(l:List (Int × Int)):List (Int × Int):=l.foldr jYa []
def xL(s:Setup)(l:List Ev)(x:Fx):List (Int × Int):=VYa (K2 s l x)
theorem zsa{k z:Int × Int}:∀ {l:List (Int × Int)},z∈jYa k l↔z=k∨z∈l
 | []=>by simp[jYa]
 | y::r=>by
   unfold jYa
   split
   ·simp
   ·split
    ·rename_i h
     subst h
     simp
    ·rw[zE,zsa (l:=r),zE]
     constructor<;>(rintro (h|h|h)<;>simp[h])
theorem K3{z:Int × Int}:∀ {l:List (Int × Int)},z∈VYa l↔z∈l
 | []=>Iff.rfl
 | k::l=>by
   show z∈jYa k (VYa l)↔_
   rw[zsa,K3 (l:=l),zE]
theorem kLa{k:Int × Int}:∀ {l:List (Int × Int)},l.Pairwise (λa b=>ltK a b=true)->(jYa k l).Pairwise λa b=>ltK a b=true
 | [],_=>by simp[jYa]
 | y::r,h=>by
   obtain⟨f,i⟩:=qg.1 h
   unfold jYa
   split
   ·rename_i d
    refine qg.2 ⟨λz c=>?_,h⟩
    rcases zE.1 c with rfl|c
    ·exact d
    ·have:=f z c
     rw[vf] at*
     omega
   ·split
    ·exact h
    ·rename_i d e
     refine qg.2 ⟨λz c=>?_,kLa i⟩
     rcases zsa.1 c with rfl|c
     ·rw[Bool.not_eq_true] at d
      have:¬ (z.1<y.1∨(z.1=y.1/\z.2<y.2)):=λq=>by rw[vf.2 q] at d;cases d
      rw[vf]
      have g:¬ (z.1=y.1/\z.2=y.2):=λq=>e (Prod.ext q.1 q.2)
      omega
     ·exact f z c
theorem zta:∀(l:List (Int × Int)),(VYa l).Pairwise λa b=>ltK a b=true
 | []=> .nil
 | k::l=>kLa (zta l)
theorem ySa:∀ {a b:List (Int × Int)},a.Pairwise (λx y=>ltK x y=true)->b.Pairwise (λx y=>ltK x y=true)->(∀z,z∈a↔z∈b)->a=b
 | [],[],_,_,_=>rfl
 | [],y::b,_,_,h=>by have:=(h y).2 (.head _);cases this
 | x::a,[],_,_,h=>by have:=(h x).1 (.head _);cases this
 | x::a,y::b,i,g,h=>by
   obtain⟨a1,a2⟩:=qg.1 i
   obtain⟨b1,b2⟩:=qg.1 g
   have e:x=y:=by
    rcases zE.1 ((h x).1 (.head _)) with q|q
    ·exact q
    ·rcases zE.1 ((h y).2 (.head _)) with f|f
     ·exact f.symm
     ·have:=b1 x q
      have:=a1 y f
      rw[vf] at*
      omega
   subst e
   congr 1
   refine ySa a2 b2 λz=>?_
   have c:∀ {l:List (Int × Int)},(∀y∈l,ltK x y=true)->x∉l:=λk j=>by
    have:=k x j
    rw[vf] at this
    omega
   constructor
   ·intro d
    rcases zE.1 ((h z).1 (.tail _ d)) with rfl|q
    ·exact absurd d (c a1)
    ·exact q
   ·intro d
    rcases zE.1 ((h z).2 (.tail _ d)) with rfl|q
    ·exact absurd d (c b1)
    ·exact q
def J1(n:Int):List Int->List Int
 | []=>[n]
 | y::r=>if n<=y then n::y::r else y::J1 n r
def jU(l:List Int)(w:Int):Bool:=l.any (w== ·)
theorem Xp{l:List Int}{w:Int}:jU l w=true↔w∈l:=by
 unfold jU
 rw[List.any_eq_true]
 constructor
 ·rintro ⟨x,b,a⟩
  rw[beq_iff_eq] at a
  subst a
  exact b
 ·intro h
  exact⟨w,h,by simp⟩
def WL(s:Setup)(b:Bk)(x:Fx):Int:=
 jM (jM (jM 0 ((jw s b.evs x).2==0) (jw s b.evs x).2) (decide (((jw s b.evs x).1.length:Int)<=200)) 210) (!(xL s b.evs x).any λk=>jU b.shut k.2) 211
def qea(s:Setup)(b:Bk)(x:Fx):Bk × An:=(if WL s b x==0 then⟨(jw s b.evs x).1,b.shut⟩ else b,xn (WL s b x))
def ka(s:Setup)(b:Bk)(wk:Int):List (RowV × List Flg):=(List.range s.rates.length).map λ(w:Nat)=>jj s b.evs (w:Int) wk
def doP(s:Setup)(b:Bk)(q:Cm):Bk × An:=
 if q.kind=1 then qea s b ⟨1,q.fx.ev⟩
 else if q.kind=2 then qea s b q.fx
 else if q.kind=3 then(b,if Jk s 0 q==0 then⟨0,[jj s b.evs q.worker q.week],[],[]⟩ else xn (Jk s 0 q))
 else if q.kind=4 then(b,if xZ s q then⟨0,[],(qF s b.evs q.worker).1,[]⟩ else xn 80)
 else if q.kind=5 then(if JZ q && !jU b.shut q.week then(⟨b.evs,J1 q.week b.shut⟩,xn 0) else(b,xn 212))
 else if q.kind=6 then(if jU b.shut q.week then(⟨b.evs,b.shut.filter λw=> !(w==q.week)⟩,xn 0) else(b,xn 212))
 else if q.kind=7 then(b,if jU b.shut q.week then⟨0,ka s b q.week,[],(jZ (ka s b q.week)).1⟩ else xn 212)
 else if q.kind=8 then(b,xn 0)
 else(b,xn 240)
def vG(s:Setup):Bk->List Cm->Bk × List An
 | b,[]=>(b,[])
 | b,q::l=>((vG s (doP s b q).1 l).1,(doP s b q).2::(vG s (doP s b q).1 l).2)
structure BkI (s:Setup) (b:Bk):Prop where
 few:b.evs.length<=200
 srt:Srt b.evs
 ids:(b.evs.map (·.id)).Nodup
 ok:∀e∈b.evs,wi s e=true
 rise:b.shut.Pairwise (· < ·)
 rng:∀w∈b.shut,0<=w/\w<=52
theorem zua{e:Int}{c:Bool}{d:Int}(b:d≠0):jM e c d=0↔e=0/\c=true:=by
 unfold jM
 cases c
 ·by_cases a:e=0
  ·subst a;simp[b]
  ·have:(e==0)=false:=by simpa using a
   simp[this,a]
 ·simp
theorem zva{n z:Int}:∀ {l:List Int},z∈J1 n l↔z=n∨z∈l
 | []=>by simp[J1]
 | y::r=>by
   unfold J1
   split
   ·simp
   ·rw[zE,zva (l:=r),zE]
    constructor<;>(rintro (h|h|h)<;>simp[h])
theorem VT{n:Int}:∀ {l:List Int},n∉l->l.Pairwise (· < ·)->(J1 n l).Pairwise (· < ·)
 | [],_,_=>by simp[J1]
 | y::r,c,h=>by
   obtain⟨b,d⟩:=qg.1 h
   have e:n≠y:=λq=>c (by rw[q];exact .head _)
   unfold J1
   split
   ·refine qg.2 ⟨λz a=>?_,h⟩
    rcases zE.1 a with rfl|a
    ·omega
    ·have:=b z a;omega
   ·refine qg.2 ⟨λz a=>?_,VT (λq=>c (.tail _ q)) d⟩
    rcases zva.1 a with rfl|a
    ·omega
    ·exact b z a
theorem q1a(n:Int):∀l:List Int,(J1 n l).Perm (n::l)
 | []=> .refl _
 | y::r=>by
   unfold J1
   split
   ·exact .refl _
   ·exact(List.Perm.cons y (q1a n r)).trans (List.Perm.swap n y r)
theorem zwa{s:Setup}{l:List Ev}{x:Fx}(h:(jw s l x).2=0):jw s l x=(qu (yO l x),0)/\(vn x=true∨j7 x=true)/\(vn x=true->wi s x.ev=true)/\
  ((j7 x=false/\vn x=true/\∀e∈l,e.id≠x.ev.id)∨(j7 x=true/\∃A y R,l=A++y::R/\Jf l x.ev.id=(y,true)/\y.id=x.ev.id/\WA l x.ev.id=A++R/\Q0 l x.ev.id=(A.length:Int))):=by
 unfold jw at h⊢
 split at h
 ·cases h
 ·rename_i u
  split at h
  ·cases h
  ·rename_i k
   split at h
   ·cases h
   ·rename_i j
    rw[if_neg u,if_neg k,if_neg j]
    have g:¬ (vn x=false/\j7 x=false)/\¬ (vn x=true/\wi s x.ev=false):=by
     cases b:vn x<;>cases c:j7 x<;>cases i:wi s x.ev<;>simp_all
    refine⟨rfl,?_,?_,?_⟩
    ·cases b:vn x<;>cases c:j7 x<;>simp_all
    ·intro b
     cases i:wi s x.ev
     ·exact absurd ⟨b,i⟩ g.2
     ·rfl
    ·have b:j7 x=false->vn x=true:=λc=>by
      cases b:vn x
      ·exact absurd ⟨b,c⟩ g.1
      ·rfl
     cases c:j7 x
     ·refine .inl ⟨rfl,b c,?_⟩
      rw[c] at k
      have k:¬ (0:Int)<=Q0 l x.ev.id:=by simpa using k
      rcases VQ l x.ev.id with⟨_,d⟩|⟨A,y,R,_,d,_⟩
      ·intro e i hid
       unfold Jf at d
       cases q:l.find? (λe=>e.id==x.ev.id) with
       | none=>have:=List.find?_eq_none.1 q e i;simp[hid] at this
       | some z=>rw[q] at d;cases d
      ·omega
     ·refine .inr ⟨rfl,?_⟩
      rw[c] at j
      have j:¬ Q0 l x.ev.id<0:=by simpa using j
      rcases VQ l x.ev.id with⟨n,_⟩|⟨A,y,R,n,d,w,p⟩
      ·omega
      ·refine⟨A,y,R,n,w,p,?_,d⟩
       have v:∀a∈A,(a.id==x.ev.id)=false:=λa o=>by
        rcases JM (λe=>e.id==x.ev.id) l with⟨m,_⟩|⟨r,y',B,m,t,z3,z4⟩
        ·have m:Q0 l x.ev.id= -1:=m
         omega
        ·have t:Q0 l x.ev.id=(r.length:Int):=t
         have f:A.length=r.length:=by omega
         have:=List.append_inj_left (n.symm.trans m) f
         subst this
         exact z4 a o
       unfold WA
       rw[n,List.eraseP_append_right _ (λa o=>by simp[v a o]),List.eraseP_cons_of_pos (by simp[p])]
theorem XLa{l A R:List Ev}{y e:Ev}(h:l=A++y::R)(a:e∈A++R):e∈l:=by
 subst h
 rcases zJ.1 a with a|a
 ·exact List.mem_append_left _ a
 ·exact List.mem_append_right _ (.tail _ a)
theorem wGa{l A R:List Ev}{y:Ev}(h:l=A++y::R)(b:(l.map (·.id)).Nodup):((A++R).map (·.id)).Nodup/\∀e∈A++R,e.id≠y.id:=by
 subst h
 have a:((y::(A++R)).map (·.id)).Nodup:=(List.Perm.nodup_iff (List.Perm.map _ List.perm_middle)).1 b
 rw[List.map_cons,List.nodup_cons] at a
 exact⟨a.2,λe c q=>a.1 (zw.2 ⟨e,c,q⟩)⟩
theorem XMa{s:Setup}{l:List Ev}{x:Fx}(h:(jw s l x).2=0)(j:(l.map (·.id)).Nodup)(k:∀e∈l,wi s e=true):((yO l x).map (·.id)).Nodup/\∀e∈yO l x,wi s e=true:=by
 obtain⟨_,_,m,o⟩:=zwa h
 have key:∀K:List Ev,(K.map (·.id)).Nodup->(∀e∈K,wi s e=true)->(∀e∈K,e.id≠x.ev.id)->((K++if vn x then [x.ev] else []).map (·.id)).Nodup/\∀e∈K++(if vn x then [x.ev] else []),wi s e=true:=λK k1 k2 k3=>by
  cases f:vn x
  ·simpa using ⟨k1,k2⟩
  ·simp only[if_true]
   refine⟨?_,λe c=>?_⟩
   ·rw[zy,List.nodup_append]
    refine⟨k1,by simp,λa q b g=>?_⟩
    obtain⟨e,c,rfl⟩:=zw.1 q
    simp at g
    subst g
    exact k3 e c
   ·rcases zJ.1 c with c|c
    ·exact k2 e c
    ·rw[zN] at c
     subst c
     exact m f
 unfold yO
 rcases o with⟨d,f,hid⟩|⟨d,A,y,R,i,r,p,n,_⟩
 ·rw[d]
  exact key l j k hid
 ·rw[d]
  simp only[if_true]
  rw[n]
  obtain⟨n1,n2⟩:=wGa i j
  exact key _ n1 (λe c=>k e (XLa i c)) λe c=>by rw[<-p];exact n2 e c
theorem Qwa{s:Setup}{b:Bk}{x:Fx}:WL s b x=0↔(jw s b.evs x).2=0/\(jw s b.evs x).1.length<=200/\∀k∈xL s b.evs x,k.2∉b.shut:=by
 unfold WL
 rw[zua (by decide),zua (by decide)]
 have e:jM 0 ((jw s b.evs x).2==0) (jw s b.evs x).2=(jw s b.evs x).2:=by
  unfold jM
  by_cases h:(jw s b.evs x).2=0
  ·simp[h]
  ·have:((jw s b.evs x).2==0)=false:=by simpa using h
   simp[this]
 rw[e,decide_eq_true_eq,Bool.not_eq_true',List.any_eq_false]
 constructor
 ·rintro ⟨⟨c,f⟩,a⟩
  exact⟨c,by omega,λk d q=>a k d (Xp.2 q)⟩
 ·rintro ⟨c,f,a⟩
  exact⟨⟨c,by omega⟩,λk d q=>a k d (Xp.1 q)⟩
theorem kMa{s:Setup}{b:Bk}{x:Fx}(h:BkI s b):BkI s (qea s b x).1:=by
 unfold qea
 by_cases h0:WL s b x=0
 ·obtain⟨c,a,i⟩:=Qwa.1 h0
  simp only[h0,beq_self_eq_true,if_true]
  obtain⟨g,_⟩:=zwa c
  obtain⟨n1,n2⟩:=XMa c h.ids h.ok
  have d:=vr (yO b.evs x)
  rw[g] at a⊢
  exact⟨a,vp _,(List.Perm.nodup_iff (List.Perm.map _ d)).2 n1,λe f=>n2 e (d.mem_iff.1 f),h.rise,h.rng⟩
 ·have:(WL s b x==0)=false:=by simpa using h0
  simp only[this,Bool.false_eq_true,if_false]
  exact h
theorem Qxa{q:Cm}:JZ q=true↔0<=q.week/\q.week<=52:=by
 unfold JZ
 simp
theorem VZa{s:Setup}{b:Bk}(q:Cm)(h:BkI s b):BkI s (doP s b q).1:=by
 unfold doP
 split
 ·exact kMa h
 ·split
  ·exact kMa h
  ·split
   ·exact h
   ·split
    ·exact h
    ·split
     ·split
      ·rename_i c
       rw[zl,Bool.not_eq_true'] at c
       have d:=Qxa.1 c.1
       have e:q.week∉b.shut:=λf=>by rw[Xp.2 f] at c;cases c.2
       exact⟨h.few,h.srt,h.ids,h.ok,VT e h.rise,λw a=>by
        rcases zva.1 a with rfl|a
        ·exact d
        ·exact h.rng w a⟩
      ·exact h
     ·split
      ·split
       ·exact⟨h.few,h.srt,h.ids,h.ok,h.rise.filter _,λw d=>h.rng w (qq.1 d).1⟩
       ·exact h
      ·split
       ·exact h
       ·split
        ·exact h
        ·exact h
theorem kNa{s:Setup}:∀(l:List Cm) {b:Bk},BkI s b->BkI s (vG s b l).1
 | [],_,h=>h
 | q::l,_,h=>kNa l (VZa q h)
def jZa:Bk:=⟨[],[]⟩
theorem Qya(s:Setup):BkI s jZa:=⟨by decide,trivial,.nil,λ_ h=>(by cases h),.nil,λ_ h=>by cases h⟩
theorem kOa{s:Setup}:∀(l:List Cm) {b:Bk},(vG s b l).2.length=l.length
 | [],_=>rfl
 | q::l,_=>by simp[vG,kOa l]
theorem kPa{s:Setup}:∀(a l:List Cm) {b:Bk},vG s b (a++l)=((vG s (vG s b a).1 l).1,(vG s b a).2++(vG s (vG s b a).1 l).2)
 | [],l,b=>rfl
 | q::a,l,b=>by
   rw[List.cons_append,vG,kPa a l]
   rfl
