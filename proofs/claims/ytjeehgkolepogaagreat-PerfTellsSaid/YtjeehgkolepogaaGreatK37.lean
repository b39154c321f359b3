import Derived.Test.YtjeehgkolepogaaGreatK35
import Derived.OrdersIn
import Derived.RangeFuncLeaves
import Derived.Lib.AppendZerosOnto
import Derived.Lib.Hide
import Derived.Test.YtjeehgkolepogaaGreatK36
import Derived.Lib.AppendZeros
set_option linter.all false
namespace Go.Proofs.YtjeehgkolepogaaGreat.Ax
open Go Go.Proofs Go.RowKit
set_option maxRecDepth 100000
set_option maxHeartbeats 2000000 in
def r8Sort0(h:List Ob)(x:AV)(l:List Ev)(hx:SlOf h x 11 (l.map evC))(hl:l.length<1048576):
    ACalls Tryz.prog 99 [x] h λr h'=>∃L,h'=h++L/\NoRes L/\New h 11 r ((zS l).map evC) L:=by
 have hex:∃r h',(∃L,h'=h++L/\NoRes L/\New h 11 r ((zS l).map evC) L)/\ResK h h':=
  ⟨.sl 11 _,_,⟨[],rfl,kR,λ_ _=>⟨rfl,λ_=>rfl⟩⟩,jp⟩
 refine enterSX Tryz.f99 (λB=>?_) (hex)
 refine wp_loop_a ze (λm T h'=>∃k:Nat,k<=l.length/\Pre h h'/\OwnS h h' 55 11 (T 3) ((zS (l.take k)).map evC)/\T 0=x/\T 4=i64 k/\m=l.length - k) l.length
  ⟨0,zb,Pre.refl,.inl ⟨zo,rfl⟩,zo,by(simp only[go_sem]<;>rfl),rfl⟩ ?_
 rintro m T h' ⟨k,hk,hp,Y,t0,t4,rfl⟩
 have P:SlOf h' x 11 (l.map evC):=by
  obtain⟨L,rfl,_⟩:=hp;exact hx.app _
 have θ:=P.rows;simp only[go_sem,t4,t0,θ,zc];refine ways (λe=>?_) (λe=>?_)
 ·have O:=dlt e;have c:=qO evC O;have τ:=P.at (i:=k) (by simpa using O);have s:(k:Int)<l.length:=zb;have J:zS (l.take (k+1))=yA l[k] (zS (l.take k)):=by rw[<-zG O,Xi]
  obtain⟨y,hy⟩:∃y,y=l[k]:=⟨_,rfl⟩;have a:(zS (l.take k)).length=k:=by rw[jl,zT];omega
  have H:Srt (zS (l.take k)):=xB _;obtain⟨S,hS⟩:∃S,S=zS (l.take k):=⟨_,rfl⟩;rw[<-hy] at c J;rw[<-hS] at J a H Y;have ψ:=Y.rows;have X:=ψ.rows;have u:∀M,S≠[]->eOf (h'++M) (T 3)=some 11:=λM q=>(Y.app M).rows.ee (by simpa using q);have b:∀M,zI (h'++M) (T 3)=some (S.map evC):=λM=>(Y.app M).rows.rows
  have V:∀M j,j<=k->zI (h'++M) (.vw (T 3) 11 j (k - j))=some ((S.drop j).map evC):=λM j R=>by
   rw[xX,b]
   have hc:k - j=0∨eOf (h'++M) (T 3)=some 11:=by
    by_cases q:S=[]
    ·rw[q] at a;exact .inl (by simp only[List.length_nil] at a;omega)
    ·exact .inr (u M q)
   show(if _ then _ else _)=_;rw[if_pos ⟨by rw[zc];omega,hc⟩, <-List.map_drop,List.take_of_length_le (by rw[zc,List.length_drop];omega)]
  have t:∀M j,j<=k->zI (h'++M) (.vw (T 3) 11 0 j)=some ((S.take j).map evC):=λM j R=>by
   rw[xX,b]
   have hc:j=0∨eOf (h'++M) (T 3)=some 11:=by
    by_cases q:S=[]
    ·rw[q] at a;exact .inl (by simp only[List.length_nil] at a;omega)
    ·exact .inr (u M q)
   show(if _ then _ else _)=_;rw[if_pos ⟨by rw[zc];omega,hc⟩,List.drop_zero, <-List.map_take]
  obtain⟨z,hz⟩:∃z,z=T 3:=⟨_,rfl⟩;rw[<-hz] at Y X u b V t;simp only[go_sem,hz.symm,X,zc,a]
  refine wp_loop_a ze (λm T' F=>F=h'/\∃j:Nat,j<=k/\(∀i (q:i<S.length),j<=i->ltE y S[i]=true)/\T' 0=x/\T' 3=z/\T' 4=i64 k/\T' 5=i64 j/\m=j) k
   ⟨rfl,k,zB _,λi Z q2=>zb,by simp only[go_sem,t0],by simp only[go_sem,hz.symm],by simp only[go_sem,t4],by(simp only[go_sem,a]<;>rfl),rfl⟩ ?_
  rintro m T' F ⟨rfl,j,R,I,g,n,f,o,rfl⟩
  have W:(m=0)∨∃(p:Nat) (hp:p<S.length),m=p+1:=by
   cases m with
   | zero=>exact .inl rfl
   | succ p=>exact .inr ⟨p,zb,rfl⟩
  have φ:(m:Int)<=S.length:=zb;have d:(S.map evC).length=k:=by rw[zc];exact a
  have fin:k+1<=l.length:=zb;have ν:=qh (k:=k) zb rfl;have E:(m:Int)<=k:=zb
  have δ:∀M,((m:Int)=(k:Int)∨eOf (F++M) z=some 11):=λM=>by
   by_cases q:S=[]
   ·rw[q] at a;exact .inl (by simp only[List.length_nil] at a;omega)
   ·exact .inr (u M q)
  have v:∀M,((0:Int)=(m:Int)∨eOf (F++M) z=some 11):=λM=>by
   by_cases q:S=[]
   ·rw[q] at a;exact .inl (by simp only[List.length_nil] at a;omega)
   ·exact .inr (u M q)
  have C:∀M,zI (F++M) x=some (l.map evC):=λM=>(P.app M).rows;have D:∀M,eOf (F++M) x=some 11:=λM=>(P.app M).at (i:=k) (by simpa using O)
  have Q:∀A:List Ev,((A.map evC).all λr=>r.length==11 && r.all AV.one)=true:=λA=>by
   rw[zY];rintro r hr;obtain⟨e,_,rfl⟩:=zQ.1 hr;rfl
  have K:(S.drop m).length=k - m:=by rw[List.length_drop,a]
  have η:(S.take m).length=m:=by rw[zT,a];omega
  have μ:∀M,(m=0∨eOf (F++M) z=some 11):=λM=>by
   by_cases q:S=[]
   ·rw[q] at a;exact .inl (by simp only[List.length_nil] at a;omega)
   ·exact .inr (u M q)
  have ζ:(S.map evC).take m=(S.take m).map evC:=List.map_take.symm;have b1:(k - m)*89<=140737488355328:=zb;have b2:m*89<=140737488355328:=zb;have b3:(m+1)*89<=140737488355328:=zb;have b4:(m+(0+1))*89<=140737488355328:=zb;have b5:(m+1+(k - m))*89<=140737488355328:=zb;have b6:(m+(0+1)+(k - m))*89<=140737488355328:=zb;rcases W with h0|⟨p,U,rfl⟩
  ·have N:decide ((m:Int)>0)=false:=(by rw[decide_eq_false_iff_not];omega);refine zZ [] 0 (oF [0,1,2,3,4,7,8,9,5,6,10,11,12,13] ([])) ?_;have G:yA y S=S.take m++y::S.drop m:=j7a H zb (λi Z q2=>I i Z q2) λ_ q=>zb;simp only[go_sem,o,g,n,f,N,qv,b,V,t,d,R,E,δ,v,c,s,C,D,Int.toNat_natCast,zd,Int.le_refl,zc];simp only[go_sem,o,g,n,f,Q,K,b1,b,t,d,R,E,v,c,s,C,D,Int.toNat_natCast,zd,Int.le_refl,zc];refine zZ [.res,.res] 2 (oF [1,2,5,6,11,3,7,8,0] ((4,0,[7,8])::(9,1,[])::oF [10,12,13] ([]))) ?_;simp only[go_sem,o,g,n,f,Nat.sub_zero,μ,ζ,Q,K,η,b2,b3,b4,b5,b6,b,t,d,R,E,v,c,s,C,D,Int.toNat_natCast,zd,Int.le_refl,zc];refine⟨l.length - (k+1),zb,k+1,fin,hp.app (zA rfl (zA rfl (zW rfl))),.inr ⟨F.length+1,3,by have:=hp.len;omega,rfl,?_⟩,ν,rfl⟩;rw[qa (k:=1) rfl,J,G,zD];rfl
  ·obtain⟨w,hw⟩:∃w,w=S[p]:=⟨_,rfl⟩;have β:(S.map evC)[p]? =some (evC w):=(by rw[hw];exact qO evC U);have N:decide (((p+1:Nat):Int)>0)=true:=(by rw[decide_eq_true_eq];omega);have ε:wr (((p+1:Nat):Int) - 1)=(p:Int):=(by rw[qb qg];omega);have ο:(p:Int)<(k:Int):=zb;have κ:∀M,eOf (F++M) z=some 11:=λM=>u M (λq=>by rw[q] at U;simp at U);have ξ:eOf F z=some 11:=(by have:=κ [];rwa[zJ] at this);refine zZ [] 0 (oF [0,1,2,3,4,7,8,9,5,6,10,11,12,13] ([])) ?_;simp only[go_sem,o,g,n,f,N,qv,ε,c,s,τ,θ,X,β,ο,ξ,d,zc,Int.toNat_natCast,zd];refine zl (vSa y w _) ?_;rintro _ F ⟨rfl,rfl⟩;cases hb:ltE y w
   ·have G:yA y S=S.take (p+1)++y::S.drop (p+1):=j7a H zb (λi Z q2=>I i Z q2) λZ q2=>by
     show ltE y S[p]=false;rw[<-hw,hb]
    simp only[go_sem,o,g,n,f,N,qv,b,V,t,d,R,E,δ,v,c,s,C,D,Int.toNat_natCast,zd,Int.le_refl,zc];simp only[go_sem,o,g,n,f,Q,K,b1,b,t,d,R,E,v,c,s,C,D,Int.toNat_natCast,zd,Int.le_refl,zc];refine zZ [.res,.res] 2 (oF [1,2,5,6,11,3,7,8,0] ((4,0,[7,8])::(9,1,[])::oF [10,12,13] ([]))) ?_;simp only[go_sem,o,g,n,f,Nat.sub_zero,μ,ζ,Q,K,η,b2,b3,b4,b5,b6,b,t,d,R,E,v,c,s,C,D,Int.toNat_natCast,zd,Int.le_refl,zc];refine⟨l.length - (k+1),zb,k+1,fin,hp.app (zA rfl (zA rfl (zW rfl))),.inr ⟨F.length+1,3,by have:=hp.len;omega,rfl,?_⟩,ν,rfl⟩;rw[qa (k:=1) rfl,J,G,zD];rfl
   ·simp only[go_sem,o,ε];refine⟨p,zb,p,zb,λi Z q2=>?_,g,n,f,rfl,rfl⟩;by_cases q3:i=p
    ·subst q3;rw[<-hw,hb]
    ·exact I i Z zb
 ·have υ:=jO e;rw[List.take_of_length_le υ] at Y;refine zz ?_;exact Qc zo hp Y
def r8Sort(h:List Ob)(x:AV)(l:List Ev)(a:SlOf h x 11 (l.map evC))(b:l.length<1048576):
    ACalls Tryz.prog 99 [x] h λr h'=>r= .sl 11 ((zS l).map evC)/\h'=h:=
 wv ze (Zm _) (r8Sort0 h x l a b)
def r3Same(h:List Ob)(x y:AV)(l:List Spn)(o:SlOf h x 2 (l.map qF))(n:SlOf h y 2 (l.map qF))(p:l.length<1099511627776):
    ACalls Tryz.prog 17 [x,y] h λr h'=>r=bl true/\h'=h:=by
 have a:=o.rows;have c:=n.rows;refine enterQX Tryz.f17 λB=>?_;simp only[go_sem,a,c,zc,bne_self_eq_false]
 refine wp_loop_a ze (λm T h'=>h'=h/\∃k:Nat,k<=l.length/\T 0=x/\T 1=y/\T 5=i64 k/\m=l.length - k) l.length
  ⟨rfl,0,zb,zo,zo,by(simp only[go_sem]<;>rfl),rfl⟩ ?_
 rintro m T h' ⟨rfl,k,q,t0,t1,t5,rfl⟩;simp only[go_sem,t5,t0,a,zc];refine ways (λe=>?_) (λe=>?_)
 ·have b:=dlt e;have d:=qO qF b;have j:=o.at (i:=k) (by simpa using b);have f:=n.at (i:=k) (by simpa using b);have g:(k:Int)<l.length:=zb;refine zz ?_;refine zZ [] 0 (oF [0,1,4,5,2,3,6,7,8] ([])) ?_;simp only[go_sem,t5,t0,t1,d,g,j,f,a,c,zc,Int.toNat_natCast,zd,beq_self_eq_true,Bool.and_self,Bool.not_true,qv,bne_self_eq_false];exact⟨l.length - (k+1),zb,k+1,zb,qh zb rfl,rfl⟩
 ·refine zz ?_;exact qt
def Jo(e:Ev):js Tryz.prog 101 [evV e] (i64 (wt e.kind)):=λh=>by
 have a:wt e.kind=if e.kind=3 then 1 else if e.kind=4 then 2 else if e.kind=5 then 3 else 0:=rfl;refine enterSX Tryz.f101 λB=>?_;refine ways (λq=>?_) (λq=>?_)
 ·refine zz ?_;exact zm (by simp only[go_sem,a,if_pos (eq_of_beq q)]<;>try rfl)
 ·have b:=ne_of_beq_false q;refine zz ?_;refine ways (λq=>?_) (λq=>?_)
  ·refine zz ?_;exact zm (by simp only[go_sem,a,if_neg b,if_pos (eq_of_beq q)]<;>try rfl)
  ·have c:=ne_of_beq_false q;refine zz ?_;refine ways (λq=>?_) (λq=>?_)
   ·refine zz ?_;exact zm (by simp only[go_sem,a,if_neg b,if_neg c,if_pos (eq_of_beq q)]<;>try rfl)
   ·have d:=ne_of_beq_false q;refine zz ?_;exact zm (by simp only[go_sem,a,if_neg b,if_neg c,if_neg d]<;>try rfl)
def Pre.pre{H L h':List Ob}(a:NoRes L)(p:Pre (H++L) h'):Pre H h':=Pre.trans (Pre.app Pre.refl a) p
def OwnS.pre{H L h':List Ob}{ty e:Nat}{x:AV}{rows:List (List AV)}(o:OwnS (H++L) h' ty e x rows):OwnS H h' ty e x rows:=by
 rcases o with o|⟨id,st,a,b⟩
 ·exact .inl o
 ·exact .inr ⟨id,st,by rw[zp] at a;omega,b⟩
def Zo{α:Type}(p:α->Bool){l:List α}{k:Nat}(h:k<l.length):(l.take (k+1)).filter p=(l.take k).filter p++if p l[k] then [l[k]] else []:=by
 rw[<-zG h,jc];congr 1;rw[List.filter_cons];cases p l[k]<;>rfl
set_option maxHeartbeats 2000000 in
def r12ev0(h:List Ob)(s:Setup)(a:SA)(k:SIn h s a)(x:AV)(l:List Ev)(w:Int)(Y:SlOf h x 11 (l.map evC))(Q:l.length<1048576):
    ACalls Tryz.prog 51 [qE s a,x,i64 w] h λr h'=>∃L,h'=h++L/\NoRes L/\New h 11 r (((zS l).filter (jU s w)).map evC) L:=by
 have hex:∃r h',(∃L,h'=h++L/\NoRes L/\New h 11 r (((zS l).filter (jU s w)).map evC) L)/\ResK h h':=
  ⟨.sl 11 _,_,⟨[],rfl,kR,λ_ _=>⟨rfl,λ_=>rfl⟩⟩,jp⟩
 refine enterQX Tryz.f51 (λB=>?_) (hex);simp only[go_sem,k.w.one,k.e.one,k.c.one,k.g.one,k.r.one,k.t.one];refine zl (r8Sort _ x l (Y.app _) Q) ?_;rintro _ U ⟨rfl,rfl⟩;have I:(zS l).length<1048576:=by rw[jl];exact Q
 obtain⟨S,X⟩:∃S,S=zS l:=⟨_,rfl⟩;rw[<-X] at I⊢;obtain⟨K,v⟩:∃b,b=Ob.box 30 (zN s a):=⟨_,rfl⟩;have O:K.isRes=false:=by rw[v];rfl
 rw[<-v];refine zz ?_
 refine wp_loop_a ze (λm T h'=>∃n:Nat,n<=S.length/\Pre (h++[K]) h'/\OwnS (h++[K]) h' 55 11 (T 7) (((S.take n).filter (jU s w)).map evC)/\T 2=i64 w/\T 3= .ptr h.length 0/\T 8= .sl 11 (S.map evC)/\T 9=i64 n/\m=S.length - n) S.length
  ⟨0,zb,Pre.refl,.inl ⟨zo,rfl⟩,zo,zo,zo,by(simp only[go_sem]<;>rfl),rfl⟩ ?_
 rintro m T h' ⟨n,hn,q,z,t2,t3,u,t9,rfl⟩;simp only[go_sem,t9,u,zc];refine ways (λe=>?_) (λe=>?_)
 ·have C:=dlt e;have i:=qO evC C;have p:(n:Int)<S.length:=zb;have d:=Zo (jU s w) C;obtain⟨y,W⟩:∃y,y=S[n]:=⟨_,rfl⟩;rw[<-W] at i d
  have hb:h'[h.length]? =some (.box 30 (zN s a)):=by
   obtain⟨L,rfl,_⟩:=q;rw[<-v];exact zk (qr rfl)
  have D:SIn h' s a:=q.sin (k.app _);have fin:n+1<=S.length:=zb;have o:=qh (k:=n) zb rfl;have H:((S.take n).filter (jU s w)).length<=n:=Nat.le_trans (qj _ _) (by rw[zT];omega);refine zz ?_;refine zZ [] 0 (oF [1,2,0,3,4,5,6] ([])) ?_;simp only[go_sem,t9,u,t3,t2,hb,i,p,zc,Int.toNat_natCast,zd,k.w.one,k.e.one,k.c.one,k.g.one,k.r.one,k.t.one];refine zl (Jn _ s a D y) ?_;rintro _ U ⟨rfl,rfl⟩;cases E:km s y with
  | false=>
    have f:jU s w y=false:=(by unfold jU;rw[E,Bool.and_false]);rw[f,if_neg ze,zJ] at d;simp only[go_sem,t9,u,t3,t2,qv];exact⟨S.length - (n+1),zb,n+1,fin,q,by rw[d];exact z,o,rfl⟩
  | true=>
    cases A:y.worker==w with
    | false=>
      have f:jU s w y=false:=(by unfold jU;rw[A];rfl);rw[f,if_neg ze,zJ] at d;simp only[go_sem,t9,u,t3,t2,qv,A,i,p,zc,Int.toNat_natCast,zd];exact⟨S.length - (n+1),zb,n+1,fin,q,by rw[d];exact z,o,rfl⟩
    | true=>
      cases G:y.kind != 7 with
      | false=>
        have f:jU s w y=false:=(by unfold jU;rw[A,G];rfl);rw[f,if_neg ze,zJ] at d;simp only[go_sem,t9,u,t3,t2,qv,A,G,i,p,zc,Int.toNat_natCast,zd];exact⟨S.length - (n+1),zb,n+1,fin,q,by rw[d];exact z,o,rfl⟩
      | true=>
        have f:jU s w y=true:=(by unfold jU;rw[A,G,E];rfl);rw[f,if_pos rfl] at d;simp only[go_sem,t9,u,t3,t2,qv,A,G,i,p,zc,Int.toNat_natCast,zd];obtain⟨F,hF⟩:∃F,F=(S.take n).filter (jU s w):=⟨_,rfl⟩;rw[<-hF] at H z d;rcases z with⟨J,j⟩|⟨id,st,V,J,Z⟩
        ·have j:=List.map_eq_nil_iff.1 j;simp only[go_sem,J,t9];refine⟨S.length - (n+1),zb,n+1,fin,q.app (zA rfl (zW rfl)),.inr ⟨_,_,by have:=q.len;omega,rfl,?_⟩,t2,t3,u,o,rfl⟩;rw[d,j,qa rfl];rfl
        ·have N:(F.length+1)*89<=140737488355328:=(by omega);have R:∀M,(U++M)[id]? =some (.row 55 11 (F.map evC) st):=λM=>zk Z;simp only[go_sem,J,t9,R,N,zc];refine⟨S.length - (n+1),zb,n+1,fin,(q.app (zW rfl)).set V rfl,.inr ⟨id,st+1,V,rfl,?_⟩,t2,t3,u,o,rfl⟩;rw[d,zD];exact zt (R _)
 ·have P:=jO e;rw[List.take_of_length_le P] at z;refine zz ?_;exact Qc zo (q.pre (zW O)) z.pre
def r12ev(h:List Ob)(s:Setup)(a:SA)(k:SIn h s a)(x:AV)(l:List Ev)(w:Int)(b:SlOf h x 11 (l.map evC))(c:l.length<1048576):
    ACalls Tryz.prog 51 [qE s a,x,i64 w] h λr h'=>r= .sl 11 (((zS l).filter (jU s w)).map evC)/\h'=h:=
 wv ze (Zm _) (r12ev0 h s a k x l w b c)
section
variable{top:Int}{x:Ev}{r:List Ev}
def Xj(top:Int):qC top []=(0,top,1):=rfl
def Yr(h:x.at_>top):qC top (x::r)=(0,top,1):=by rw[qC,if_pos h]
def Ys(h:¬ x.at_>top)(a:x.kind=1):qC top (x::r)=(0,x.at_,2):=by rw[qC,if_neg h,if_pos a]
def Yt(h:¬ x.at_>top)(a:¬ x.kind=1)(b:x.kind=2):qC top (x::r)=(0,x.at_,0):=by rw[qC,if_neg h,if_neg a,if_pos b]
def Yu(h:¬ x.at_>top)(a:¬ x.kind=1)(b:¬ x.kind=2):qC top (x::r)=((qC top r).1+1,(qC top r).2):=by rw[qC,if_neg h,if_neg a,if_neg b]
def XG(q:Nat × Int × Int)(i:Nat):AV:= .tup [i64 ((i+1+q.1:Nat):Int),i64 q.2.1,i64 q.2.2]
set_option maxHeartbeats 2000000 in
def r12end(h:List Ob)(s:Setup)(a:SA)(k:SIn h s a)(E:List Ev)(i:Nat)(z:Ev)(H:E[i]? =some z)(K:E.length<1048576):
    ACalls Tryz.prog 52 [qE s a,.sl 11 (E.map evC),i64 i] h λr h'=>r=XG (qC (wr (z.at_+s.cap)) (E.drop (i+1))) i/\h'=h:=by
 have hi:i<E.length:=(zj.1 H).1;have b:(E.map evC)[i]? =some (evC z):=by rw[zw,H];rfl
 have F:(i:Int)<E.length:=zb;have A:wr ((i:Int)+1)=((i+1:Nat):Int):=jM zb;obtain⟨top,x⟩:∃top,top=wr (z.at_+s.cap):=⟨_,rfl⟩;refine enterQX Tryz.f52 λB=>?_;simp only[go_sem,k.w.one,k.e.one,k.c.one,k.g.one,k.r.one,k.t.one];refine zZ [] 0 (oF [0,1,5,2,3,4,6,7,8] ([])) ?_;simp only[go_sem,b,F,A,zc,Int.toNat_natCast,zd, <-x]
 refine wp_loop_a ze (λm T h'=>∃(n:Nat) (L:List Ob),h'=h++L/\i+1<=n/\n<=E.length/\(i+1+(qC top (E.drop (i+1))).1=n+(qC top (E.drop n)).1/\(qC top (E.drop (i+1))).2=(qC top (E.drop n)).2)/\T 1= .sl 11 (E.map evC)/\T 9=i64 top/\T 10=i64 n/\m=E.length - n) (E.length - (i+1))
  ⟨i+1,_,rfl,zb,zb,⟨rfl,rfl⟩,zo,zo,zo,rfl⟩ ?_
 rintro m T h' ⟨n,L,rfl,J,M,⟨f,j⟩,t1,t9,d,rfl⟩;simp only[go_sem,d,t1,zc];refine ways (λe=>?_) (λe=>?_)
 ·have v:=dlt e;have b:=qO evC v;have l:(n:Int)<E.length:=zb;rw[zP v] at f j;obtain⟨y,I⟩:∃y,y=E[n]:=⟨_,rfl⟩;rw[<-I] at b f j;have fin:n+1<=E.length:=zb;have G:=qh (k:=n) zb rfl;simp only[go_sem,d,t1,t9,b,l,zc,Int.toNat_natCast,zd];refine ways (λo=>?_) (λo=>?_)
  ·have o:=of_decide_eq_true o;rw[Yr o] at f j;have u:XG (qC top (E.drop (i+1))) i= .tup [i64 n,i64 top,i64 1]:=(by unfold XG;rw[f,j];rfl);simp only[go_sem,d,t9];exact zm (by simp only[go_sem,u]<;>try rfl)
  ·have o:=of_decide_eq_false o;simp only[go_sem,d,t1,t9,b,l,zc,Int.toNat_natCast,zd];refine ways (λp=>?_) (λp=>?_)
   ·have p:=eq_of_beq p;rw[Ys o p] at f j;have u:XG (qC top (E.drop (i+1))) i= .tup [i64 n,i64 y.at_,i64 2]:=(by unfold XG;rw[f,j];rfl);refine zz ?_;refine zZ [] 0 (oF [0,1,2,6,3,4,5,7,8] ([])) ?_;simp only[go_sem,d,t1,t9,b,l,zc,Int.toNat_natCast,zd];exact zm (by simp only[go_sem,u]<;>try rfl)
   ·have p:=ne_of_beq_false p;simp only[go_sem,d,t1,t9,b,l,zc,Int.toNat_natCast,zd];refine ways (λq=>?_) (λq=>?_)
    ·have q:=eq_of_beq q;rw[Yt o p q] at f j;have u:XG (qC top (E.drop (i+1))) i= .tup [i64 n,i64 y.at_,i64 0]:=(by unfold XG;rw[f,j];rfl);refine zz ?_;refine zZ [] 0 (oF [0,1,2,6,3,4,5,7,8] ([])) ?_;simp only[go_sem,d,t1,t9,b,l,zc,Int.toNat_natCast,zd];exact zm (by simp only[go_sem,u]<;>try rfl)
    ·have q:=ne_of_beq_false q;rw[Yu o p q] at f j;simp only[go_sem,d];exact⟨E.length - (n+1),zb,n+1,_,rfl,zb,fin,⟨by rw[f];omega,j⟩,t1,t9,G,rfl⟩
 ·have D:=jO e;have C:n=E.length:=zb;rw[List.drop_of_length_le D,Xj] at f j;have u:XG (qC top (E.drop (i+1))) i= .tup [i64 E.length,i64 top,i64 1]:=by unfold XG;rw[f,j,C];rfl
  simp only[go_sem,t1,t9,zc];exact zm (by simp only[go_sem,u]<;>try rfl)
end
section
variable{n:Nat}{a b:Int}{e:Ev}
def atP(first last:Int)(E:List Ev):Nat->Int
 | 0=>first
 | n+1=>match E[n+1]? with
   | some e=>toP first last e.at_
   | none=>last
def kxa{first last:Int}{E:List Ev}(h:n<E.length)(a:Int):pR first last a (E.drop n)=y7 a (atP first last E (n+1)) E[n]++pR first last (atP first last E (n+1)) (E.drop (n+1)):=by
 rw[zP h,atP];by_cases b:n+1<E.length
 ·rw[zP b,zg b];rfl
 ·rw[List.drop_of_length_le zb,zR zb];show y7 a last E[n]=y7 a last E[n]++[];rw[zJ]
def kya(h:a<b):y7 a b e=[⟨a,b,wt e.kind,e.id,e.code⟩]:=by unfold y7;rw[if_pos h]
def kza(h:¬ a<b):y7 a b e=[]:=by unfold y7;rw[if_neg h]
def Wg:(y7 a b e).length<=1:=by
 unfold y7;split<;>simp
set_option maxHeartbeats 4000000 in
def r12parts0(h:List Ob)(s:Setup)(a:SA)(k:SIn h s a)(hu:1<=s.unit/\s.unit<=3600)(x:AV)(E:List Ev)(Q:Ev)(he:E[0]? =some Q)(to_:Int)(hx:SlOf h x 11 (E.map evC))(hl:E.length<1048576):
    ACalls Tryz.prog 53 [qE s a,x,i64 to_] h λr h'=>∃L,h'=h++L/\NoRes L/\New h 5 r ((pR (qi Q.at_ s.unit) (qi to_ s.unit) (qi Q.at_ s.unit) E).map qU) L:=by
 have hex:∃r h',(∃L,h'=h++L/\NoRes L/\New h 5 r ((pR (qi Q.at_ s.unit) (qi to_ s.unit) (qi Q.at_ s.unit) E).map qU) L)/\ResK h h':=
  ⟨.sl 5 _,_,⟨[],rfl,kR,λ_ _=>⟨rfl,λ_=>rfl⟩⟩,jp⟩
 have h0:0<E.length:=(zj.1 he).1;have R:(E.map evC)[0]? =some (evC Q):=by rw[zw,he];rfl
 have κ:(0:Int)<E.length:=zb;have μ:∀M,zI (h++M) x=some (E.map evC):=λM=>(hx.app M).rows;have σ:∀M,eOf (h++M) x=some 11:=λM=>(hx.app M).at (i:=0) (by simpa using h0);refine enterQX Tryz.f53 (λB=>?_) (hex);simp only[go_sem,k.w.one,k.e.one,k.c.one,k.g.one,k.r.one,k.t.one,hx.one];refine zZ [] 0 (oF [0,4,1,2,3,5,6,7] ([])) ?_;simp only[go_sem,μ,σ,R,κ,zc,Int.toNat_zero];refine zl (We Q.at_ s.unit _) ?_;rintro _ h2 ⟨rfl,rfl⟩;rw[Kf hu];refine zz ?_;refine qx (We to_ s.unit _) ?_;rw[Kf hu];obtain⟨first,P⟩:∃q,q=qi Q.at_ s.unit:=⟨_,rfl⟩;obtain⟨last,U⟩:∃q,q=qi to_ s.unit:=⟨_,rfl⟩;rw[<-P, <-U];refine zz ?_;obtain⟨bx,α⟩:∃b,b=Ob.box 30 (zN s a):=⟨_,rfl⟩;have ι:bx.isRes=false:=by rw[α];rfl
 rw[<-α]
 refine wp_loop_a ze (λm T h'=>∃(n:Nat) (l:List Seg),n<=E.length/\Pre (h++[bx]) h'/\OwnS (h++[bx]) h' 62 5 (T 9) (l.map qU)/\l.length<=n/\pR first last first E=l++pR first last (atP first last E n) (E.drop n)/\T 1=x/\T 7=i64 first/\T 8=i64 last/\T 10=i64 n/\m=E.length - n) E.length
  ⟨0,[],zb,Pre.refl,.inl ⟨zo,rfl⟩,zh,rfl,zo,zo,zo,by(simp only[go_sem]<;>rfl),rfl⟩ ?_
 rintro m T h' ⟨n,l,hn,O,Y,ω,f,t1,H,I,j,rfl⟩
 have γ:∀M,SlOf (h'++M) x 11 (E.map evC):=λM=>by
  obtain⟨L,rfl,_⟩:=O;rw[zq,zq];exact hx.app _
 have C:∀M,zI (h'++M) x=some (E.map evC):=λM=>(γ M).rows;have D:∀M,eOf (h'++M) x=some 11:=λM=>(γ M).at (i:=0) (by simpa using h0);have o:zI h' x=some (E.map evC):=by have:=C [];rwa[zJ] at this
 have v:eOf h' x=some 11:=by have:=D [];rwa[zJ] at this
 simp only[go_sem,j,t1,o,zc];refine ways (λe=>?_) (λe=>?_)
 ·have W:=dlt e;have d:=qO evC W;have u:(n:Int)<E.length:=zb;rw[kxa W, <-zq] at f;have β:E[n]? =some E[n]:=zg W;obtain⟨y,hy⟩:∃y,y=E[n]:=⟨_,rfl⟩;rw[<-hy] at d f β;have fin:n+1<=E.length:=zb;have G:=qh (k:=n) zb rfl;have ε:wr ((n:Int)+1)=((n+1:Nat):Int):=jM zb
  have hA:(decide ((n:Int)>0)=false/\atP first last E n=first)∨(decide ((n:Int)>0)=true/\atP first last E n=max first (min y.at_ last)):=by
   cases n with
   | zero=>exact .inl ⟨rfl,rfl⟩
   | succ n=>exact .inr ⟨by rw[decide_eq_true_eq];omega,by rw[atP,β];rfl⟩
  have hB:(decide (((n+1:Nat):Int)<(E.length:Int))=false/\atP first last E (n+1)=last)∨∃z:Ev,decide (((n+1:Nat):Int)<(E.length:Int))=true/\((n+1:Nat):Int)<(E.length:Int)/\(E.map evC)[n+1]? =some (evC z)/\atP first last E (n+1)=max first (min z.at_ last):=by
   by_cases q:n+1<E.length
   ·exact .inr ⟨E[n+1],by rw[decide_eq_true_eq];omega,zb,qO evC q,by rw[atP,zg q];rfl⟩
   ·exact .inl ⟨by rw[decide_eq_false_iff_not];omega,by rw[atP,zR zb]⟩
  have Z:∀A B,atP first last E n=A->atP first last E (n+1)=B->A<B->y7 (atP first last E n) (atP first last E (n+1)) y=[⟨A,B,wt y.kind,y.id,y.code⟩]:=by
   rintro _ _ rfl rfl q;exact kya q
  have ζ:∀A B,atP first last E n=A->atP first last E (n+1)=B->¬ A<B->y7 (atP first last E n) (atP first last E (n+1)) y=[]:=by
   rintro _ _ rfl rfl q;exact kza q
  rcases hB with⟨X,N⟩|⟨z,X,ν,ο,N⟩
  ·rcases hA with⟨K,F⟩|⟨K,F⟩
   all_goals
    simp only[go_sem,j,t1,H,I,K,X,ε,d,u,v,o,zc,Int.toNat_natCast,zd,kB,vn]
   all_goals
    refine ways (λV=>?_) (λV=>?_)
    ·rw[Z _ _ F N (of_decide_eq_true V)] at f;rcases Y with⟨t9,p⟩|⟨id,st,q1,t9,q3⟩
     ·have p:=List.map_eq_nil_iff.1 p;subst p;refine zz ?_;refine zZ [.res] 1 (oF [0,1,2,3,4,8,9,13,14,5,6,10,11,12,15,16,17] ((7,0,[10,12,15,17])::oF [18,19,20,21] ([]))) ?_;simp only[go_sem,t9,j,t1,H,I,d,u,v,o,C,D,zc,Int.toNat_natCast,zd];refine zl (Jo y _) ?_;rintro _ h4 ⟨rfl,rfl⟩;simp only[go_sem,t9,j,t1,H,I,d,u,v,o,C,D,zc,Int.toNat_natCast,zd];refine⟨E.length - (n+1),zb,n+1,_,fin,O.app (zA rfl (zW rfl)),.inr ⟨_,_,by have:=O.len;omega,rfl,?_⟩,zh,f,G,rfl⟩;rw[qa rfl];rfl
     ·have J:(l.length+1)*41<=140737488355328:=(by omega);have S:∀M,(h'++M)[id]? =some (.row 62 5 (l.map qU) st):=λM=>zk q3;refine zz ?_;refine zZ [.res] 1 (oF [0,1,2,3,4,8,9,13,14,5,6,10,11,12,15,16,17] ((7,0,[10,12,15,17])::oF [18,19,20,21] ([]))) ?_;simp only[go_sem,t9,j,t1,H,I,d,u,v,o,C,D,S,J,zc,Int.toNat_natCast,zd];refine zl (Jo y _) ?_;rintro _ h4 ⟨rfl,rfl⟩;simp only[go_sem,t9,j,t1,H,I,d,u,v,o,C,D,S,J,zc,Int.toNat_natCast,zd];refine⟨E.length - (n+1),zb,n+1,_,fin,(O.app (zW rfl)).set q1 rfl,.inr ⟨id,st+1,q1,rfl,?_⟩,by simp only[zp,List.length_singleton];omega,f,G,rfl⟩;rw[zD];exact zt (S _)
    ·rw[ζ _ _ F N (of_decide_eq_false V),zJ] at f;simp only[go_sem,j];exact⟨E.length - (n+1),zb,n+1,l,fin,O,Y,zb,f,t1,H,I,G,rfl⟩
  ·rcases hA with⟨K,F⟩|⟨K,F⟩
   all_goals
    simp only[go_sem,j,t1,H,I,K,X,ν,ο,ε,d,u,v,o,zc,Int.toNat_natCast,zd,kB,vn]
   all_goals
    refine ways (λV=>?_) (λV=>?_)
    ·rw[Z _ _ F N (of_decide_eq_true V)] at f;rcases Y with⟨t9,p⟩|⟨id,st,q1,t9,q3⟩
     ·have p:=List.map_eq_nil_iff.1 p;subst p;refine zz ?_;refine zZ [.res] 1 (oF [0,1,2,3,4,8,9,13,14,5,6,10,11,12,15,16,17] ((7,0,[10,12,15,17])::oF [18,19,20,21] ([]))) ?_;simp only[go_sem,t9,j,t1,H,I,d,u,v,o,C,D,zc,Int.toNat_natCast,zd];refine zl (Jo y _) ?_;rintro _ h4 ⟨rfl,rfl⟩;simp only[go_sem,t9,j,t1,H,I,d,u,v,o,C,D,zc,Int.toNat_natCast,zd];refine⟨E.length - (n+1),zb,n+1,_,fin,O.app (zA rfl (zW rfl)),.inr ⟨_,_,by have:=O.len;omega,rfl,?_⟩,zh,f,G,rfl⟩;rw[qa rfl];rfl
     ·have J:(l.length+1)*41<=140737488355328:=(by omega);have S:∀M,(h'++M)[id]? =some (.row 62 5 (l.map qU) st):=λM=>zk q3;refine zz ?_;refine zZ [.res] 1 (oF [0,1,2,3,4,8,9,13,14,5,6,10,11,12,15,16,17] ((7,0,[10,12,15,17])::oF [18,19,20,21] ([]))) ?_;simp only[go_sem,t9,j,t1,H,I,d,u,v,o,C,D,S,J,zc,Int.toNat_natCast,zd];refine qx (Jo y _) ?_;simp only[go_sem,t9,j,t1,H,I,d,u,v,o,C,D,S,J,zc,Int.toNat_natCast,zd];refine⟨E.length - (n+1),zb,n+1,_,fin,(O.app (zW rfl)).set q1 rfl,.inr ⟨id,st+1,q1,rfl,?_⟩,by simp only[zp,List.length_singleton];omega,f,G,rfl⟩;rw[zD];exact zt (S _)
    ·rw[ζ _ _ F N (of_decide_eq_false V),zJ] at f;simp only[go_sem,j];exact⟨E.length - (n+1),zb,n+1,l,fin,O,Y,zb,f,t1,H,I,G,rfl⟩
 ·have ξ:=jO e;rw[List.drop_of_length_le ξ] at f;have f:pR first last first E=l:=by rw[f];unfold pR;rw[zJ]
  rw[<-f] at Y;refine zz ?_;exact Qc zo (O.pre (zW ι)) Y.pre
def yB:∀l:List Seg,jh n (l.map qU)=true
 | []=>rfl
 | e::l=>by
   rw[List.map_cons,jh,yB l];rfl
def r12parts(h:List Ob)(s:Setup)(a:SA)(k:SIn h s a)(f:1<=s.unit/\s.unit<=3600)(x:AV)(E:List Ev)(b:Ev)(e:E[0]? =some b)(to_:Int)(d:SlOf h x 11 (E.map evC))(c:E.length<1048576):
    ACalls Tryz.prog 53 [qE s a,x,i64 to_] h λr h'=>r= .sl 5 ((pR (qi b.at_ s.unit) (qi to_ s.unit) (qi b.at_ s.unit) E).map qU)/\h'=h:=
 wv ze (yB _) (r12parts0 h s a k f x E b e to_ d c)
end
set_option maxHeartbeats 1000000 in
def r12Clock(h:List Ob)(x:AV)(l:List Seg)(D:SlOf h x 5 (l.map qU))(H:l.length<1048576):
    ACalls Tryz.prog 19 [x] h λr h'=>r= .sl 2 ((yY l).map qF)/\h'=h:=by
 refine enterSX Tryz.f19 λB=>?_
 refine wp_loop_a ze (λm T h'=>∃n:Nat,n<=l.length/\Pre h h'/\OwnS h h' 86 2 (T 3) (((l.take n).map spS).map qF)/\T 0=x/\T 4=i64 n/\m=l.length - n) l.length
  ⟨0,zb,Pre.refl,.inl ⟨zo,rfl⟩,zo,by(simp only[go_sem]<;>rfl),rfl⟩ ?_
 rintro m T h' ⟨n,J,q,t,t0,t4,rfl⟩
 have p:∀M,SlOf (h'++M) x 5 (l.map qU):=λM=>by
  obtain⟨L,rfl,_⟩:=q;rw[zq];exact D.app _
 have d:∀M,zI (h'++M) x=some (l.map qU):=λM=>(p M).rows;have v:zI h' x=some (l.map qU):=by have:=d [];rwa[zJ] at this
 simp only[go_sem,t4,t0,v,zc];refine ways (λe=>?_) (λe=>?_)
 ·have f:=dlt e;have a:=qO qU f;have o:∀M,eOf (h'++M) x=some 5:=λM=>(p M).at (i:=n) (by simpa using f);have j:(n:Int)<l.length:=zb;have c:(l.take (n+1)).map spS=(l.take n).map spS++[spS l[n]]:=by rw[<-zG f,zD];rfl
  have g:((l.take n).map spS).length=n:=by rw[zc,zT];omega
  obtain⟨y,C⟩:∃y,y=l[n]:=⟨_,rfl⟩;rw[<-C] at a c;obtain⟨F,G⟩:∃F,F=(l.take n).map spS:=⟨_,rfl⟩;rw[<-G] at c t g;have fin:n+1<=l.length:=zb;have s:=qh (k:=n) zb rfl;rcases t with⟨t3,b⟩|⟨id,st,A,t3,E⟩
  ·have b:=List.map_eq_nil_iff.1 b;refine zz ?_;refine zZ [.res] 1 (oF [0,1,2,6,7,3,4,5,8,9,10,11,12,13,14] ([])) ?_;simp only[go_sem,t3,t4,t0,a,j,d,o,zc,Int.toNat_natCast,zd];refine⟨l.length - (n+1),zb,n+1,fin,q.app (zA rfl (zW rfl)),.inr ⟨_,_,by have:=q.len;omega,rfl,?_⟩,s,rfl⟩;rw[c,b,qa rfl];rfl
  ·have u:(n+1)*17<=140737488355328:=(by omega);have z:∀M,(h'++M)[id]? =some (.row 86 2 (F.map qF) st):=λM=>zk E;refine zz ?_;refine zZ [.res] 1 (oF [0,1,2,6,7,3,4,5,8,9,10,11,12,13,14] ([])) ?_;simp only[go_sem,t3,t4,t0,a,j,d,o,z,g,u,zc,Int.toNat_natCast,zd];refine⟨l.length - (n+1),zb,n+1,fin,(q.app (zW rfl)).set A rfl,.inr ⟨id,st+1,A,rfl,?_⟩,s,rfl⟩;rw[c,zD];exact zt (z _)
 ·have w:=jO e;rw[List.take_of_length_le w] at t;refine zz ?_;refine qx (r3Norm _ _ _ t.rows (by rw[zc];omega)) ?_;obtain⟨L,rfl,I⟩:=q;refine zz ?_;refine zm (r:= .sl 2 ((yY l).map qF)) ?_ (.inr ⟨L,rfl,?_⟩)
  ·refine zz ?_;rfl
  ·exact yw _
set_option maxHeartbeats 1000000 in
def r12Only(h:List Ob)(x:AV)(l:List Seg)(k:Int)(I:SlOf h x 5 (l.map qU))(G:l.length<1048576):
    ACalls Tryz.prog 21 [x,i64 k] h λr h'=>r= .sl 2 ((X8 l k).map qF)/\h'=h:=by
 refine enterSX Tryz.f21 λB=>?_
 refine wp_loop_a ze (λm T h'=>∃n:Nat,n<=l.length/\Pre h h'/\OwnS h h' 62 5 (T 5) (((l.take n).filter λg=>g.kind==k).map qU)/\T 0=x/\T 1=i64 k/\T 6=i64 n/\m=l.length - n) l.length
  ⟨0,zb,Pre.refl,.inl ⟨zo,rfl⟩,zo,zo,by(simp only[go_sem]<;>rfl),rfl⟩ ?_
 rintro m T h' ⟨n,O,q,s,t0,t1,t6,rfl⟩
 have t:∀M,SlOf (h'++M) x 5 (l.map qU):=λM=>by
  obtain⟨L,rfl,_⟩:=q;rw[zq];exact I.app _
 have z:∀M,zI (h'++M) x=some (l.map qU):=λM=>(t M).rows;have d:zI h' x=some (l.map qU):=by have:=z [];rwa[zJ] at this
 simp only[go_sem,t6,t0,d,zc];refine ways (λe=>?_) (λe=>?_)
 ·have o:=dlt e;have b:=qO qU o;have A:∀M,eOf (h'++M) x=some 5:=λM=>(t M).at (i:=n) (by simpa using o);have j:eOf h' x=some 5:=by have:=A [];rwa[zJ] at this
  have f:(n:Int)<l.length:=zb;have a:=Zo (λg:Seg=>g.kind==k) o;have u:((l.take n).filter λg=>g.kind==k).length<=n:=Nat.le_trans (qj _ _) (by rw[zT];omega);obtain⟨y,H⟩:∃y,y=l[n]:=⟨_,rfl⟩;rw[<-H] at b a;obtain⟨F,K⟩:∃F,F=(l.take n).filter λg=>g.kind==k:=⟨_,rfl⟩;rw[<-K] at a s u;have fin:n+1<=l.length:=zb;have p:=qh (k:=n) zb rfl;simp only[go_sem,t6,t0,t1,b,f,j,d,zc,Int.toNat_natCast,zd];refine ways (λw=>?_) (λw=>?_)
  ·rw[if_pos w] at a;rcases s with⟨t5,c⟩|⟨id,st,E,t5,J⟩
   ·have c:=List.map_eq_nil_iff.1 c;simp only[go_sem,t5,t6,t0,t1,b,f,j,d,zc,Int.toNat_natCast,zd];refine⟨l.length - (n+1),zb,n+1,fin,q.app (zA rfl (zW rfl)),.inr ⟨_,_,by have:=q.len;omega,rfl,?_⟩,p,rfl⟩;rw[a,c,qa rfl];rfl
   ·have v:(F.length+1)*41<=140737488355328:=(by omega);have D:∀M,(h'++M)[id]? =some (.row 62 5 (F.map qU) st):=λM=>zk J;simp only[go_sem,t5,t6,t0,t1,b,f,j,d,D,v,zc,Int.toNat_natCast,zd];refine⟨l.length - (n+1),zb,n+1,fin,(q.app (zW rfl)).set E rfl,.inr ⟨id,st+1,E,rfl,?_⟩,p,rfl⟩;rw[a,zD];exact zt (D _)
  ·rw[if_neg (by simp[w]),zJ] at a;simp only[go_sem,t6];exact⟨l.length - (n+1),zb,n+1,fin,q,by rw[a];exact s,t0,t1,p,rfl⟩
 ·have C:=jO e;rw[List.take_of_length_le C] at s;refine zz ?_;refine qx (r12Clock _ _ _ s.rows (Nat.lt_of_le_of_lt (qj _ _) G)) ?_;obtain⟨L,rfl,N⟩:=q;refine zz ?_;refine zm (r:= .sl 2 ((X8 l k).map qF)) ?_ (.inr ⟨L,rfl,?_⟩)
  ·refine zz ?_;rfl
  ·exact yw _
section
variable{s:Setup}{e:Ev}{r:List Ev}
def Kj(top:Int):∀r:List Ev,(qC top r).2.2=0->(qC top r).1<r.length
 | [],h=>by rw[Xj] at h;cases h
 | x::r,h=>by
   by_cases a:x.at_>top
   ·rw[Yr a] at h;cases h
   ·by_cases b:x.kind=1
    ·rw[Ys a b] at h;cases h
    ·by_cases c:x.kind=2
     ·rw[Yt a b c];exact Nat.zero_lt_succ _
     ·rw[Yu a b c] at h⊢;exact Nat.succ_lt_succ (Kj top r h)
def Kk(top:Int):∀r:List Ev,0<=(qC top r).2.2
 | []=>by rw[Xj];exact(by decide:(0:Int)<=1)
 | x::r=>by
   by_cases a:x.at_>top
   ·rw[Yr a];exact(by decide:(0:Int)<=1)
   ·by_cases b:x.kind=1
    ·rw[Ys a b];exact(by decide:(0:Int)<=2)
    ·by_cases c:x.kind=2
     ·rw[Yt a b c];exact(by decide:(0:Int)<=0)
     ·rw[Yu a b c];exact Kk top r
def j9a(s:Setup):jE s []=([],[]):=by rw[jE]
def Yv(h:¬ e.kind=1):jE s (e::r)=((jE s r).1,⟨e.id,3⟩::(jE s r).2):=by rw[jE,if_neg h]
def tell_one(h:e.kind=1):jE s (e::r)=(pR (qi e.at_ s.unit) (qi (qC (wr (e.at_+s.cap)) r).2.1 s.unit) (qi e.at_ s.unit) (e::r.take (qC (wr (e.at_+s.cap)) r).1)++(jE s (kr (qC (wr (e.at_+s.cap)) r) r)).1,
    (if(qC (wr (e.at_+s.cap)) r).2.2>0 then [⟨e.id,(qC (wr (e.at_+s.cap)) r).2.2⟩] else [])++(jE s (kr (qC (wr (e.at_+s.cap)) r) r)).2):=by rw[jE,if_pos h]
def Yw{first last:Int}:∀(a:Int) (E:List Ev),(pR first last a E).length<=E.length
 | _,[]=>zB _
 | a,[e]=>Wg
 | a,e::f::r=>by
   rw[pR,zp];have:=Yw (first:=first) (last:=last) (toP first last f.at_) (f::r);have:= @Wg a (toP first last f.at_) e;simp only[List.length_cons] at*
   omega
def TlI(s:Setup)(E:List Ev)(n:Nat)(a:List Seg)(b:List Flg):Prop:=jE s E=(a++(jE s (E.drop n)).1,b++(jE s (E.drop n)).2)
def TlI.other{E:List Ev}{n:Nat}{a:List Seg}{b:List Flg}(g:TlI s E n a b)(h:n<E.length)(q:¬ E[n].kind=1):TlI s E (n+1) a (b++[⟨E[n].id,3⟩]):=by
 unfold TlI at g⊢;rw[zP h,Yv q] at g;rw[g,zq];rfl
set_option maxHeartbeats 4000000 in
def r12Of0(h:List Ob)(s:Setup)(a:SA)(k:SIn h s a)(f:SFit s)(x:AV)(l:List Ev)(w:Int)(hx:SlOf h x 11 (l.map evC))(hl:l.length<1048576)(hok:zX s=true):
    ACalls Tryz.prog 14 [qE s a,x,i64 w] h λr h'=>∃L y z,h'=h++L/\NoRes L/\r= .tup [y,z]/\New h 5 y ((jE s ((zS l).filter (jU s w))).1.map qU) L/\New h 2 z ((jE s ((zS l).filter (jU s w))).2.map kZ) L:=by
 have hex:∃r h',(∃L y z,h'=h++L/\NoRes L/\r=AV.tup [y,z]/\New h 5 y ((jE s ((zS l).filter (jU s w))).1.map qU) L/\New h 2 z ((jE s ((zS l).filter (jU s w))).2.map kZ) L)/\ResK h h':=
  ⟨_,_,⟨[],.sl 5 _,.sl 2 _,rfl,kR,rfl,λ_ _=>⟨rfl,λ_=>rfl⟩,λ_ _=>⟨rfl,λ_=>rfl⟩⟩,jp⟩
 have θ:=(vH hok).1;refine enterQX Tryz.f14 (λB=>?_) (hex);simp only[go_sem,k.w.one,k.e.one,k.c.one,k.g.one,k.r.one,k.t.one];refine zl (Zn _ s a (k.app _) f) ?_;rintro _ V ⟨rfl,rfl⟩;simp only[go_sem,hok,Bool.not_true,qv,hx.one];refine zl (r12ev _ s a (k.app _) x l w (hx.app _) hl) ?_;rintro _ V ⟨rfl,rfl⟩;have φ:((zS l).filter (jU s w)).length<1048576:=Nat.lt_of_le_of_lt (qj _ _) (by rw[jl];exact hl);obtain⟨E,hE⟩:∃E,E=(zS l).filter (jU s w):=⟨_,rfl⟩;rw[<-hE] at φ⊢;obtain⟨bx,α⟩:∃b,b=Ob.box 30 (zN s a):=⟨_,rfl⟩;have hbr:bx.isRes=false:=by rw[α];rfl
 rw[<-α];refine zz ?_
 refine wp_loop_a ze (λm T h'=>∃(n:Nat) (u:List Seg) (F:List Flg),n<=E.length/\Pre (h++[bx]) h'/\OwnS (h++[bx]) h' 62 5 (T 10) (u.map qU)/\OwnS (h++[bx]) h' 84 2 (T 11) (F.map kZ)/\u.length<=n/\F.length<=n/\TlI s E n u F/\T 3= .ptr h.length 0/\T 9= .sl 11 (E.map evC)/\T 12=i64 n/\m=E.length - n) E.length
  ⟨0,[],[],zb,Pre.refl,.inl ⟨zo,rfl⟩,.inl ⟨zo,rfl⟩,zh,zh,rfl,zo,zo,by(simp only[go_sem]<;>rfl),rfl⟩ ?_
 rintro m T h' ⟨n,u,F,hn,I,ho,hf,hal,hfl,g,t3,t9,i,rfl⟩;simp only[go_sem,i,t9,zc];refine ways (λe=>?_) (λe=>?_)
 ·have U:=dlt e;have j:=qO evC U;have D:(n:Int)<E.length:=zb;have fin:n+1<=E.length:=zb;have hts:=qh (k:=n) zb rfl;have δ:=λq=>g.other U q;simp only[go_sem,i,t9,j,D,zc,Int.toNat_natCast,zd];refine ways (λe2=>?_) (λe2=>?_)
  ·have e2:¬ E[n].kind=1:=(by simpa using e2);have g2:=δ e2;obtain⟨y,hy⟩:∃y,y=E[n]:=⟨_,rfl⟩;rw[<-hy] at j g2;rcases hf with⟨K,d⟩|⟨id,st,W,K,Q⟩
   ·have d:=List.map_eq_nil_iff.1 d;subst d;simp only[go_sem,K,i,t9,j,D,zc,Int.toNat_natCast,zd];refine⟨E.length - (n+1),zb,n+1,u,_,fin,I.app (zA rfl (zW rfl)),ho.app _,.inr ⟨_,_,by have:=I.len;omega,rfl,?_⟩,zb,?_,g2,t3,hts,rfl⟩
    ·rw[qa rfl];rfl
    ·simp only[zp,List.length_singleton];omega
   ·have O:(F.length+1)*17<=140737488355328:=(by omega);have hg:∀M,(h'++M)[id]? =some (.row 84 2 (F.map kZ) st):=λM=>zk Q;simp only[go_sem,K,i,t9,j,D,hg,O,zc,Int.toNat_natCast,zd];refine⟨E.length - (n+1),zb,n+1,u,_,fin,(I.app (zW rfl)).set W rfl,(ho.app _).set_row (hg _) ze _,.inr ⟨id,st+1,W,rfl,?_⟩,zb,?_,g2,t3,hts,rfl⟩
    ·rw[zD];exact zt (hg _)
    ·simp only[zp,List.length_singleton];omega
  ·have e2:E[n].kind=1:=by simpa using e2
   have hb:h'[h.length]? =some (.box 30 (zN s a)):=by
    obtain⟨L,rfl,_⟩:=I;rw[<-α];exact zk (qr rfl)
   have hbM:∀M,(h'++M)[h.length]? =some (.box 30 (zN s a)):=λM=>zk hb;have hsin:∀M,SIn (h'++M) s a:=λM=>(I.sin (k.app _)).app M;have Y:SIn h' s a:=I.sin (k.app _);have ζ:E[n]? =some E[n]:=zg U;unfold TlI at g;rw[zP U,tell_one e2] at g;obtain⟨y,hy⟩:∃y,y=E[n]:=⟨_,rfl⟩;rw[<-hy] at j g ζ;obtain⟨q,hq⟩:∃q,q=qC (wr (y.at_+s.cap)) (E.drop (n+1)):=⟨_,rfl⟩;have χ:q.1<=(E.drop (n+1)).length:=(by rw[hq];exact Wc _ _);have κ:q.2.2=0->q.1<(E.drop (n+1)).length:=(by rw[hq];exact Kj _ _);rw[List.length_drop] at χ κ;have μ:(n:Int)<=((n+1+q.1:Nat):Int):=zb;have ο:((n+1+q.1:Nat):Int)<=(E.length:Int):=zb;have X:n+1+q.1 - n=q.1+1:=zb
   have ι:∀H,SlOf H (.vw (.sl 11 (E.map evC)) 11 n (q.1+1)) 11 ((y::(E.drop (n+1)).take q.1).map evC):=λH=>by
    have e1:(y::(E.drop (n+1)).take q.1)=(E.drop n).take (q.1+1):=by
     rw[zP U, <-hy,List.take_succ_cons]
    refine⟨?_,λ_=>?_⟩
    ·rw[xX];show(if _ then _ else _)=_;rw[if_pos ⟨by rw[zc];omega,.inr rfl⟩,e1, <-List.map_drop, <-List.map_take]
    ·rfl
   rw[<-hq] at g;simp only[go_sem,t3,i,t9,hb,j,D,k.w.one,k.e.one,k.c.one,k.g.one,k.r.one,k.t.one,zc,Int.toNat_natCast,zd];refine zl (r12end _ s a Y E n y ζ φ) ?_;rintro _ V ⟨rfl,rfl⟩;rw[<-hq];simp only[go_sem,XG,t3,i,t9];refine ways (λe3=>?_) (λe3=>?_)
   ·have e3p:=of_decide_eq_true e3;have hz:¬ q.2.2=0:=zb;have J:(q.2.2==0)=false:=beq_false_of_ne hz;rw[if_pos e3p,kr,if_neg hz,List.drop_drop, <-zq, <-zq] at g;have Z:=Yw (first:=qi y.at_ s.unit) (last:=qi q.2.1 s.unit) (qi y.at_ s.unit) (y::(E.drop (n+1)).take q.1);simp only[List.length_cons,zT,List.length_drop] at Z;obtain⟨P,hP⟩:∃P,P=pR (qi y.at_ s.unit) (qi q.2.1 s.unit) (qi y.at_ s.unit) (y::(E.drop (n+1)).take q.1):=⟨_,rfl⟩;rw[<-hP] at g Z
    have A:((P.map qU).all λr=>r.length==5 && r.all AV.one)=true:=by
     rw[zY];rintro r hr;obtain⟨e,_,rfl⟩:=zQ.1 hr;rfl
    have β:P.length*41<=140737488355328:=zb;have O:(u.length+P.length)*41<=140737488355328:=zb;have hfb:(F.length+1)*17<=140737488355328:=zb;have N:(F++[(⟨y.id,q.2.2⟩:Flg)]).length<=n+1+q.1:=(by simp only[zp,List.length_singleton];omega);have S:∀ {H:List Ob},Pre (h++[bx]) H->SIn H s a:=λp=>p.sin (k.app _)
    have ω:∀ {H:List Ob},Pre (h++[bx]) H->H[h.length]? =some (.box 30 (zN s a)):=λp=>by
     obtain⟨L,rfl,_⟩:=p;rw[<-α];exact zk (qr rfl)
    rcases hf with⟨K,d⟩|⟨R,G,ν,K,q13⟩
    ·have d:=List.map_eq_nil_iff.1 d;subst d;simp only[go_sem,K,i,t9,j,D,zc,Int.toNat_natCast,zd];have C:=I.app (zA (o:= .row 84 2 [[i64 y.id,i64 q.2.2]] 0) rfl (zW (o:= .row 84 2 [[i64 y.id,i64 q.2.2]] 0) rfl));have γ:=ω C;refine zZ [] 0 (oF [0,2,3,4,6,1,5,7,8,9] ([])) ?_;simp only[go_sem,t3,i,t9,γ,j,D,k.w.one,k.e.one,k.c.one,k.g.one,k.r.one,k.t.one,zc,Int.toNat_natCast,zd];simp only[go_sem,μ,ο,X,or_true,and_self,if_true];refine qx (r12parts _ s a (S C) θ _ (y::(E.drop (n+1)).take q.1) y rfl q.2.1 (ι _) (by simp only[List.length_cons,zT,List.length_drop];omega)) ?_;rw[<-hP];have hnew:∀M,((V++[Ob.row 84 2 [[i64 y.id,i64 q.2.2]] 0,Ob.row 84 2 [[i64 y.id,i64 q.2.2]] 0])++M)[V.length+1]? =some (.row 84 2 [[i64 y.id,i64 q.2.2]] 0):=λM=>(by rw[zq,qa rfl];rfl);rcases ho with⟨v,d⟩|⟨id,st,W,v,Q⟩
     ·have d:=List.map_eq_nil_iff.1 d;subst d;simp only[go_sem,v,t3,i,t9,A,β,J,zc];exact⟨E.length - (n+1+q.1),zb,n+1+q.1,[]++P,[]++[(⟨y.id,q.2.2⟩:Flg)],zb,I.app (zA rfl (zA rfl (zW rfl))),.inr ⟨_,_,by have:=I.len;omega,rfl,by rw[qa (k:=2) rfl];rfl⟩,.inr ⟨V.length+1,0,by have:=I.len;omega,rfl,by rw[qa (k:=1) rfl];rfl⟩,(by rw[List.nil_append];omega),N,g,rfl,rfl⟩
     ·have hg:∀M,(V++M)[id]? =some (.row 62 5 (u.map qU) st):=λM=>zk Q;simp only[go_sem,v,t3,i,t9,A,O,hg,J,zc];refine⟨E.length - (n+1+q.1),zb,n+1+q.1,u++P,[]++[(⟨y.id,q.2.2⟩:Flg)],zb,C.set W rfl,.inr ⟨id,st+1,W,rfl,?_⟩,OwnS.set_row (.inr ⟨V.length+1,0,by have:=I.len;omega,rfl,by rw[qa (k:=1) rfl];rfl⟩) (hg _) ze _,by rw[zp];omega,N,g,rfl,rfl⟩;rw[zD];exact zt (hg _)
    ·have ξ:∀M,(V++M)[R]? =some (Ob.row 84 2 (F.map kZ) G):=λM=>zk q13;simp only[go_sem,K,i,t9,j,D,ξ,hfb,zc,Int.toNat_natCast,zd];have C:=(I.app (zW (o:= .row 84 2 [[i64 y.id,i64 q.2.2]] 0) rfl)).set (o:= .row 84 2 (F.map kZ++[[i64 y.id,i64 q.2.2]]) (G+1)) ν rfl;have ho2:=(ho.app [Ob.row 84 2 [[i64 y.id,i64 q.2.2]] 0]).set_row (ξ _) ze (Ob.row 84 2 (F.map kZ++[[i64 y.id,i64 q.2.2]]) (G+1));have hf2:=zt (b:=Ob.row 84 2 (F.map kZ++[[i64 y.id,i64 q.2.2]]) (G+1)) (ξ [Ob.row 84 2 [[i64 y.id,i64 q.2.2]] 0]);have γ:=ω C;obtain⟨H,hH⟩:∃H,H=(V++[Ob.row 84 2 [[i64 y.id,i64 q.2.2]] 0]).set R (Ob.row 84 2 (F.map kZ++[[i64 y.id,i64 q.2.2]]) (G+1)):=⟨_,rfl⟩;rw[<-hH] at C ho2 hf2 γ⊢;refine zZ [] 0 (oF [0,2,3,4,6,1,5,7,8,9] ([])) ?_;simp only[go_sem,t3,i,t9,γ,j,D,k.w.one,k.e.one,k.c.one,k.g.one,k.r.one,k.t.one,zc,Int.toNat_natCast,zd];simp only[go_sem,μ,ο,X,or_true,and_self,if_true];refine zl (r12parts _ s a (S C) θ _ (y::(E.drop (n+1)).take q.1) y rfl q.2.1 (ι _) (by simp only[List.length_cons,zT,List.length_drop];omega)) ?_;rintro _ H ⟨rfl,rfl⟩;rw[<-hP];have hf3:H[R]? =some (Ob.row 84 2 ((F++[(⟨y.id,q.2.2⟩:Flg)]).map kZ) (G+1)):=(by rw[zD];exact hf2);rcases ho2 with⟨v,d⟩|⟨id,st,W,v,Q⟩
     ·have d:=List.map_eq_nil_iff.1 d;subst d;simp only[go_sem,v,t3,i,t9,A,β,J,zc];exact⟨E.length - (n+1+q.1),zb,n+1+q.1,[]++P,F++[(⟨y.id,q.2.2⟩:Flg)],zb,C.app (zW rfl),.inr ⟨_,_,C.len,rfl,by rw[qr rfl];rfl⟩,.inr ⟨R,G+1,ν,rfl,zk hf3⟩,(by rw[List.nil_append];omega),N,g,rfl,rfl⟩
     ·simp only[go_sem,v,t3,i,t9,A,O,Q,J,zc];refine⟨E.length - (n+1+q.1),zb,n+1+q.1,u++P,F++[(⟨y.id,q.2.2⟩:Flg)],zb,C.set W rfl,.inr ⟨id,st+1,W,rfl,?_⟩,OwnS.set_row (.inr ⟨R,G+1,ν,rfl,hf3⟩) Q ze _,by rw[zp];omega,N,g,rfl,rfl⟩;rw[zD];exact zt Q
   ·refine zz ?_;refine zZ [] 0 (oF [0,2,3,4,6,1,5,7,8,9] ([])) ?_;simp only[go_sem,t3,i,t9,hb,hbM,j,D,k.w.one,k.e.one,k.c.one,k.g.one,k.r.one,k.t.one,zc,Int.toNat_natCast,zd];simp only[go_sem,μ,ο,X,or_true,and_self,if_true];refine zl (r12parts _ s a Y θ _ (y::(E.drop (n+1)).take q.1) y rfl q.2.1 (ι _) (by simp only[List.length_cons,zT,List.length_drop];omega)) ?_;rintro _ V ⟨rfl,rfl⟩;have hq0:0<=q.2.2:=(by rw[hq];exact Kk _ _);have hz:q.2.2=0:=(by have:=of_decide_eq_false e3;omega);have J:(q.2.2==0)=true:=(by rw[hz];rfl);have κ:=κ hz;rw[if_neg zb,List.nil_append,kr,if_pos hz,List.drop_drop, <-zq] at g;have Z:=Yw (first:=qi y.at_ s.unit) (last:=qi q.2.1 s.unit) (qi y.at_ s.unit) (y::(E.drop (n+1)).take q.1);simp only[List.length_cons,zT,List.length_drop] at Z;obtain⟨P,hP⟩:∃P,P=pR (qi y.at_ s.unit) (qi q.2.1 s.unit) (qi y.at_ s.unit) (y::(E.drop (n+1)).take q.1):=⟨_,rfl⟩;rw[<-hP] at g Z⊢
    have A:((P.map qU).all λr=>r.length==5 && r.all AV.one)=true:=by
     rw[zY];rintro r hr;obtain⟨e,_,rfl⟩:=zQ.1 hr;rfl
    have υ:wr (((n+1+q.1:Nat):Int)+1)=((n+1+(q.1+1):Nat):Int):=jM zb;have β:P.length*41<=140737488355328:=zb;rcases ho with⟨v,d⟩|⟨id,st,W,v,Q⟩
    ·have d:=List.map_eq_nil_iff.1 d;subst d;simp only[go_sem,v,t3,i,t9,A,β,J,υ,zc];exact⟨E.length - (n+1+(q.1+1)),zb,n+1+(q.1+1),_,F,zb,I.app (zW rfl),.inr ⟨_,_,by have:=I.len;omega,rfl,by rw[qr rfl];rfl⟩,hf.app _,by simp only[List.nil_append];omega,zb,g,rfl,rfl⟩
    ·have O:(u.length+P.length)*41<=140737488355328:=(by omega);have hg:∀M,(V++M)[id]? =some (.row 62 5 (u.map qU) st):=λM=>zk Q;simp only[go_sem,v,t3,i,t9,A,O,Q,J,υ,zc];refine⟨E.length - (n+1+(q.1+1)),zb,n+1+(q.1+1),_,F,zb,I.set W rfl,.inr ⟨id,st+1,W,rfl,?_⟩,hf.set_row Q ze _,by rw[zp];omega,zb,g,rfl,rfl⟩;rw[zD];exact zt Q
 ·have hge:=jO e;unfold TlI at g;rw[List.drop_of_length_le hge,j9a,zJ,zJ] at g;rw[g];refine zz ?_;obtain⟨L,rfl,hL⟩:=I.pre (zW hbr);exact⟨.tup [T 10,T 11],zo,.inl ⟨L,T 10,T 11,rfl,hL,rfl,OwnS.new ho.pre (zB _),OwnS.new hf.pre (zB _)⟩⟩
end
def ZR{n:Nat}:∀l:List Flg,jh n (l.map kZ)=true
 | []=>rfl
 | e::l=>by
   rw[List.map_cons,jh,ZR l];rfl
def r12Of1(h:List Ob)(s:Setup)(a:SA)(k:SIn h s a)(f:SFit s)(x:AV)(l:List Ev)(w:Int)(c:SlOf h x 11 (l.map evC))(d:l.length<1048576)(b:zX s=true):
    ACalls Tryz.prog 14 [qE s a,x,i64 w] h λr h'=>r= .tup [.sl 5 ((jE s ((zS l).filter (jU s w))).1.map qU),.sl 2 ((jE s ((zS l).filter (jU s w))).2.map kZ)]/\h'=h:=
 QW ze ze (yB _) (ZR _) (r12Of0 h s a k f x l w c d b)
def r12Of2(h:List Ob)(s:Setup)(a:SA)(k:SIn h s a)(f:SFit s)(x:AV)(l:List Ev)(w:Int)(d:AV.one x=true)(b:zX s=false):
    ACalls Tryz.prog 14 [qE s a,x,i64 w] h λr h'=>r= .tup [.v (.slice none 0 0),.v (.slice none 0 0)]/\h'=h:=by
 refine enterQX Tryz.f14 λB=>?_;simp only[go_sem,k.w.one,k.e.one,k.c.one,k.g.one,k.r.one,k.t.one,d];refine qx (Zn _ s a (k.app _) f) ?_;simp only[go_sem,b,Bool.not_false,qv];exact qt
def vUa{s:Setup}{w:Int}{l:List Ev}(c:zX s=true):∀e∈(zS l).filter (jU s w),wr (e.at_+s.cap)<32054400:=by
 intro e d;have a:=(qD.1 d).2;unfold jU at a;rw[zi, <-Y7] at a;have b:=a.2;unfold jVa X9 at b;rw[zi,zi,Bool.not_eq_true',V3] at b;have f:=(vH c).2;have g:=b.1.1;rw[qb qg];omega
def r12Of(h:List Ob)(s:Setup)(a:SA)(k:SIn h s a)(f:SFit s)(x:AV)(l:List Ev)(w:Int)(c:SlOf h x 11 (l.map evC))(d:l.length<1048576):
    ACalls Tryz.prog 14 [qE s a,x,i64 w] h λr h'=>r= .tup [.sl 5 ((qq s l w).1.map qU),.sl 2 ((qq s l w).2.map kZ)]/\h'=h:=by
 cases b:zX s with
 | true=>
   rw[Yq b (vUa b)];exact r12Of1 h s a k f x l w c d b
 | false=>
   refine QW ze ze (yB _) (ZR _) ((r12Of2 h s a k f x l w c.one b).mono ?_);rintro _ _ ⟨rfl,rfl⟩;have e:qq s l w=([],[]):=(by unfold qq;rw[b];rfl);rw[e];exact⟨[],_,_,zh,kR,rfl,λ_ _=>⟨rfl,λq=>absurd rfl q⟩,λ_ _=>⟨rfl,λq=>absurd rfl q⟩⟩
end Go.Proofs.YtjeehgkolepogaaGreat.Ax
namespace Go.Proofs.YtjeehgkolepogaaGreat.Ax
open Go Go.Proofs
def wLa(s t:Spn):Spn:=⟨max s.from_ t.from_,min s.to_ t.to_⟩
def wMa(a b:List Spn):List Spn:=a.flatMap λs=>b.map (wLa s)
def ysa(a b:List Spn):List Spn:=xo (wMa (xo a) (xo b))
def xaa(s:Spn)(n:Int):Spn:=⟨s.from_,min s.to_ (s.from_+min n 32054400)⟩
def xba:List Spn->Int->List Spn
 | [],_=>[]
 | s::r,n=>if n<=0 then [] else xaa s n::xba r (n - ((xaa s n).to_ - s.from_))
def zca(l:List Spn)(n:Int):List Spn:=xba (xo l) n
set_option maxRecDepth 100000
def spv(l:List Spn):AV:= .sl 2 (l.map qF)
def xca{h:List Ob}(l:List Spn):zI h (spv l)=some (l.map qF):=rfl
def wNa{h:List Ob}(l:List Spn):eOf h (spv l)=some 2:=rfl
def kAa(l:List Spn):AV.one (spv l)=true:=rfl
def qva(l:List Spn):AV.cells (spv l)=some [spv l]:=rfl
attribute [go_sem] xca wNa kAa qva
def wOa(l:List Spn)(n size:Int):List Spn:=if n<0∨n>32054400 / size then [] else ysa l [⟨n*size,(n+1)*size⟩]
def wPa(l:List Spn)(d:Int):List Spn:=wOa l d 86400
end Go.Proofs.YtjeehgkolepogaaGreat.Ax
namespace Go.Proofs.YtjeehgkolepogaaGreat.Ax
open Go Go.RowKit
structure LIn (F:List (Nat × Ob)) (h0 h:List Ob) (i bty ty e:Nat) (rows:List (List AV)):Prop where
 pre:Pre h0 h
 le:h0.length<=i
 kept:∀z∈F,z.1≠i/\(∃t cs,z.2= .box t cs)/\h[z.1]? =some z.2
 at_:∃x,h[i]? =some (.box bty [x])/\OwnS h0 h ty e x rows
variable {F:List (Nat × Ob)} {h0 h:List Ob} {i bty ty e:Nat} {rows rows':List (List AV)}
end Go.Proofs.YtjeehgkolepogaaGreat.Ax
namespace Go.Proofs.YtjeehgkolepogaaGreat.Ax
open Go Go.Proofs
set_option maxRecDepth 100000
end Go.Proofs.YtjeehgkolepogaaGreat.Ax
namespace Go.Proofs.YtjeehgkolepogaaGreat.Ax
open Go Go.RowKit
section
variable {P:Program} {ops:Array Oper} {Q:Exit->Act->World->Prop}
end
section
variable {P:Program} {N b:Nat} {T:Env} {h:List Ob} {c c':Code} {ops:Array Oper} {Q Q':xk}
abbrev Kl:=Exit->List Deferred->Env->List Ob->Prop
def yta(P:Program)(N b:Nat)(ds:List Deferred)(c:Code)(Q:Kl)(T:Env)(h:List Ob):Prop:=
 ∀ (φ:Nat->Ob),Upto φ h.length->∀(w:World) (g:Gh) (a:Act),Rel N ⟨b,ds⟩ w g (fill φ h) a T->
   c.wp P (λe a' w'=>∃d f h',Q e d f h'/\∃g',ResK h h'/\Rel N ⟨b,d⟩ w' g' (fill φ h') a' f/\Good b w g (fill φ h) w' g' (fill φ h')) a w
variable {ds:List Deferred} {X X':Kl}
end
section
variable {P:Program}
end
section
variable {P:Program} {N b:Nat} {T:Env} {h:List Ob} {ds:List Deferred}
end
section
variable {F:List (Nat × Ob)} {h0 h:List Ob} {i bty ty e:Nat} {rows rows':List (List AV)}
end
section
variable {P:Program} {N b:Nat} {T:Env} {h:List Ob} {ds:List Deferred}
def k7a(P:Program)(N b:Nat)(ds:List Deferred)[x:Held (Code × Kl)](T:Env)(h:List Ob):Prop:=yta P N b ds x.it.1 x.it.2 T h
end
section
variable {P:Program} {N b:Nat} {T:Env} {h:List Ob} {ds:List Deferred}
def xda(P:Program)(N b:Nat)(ds:List Deferred)[x:Held (Code × Kl)]:xk
 | .normal,T,h=> @k7a P N b ds x T h
 | e,T,h=>x.it.2 e ds T h
def xea(x:Held (Code × Kl)): @xda P N b ds x .normal T h= @k7a P N b ds x T h:=id rfl
def xfa(c:Code)(X:Kl): @xda P N b ds ⟨(c,X)⟩ .ret T h=X .ret ds T h:=id rfl
attribute [go_sem] xea xfa
end
end Go.Proofs.YtjeehgkolepogaaGreat.Ax
namespace Go.Proofs.YtjeehgkolepogaaGreat.Ax
open Go Go.Proofs
set_option maxRecDepth 100000
open Go.RowKit
attribute [go_sem] vja woa wpa wqa wra kUa wea kVa wfa qOa wga wha wia kWa kXa kYa kZa k0a wja qPa k1a wka wla wma wna xRa xSa xTa qMa zBa qNa ty3 v2a xUa vha v3a ty4 v4a v5a v6a ty5 xVa v7a v8a w3a w4a w5a xWa via v9a waa wba wca ty9 wda
end Go.Proofs.YtjeehgkolepogaaGreat.Ax
namespace Go.Proofs.YtjeehgkolepogaaGreat.Ax
open Go Go.Proofs
set_option maxRecDepth 100000
structure Times (s:Setup):Prop where
 unit:1<=s.unit/\s.unit<=3600
 cap:60<=s.cap/\s.cap<=57600
 paidBreak:0<=s.paidBreak/\s.paidBreak<=86400
 autoAfter:0<=s.autoAfter/\s.autoAfter<=86400
 autoBreak:0<=s.autoBreak/\s.autoBreak<=86400
 nightFrom:0<=s.nightFrom/\s.nightFrom<=86400
 nightTo:0<=s.nightTo/\s.nightTo<=86400
 dayOver:0<=s.dayOver/\s.dayOver<=86400
 dayReg:0<=s.dayReg/\s.dayReg<=s.dayOver
 weekReg:0<=s.weekReg/\s.weekReg<=604800
structure L2 (F:List (Nat × Ob)) (h0 h:List Ob) (i j bty ty e:Nat) (r1 r2:List (List AV)):Prop where
 pre:Pre h0 h
 li:h0.length<=i
 lj:h0.length<=j
 ne:i≠j
 kept:∀z∈F,z.1≠i/\z.1≠j/\(∃t cs,z.2= .box t cs)/\h[z.1]? =some z.2
 at_:∃x y,h[i]? =some (.box bty [x])/\h[j]? =some (.box bty [y])/\OwnS h0 h ty e x r1/\OwnS h0 h ty e y r2/\∀a s b t,x= .tl a s->y= .tl b t->a≠b
end Go.Proofs.YtjeehgkolepogaaGreat.Ax
namespace Go.Proofs.YtjeehgkolepogaaGreat.Ax
open Go
open Go.Proofs
set_option maxRecDepth 100000
def Sv(y:AV)(R:List Spn):Prop:=y=spv R∨y= .v (.slice none 0 0)/\R=[]
def yua(s:Setup)(W:List Spn)(l:List Int):List Spn:=l.flatMap λd=>zca (wPa W d) s.dayReg
def yva(s:Setup)(W:List Spn)(l:List Int):List Spn:=l.flatMap λd=>zca (wPa W d) s.dayOver
structure KOv (h:List Ob) (s:Setup) (a:SA) (W:List Spn) (l:List Int) (h':List Ob):Prop where
 pre:Pre h h'
 set_:h'[h.length]? =some (.box 30 (zN s a))
 reg:∃y,h'[h.length+1]? =some (.box 49 [y])/\Sv y (yua s W l)
 ovr:∃y,h'[h.length+2]? =some (.box 49 [y])/\Sv y (yva s W l)
 wk:h'[h.length+3]? =some (.box 49 [spv W])
open Go.Shelf Go.RowKit Go.Lib Go.Sort
section
variable {α:Type} [Inhabited α] (enc:α->List Value) (K:Nat)
end
structure Pt where
 from_:Int
 to_:Int
 kind:Int
instance:Inhabited Pt:=⟨⟨0,0,0⟩⟩
end Go.Proofs.YtjeehgkolepogaaGreat.Ax
namespace Go.Proofs.YtjeehgkolepogaaGreat.Ax
open Go Go.Proofs
set_option maxRecDepth 100000
def Yz(f:Nat->Int):List AV:=[i64 (f 0),i64 (f 1),i64 (f 2),i64 (f 3),i64 (f 4),i64 (f 5),i64 (f 6)]
def xla(f:Nat->Int):cut (Yz f) 0 7=some (Yz f):=rfl
def xma(f g:Nat->Int):lay (Yz f) 0 (Yz g)=some (Yz g):=rfl
def xna(f:Nat->Int):(Yz f).all AV.one=true:=rfl
def xoa(f:Nat->Int):(Yz f).length=7:=rfl
attribute [go_sem] xla xma xna xoa
open Go.RowKit Go.Lib
end Go.Proofs.YtjeehgkolepogaaGreat.Ax
namespace Go.Proofs.YtjeehgkolepogaaGreat.Ax
open Go Go.Proofs
set_option maxRecDepth 100000
section
variable {P:Program} {N:Nat} {B:Bs} {Q:xk} {T:Env} {h:List Ob}
end
structure PayR where
 pays:Nat->Int
 extra:Int
 supp:Int
 total:Int
end Go.Proofs.YtjeehgkolepogaaGreat.Ax
namespace Go.Proofs.YtjeehgkolepogaaGreat.Ax
open Go
structure FlF (D:List Ev) (t:TellS):Prop where
 flags:∀x∈t.flags,∃e∈D,e.id=x.id
 opn:∀f os,t.open_=some (f,os)->f∈D
section
variable {D:List Ev} {t:TellS} {s:Setup}
end
open Go.Proofs
set_option maxRecDepth 100000
structure RowV where
 worker:Int
 week:Int
 err:Int
 tot:Nat->Int
 pays:Nat->Int
 earned:zL
 perf:zL
 elig:Int
 tier:Int
 extra:Int
 supp:Int
 total:Int
structure Fx where
 op:Int
 ev:Ev
structure Cm where
 kind:Int
 fx:Fx
 worker:Int
 week:Int
 last:Int
section
variable {h:List Ob} {d:Nat} {s:Setup} {a:SA} {x c:AV} {err:Int} {rows segs bytes:AV} {q:Cm}
end
def frA(s:Setup):SA:=⟨.sl 3 (s.ways.map yR),.sl 4 (s.elements.map wO),.sl 2 (s.classes.map qy),.sl 2 (s.gears.map qy),.sl 1 (s.rates.map qQ),.sl 2 (s.tiers.map qy)⟩
structure SFew (s:Setup):Prop where
 w:s.ways.length<1099511627776
 e:s.elements.length<1099511627776
 c:s.classes.length<1099511627776
 g:s.gears.length<1099511627776
 r:s.rates.length<1099511627776
 t:s.tiers.length<1099511627776
section
variable {h:List Ob} {d:Nat} {s:Setup} {a:SA} {x c:AV} {err:Int} {rows segs bytes:AV} {q:Cm}
end
open Go.RowKit
structure NumI (h H:List Ob) (s:Setup) (l:List Int) (st b:Nat):Prop where
 pre:Pre h H
 box:H[h.length]? =some (.box 30 (zN s (frA s)))
 row:H[h.length+1]? =some (.row 3 1 (l.map qQ) st)
 len:l.length=b
def zfa{α:Type}(f:α->List AV){l:List α}{n:Nat}(h:n<l.length):(l.map f)[n]? =some (f l[n]):=by rw[zw,zg h];rfl
end Go.Proofs.YtjeehgkolepogaaGreat.Ax
namespace Go.Proofs.YtjeehgkolepogaaGreat.Ax
open Go Go.Proofs
def inG(s:Setup)(n:Int)(g:Seg):Bool:=decide (n - (s.unit+s.cap)<=g.from_) && decide (g.to_<=n+(s.unit+s.cap))
def wSa(s:Setup)(n:Int)(l:List Seg):List Seg:=l.filter λg=> !inG s n g
def wTa(q:Int->Bool)(l:List Flg):List Flg:=l.filter λf=> !q f.id
def InO(s:Setup)(p:Ev->Prop)(n:Int)(t:TellS):Prop:=∀f os,t.open_=some (f,os)->p f/\n - s.cap<=f.at_/\f.at_<=n
structure Nr (s:Setup) (p:Ev->Prop) (n:Int) (q:Int->Bool) (a b:TellS):Prop where
 seg:wSa s n a.segs=wSa s n b.segs
 flg:wTa q a.flags=wTa q b.flags
 opn:a.open_=b.open_∨(InO s p n a/\InO s p n b)
section
variable {s:Setup} {p:Ev->Prop} {n:Int} {q:Int->Bool} {a b t:TellS}
end
section
variable{L:List Seg}
def Q1:∀ {l:List Ev},Srt l->zS l=l
 | [],_=>rfl
 | x::l,⟨a,c⟩=>by
   rw[zS,Q1 c];cases l with
   | nil=>rfl
   | cons y b=>rw[xD,a y zh];rfl
def qxa(l:List Ev):zS (zS l)=zS l:=Q1 (xB l)
def Xm{s:Setup}{l:List Ev}{w:Int}:qq s (yZ s w l) w=qq s l w:=by
 have h:zS ((yZ s w l).filter (jU s w))=zS (l.filter (jU s w)):=by
  rw[xka, <-vZ,qxa,List.filter_filter];congr 1;refine List.filter_congr λe _=>?_;unfold jU ww;by_cases a:e.worker=w
  ·simp[a]
  ·simp[a]
 unfold qq;rw[jWa,jWa,h]
def wT(L:List Seg):Int:=(L.map λg=>g.to_ - g.from_).sum
def zla(h:∀g∈L,g.from_<g.to_):0<=wT L/\(L≠[]->0<wT L):=by
 induction L with
 | nil=>simp[wT]
 | cons g L a=>
   have c:=a λx b=>h x (.tail _ b);have d:=h g (.head _);refine⟨?_,λ_=>?_⟩<;> · simp only[wT,List.map_cons,List.sum_cons] at *; omega
def Wm{p:Seg->Bool}(h:∀g∈L,g.from_<g.to_):wT (L.filter p)<=wT L:=by
 induction L with
 | nil=>simp
 | cons g L a=>
   have c:=a λx b=>h x (.tail _ b);have d:=h g (.head _);rw[List.filter_cons];split<;> · simp only[wT,List.map_cons,List.sum_cons] at *; omega
def zma{hi:Int}:∀ {L:List Seg} {lo:Int},lo<=hi->(∀g∈L,lo<=g.from_/\g.from_<g.to_/\g.to_<=hi)->L.Pairwise (λa b=>a.to_<=b.from_)->wT L<=hi - lo
 | [],lo,h,_,_=>by simp[wT];omega
 | g::L,lo,h,d,c=>by
   rw[z6] at c;have f:=d g (.head _);have:=zma (L:=L) (lo:=g.to_) f.2.2 (λx e=>⟨c.1 x e,(d x (.tail _ e)).2⟩) c.2;simp only[wT,List.map_cons,List.sum_cons] at*
   omega
def Wn(h:RiseTo L 32054400):wT L<=32054400:=by
 have:=zma (hi:=32054400) (lo:=0) ze h.each h.gap;omega
def Wo:∀(L:List Seg) (n:Int),(∀g∈L,0<=g.from_/\g.from_<g.to_/\g.to_<=32054400)->0<=n->n+wT L<=4611686018427387904->L.foldl (λn g=>wr (n+wr (g.to_ - g.from_))) n=n+wT L
 | [],n,_,_,_=>by simp[wT]
 | g::L,n,b,h0,c=>by
   have f:=b g (.head _);have e:=(zla (L:=L) λx a=>(b x (.tail _ a)).2.1).1;have d:wT (g::L)=(g.to_ - g.from_)+wT L:=(by simp[wT]);rw[d] at c⊢;rw[List.foldl_cons,qb (n:=g.to_ - g.from_) qg,qb (n:=n+(g.to_ - g.from_)) qg,Wo L _ (λx a=>b x (.tail _ a)) zb zb];omega
def Wp(h:RiseTo L 32054400)(k:Int):Kn k L=wT (L.filter (qn k)):=by
 have b:=Wn h;have c:=Wm (p:=qn k) λg a=>(h.each g a).2.1;unfold Kn Yx;rw[Wo _ 0 (λg a=>h.each g (qD.1 a).1) ze zb];omega
def Wq(h:RiseTo L 32054400)(k:Int):(0<=wT (L.filter (qn k))/\wT (L.filter (qn k))<=32054400)/\decide (wT (L.filter (qn k))>0)=L.any (qn k):=by
 have h0:=zla (L:=L.filter (qn k)) λg a=>(h.each g (qD.1 a).1).2.1;have e:=Wn h;have d:=Wm (p:=qn k) λg a=>(h.each g a).2.1;refine⟨⟨h0.1,zb⟩,?_⟩;cases c:L.any (qn k)
 ·have:L.filter (qn k)=[]:=by
   rw[List.filter_eq_nil_iff];intro g a b;rw[List.any_eq_false] at c;exact c g a b
  rw[this];rfl
 ·obtain⟨g,a,b⟩:=List.any_eq_true.1 c;have:L.filter (qn k)≠[]:=List.ne_nil_of_mem (qD.2 ⟨a,b⟩);simpa using h0.2 this
end
section
variable {s:Setup} {L L1 L2:List Seg} {wk d t:Int}
structure SameW (L1 L2:List Seg) (wk:Int):Prop where
 clock:∀t,0<=t->t<32054400->kT t=wk->(Cov (L1.map spS) t↔Cov (L2.map spS) t)
 rest:∀t,0<=t->t<32054400->kT t=wk->(Cov ((L1.filter λg=>g.kind==3).map spS) t↔Cov ((L2.filter λg=>g.kind==3).map spS) t)
end
section
variable {s:Setup} {n wk:Int} {L L1 L2:List Seg}
end
section
variable {s:Setup} {A B:List Ev} {e:Ev} {w wk:Int}
end
structure Bk where
 evs:List Ev
 shut:List Int
structure An where
 err:Int
 rows:List (RowV × List Flg)
 segs:List Seg
 bytes:List Int
structure BkI (s:Setup) (b:Bk):Prop where
 few:b.evs.length<=200
 srt:Srt b.evs
 ids:(b.evs.map (·.id)).Nodup
 ok:∀e∈b.evs,km s e=true
 rise:b.shut.Pairwise (· < ·)
 rng:∀w∈b.shut,0<=w/\w<=52
