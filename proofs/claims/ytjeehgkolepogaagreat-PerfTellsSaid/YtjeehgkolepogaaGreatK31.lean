import Derived.Test.YtjeehgkolepogaaGreatK30
set_option linter.all false
namespace Go.Proofs.YtjeehgkolepogaaGreat.Ax
open Go Go.Proofs
set_option maxRecDepth 100000
attribute [go_sem] xWa qNa
def s1:Setup:=⟨1,[],(1,1),[((1,1),(1,1))],[(1,1)],[(1,1)],0,1,3600,0,0,0,0,0,0,0,0,[1],0,0,60,[(10,1),(60,2)]⟩
def l1:List Ev:=[⟨1,0,0,1,0,0,0,0,0,0,0⟩,⟨2,0,100,3,0,0,0,299,0,0,0⟩,⟨3,0,400,3,0,0,0,119,0,0,0⟩,⟨4,0,500,7,0,0,0,0,0,0,0⟩,⟨5,0,700,2,0,0,0,0,0,0,0⟩]
def wXa:y0 s1 l1 0 0=⟨(360,1),600,(3,5),0⟩:=zC
def wYa:y0 s1 l1 0 1=⟨(0,1),0,(0,1),0⟩:=zC
def wZa:Zx s1 (3,5)=1:=zC
def w0a:Zx s1 (59,100)=0:=zC
def w1a:Zx s1 (0,1)= -1:=zC
def xKa:SFit s1:=⟨by simp[Fit,s1],by simp[qp,Fit,s1],by simp[qp,Fit,s1],by simp[qp,Fit,s1],by simp[qp,Fit,s1],by simp[qp,Fit,s1],by simp[s1],by simp[s1],by simp[s1],by simp[s1],by simp[s1],by simp[s1]⟩
def c13(h:List Ob)(s:Setup)(a:SA)(k:SIn h s a)(x:AV)(l:List Ev)(f:SlOf h x 11 (l.map evC)):ACalls Tryz.prog 6 [qE s a,x] h λr h'=>r=bl (qoa 60 s l)/\h'=h:=by
 refine enterQX Tryz.f6 λB=>?_;simp only[go_sem,k.w.one,k.e.one,k.c.one,k.g.one,k.r.one,k.t.one];refine qx (c25 _ s a (k.app _)) ?_;have i:∀M,zI (h++M) x=_:=λM=>(f.app M).rows;have d:decide ((l.length:Int)<=60)=decide (l.length<=60):=decide_eq_decide.2 zb;cases b:V4 s with
 | false=>
   simp only[go_sem,b,qv];exact zm (by simp only[go_sem,qoa,b,Bool.false_and]<;>try rfl)
 | true=>
   simp only[go_sem,b,qv,i,zc,d];exact zm (by simp only[go_sem,qoa,b,Bool.true_and]<;>try rfl)
def a1(n:Nat):SA:=⟨.v (.slice none 0 0),.tl (n+2) 0,.tl (n+3) 0,.tl (n+4) 0,.tl (n+5) 0,.tl (n+6) 0⟩
def H1(n:Nat):List Ob:=[.box 30 (zN s1 (a1 n)),.box 24 (qy (1,1)),.row 82 4 (s1.elements.map wO) 0,.row 24 2 (s1.classes.map qy) 0,.row 24 2 (s1.gears.map qy) 0,.row 3 1 (s1.rates.map qQ) 0,.row 79 2 (s1.tiers.map qy) 0]
def Xv(h:List Ob)(k:Nat):(h++H1 h.length)[h.length+k]? =(H1 h.length)[k]? :=qa rfl
def yya(h:List Ob):SIn (h++H1 h.length) s1 (a1 h.length):=
 ⟨Xe,kU (Xv h 2),kU (Xv h 3),kU (Xv h 4),kU (Xv h 5),kU (Xv h 6)⟩
def c37(h:List Ob):ACalls Tryz.prog 22 [] h λr h'=>r=qE s1 (a1 h.length)/\h'=h++H1 h.length:=by
 refine enterSX Tryz.f22 (λB=>?_) (⟨_,_,⟨rfl,rfl⟩,jp⟩);exact⟨qE s1 (a1 h.length),by(simp only[go_sem]<;>rfl),.inl ⟨rfl,rfl⟩⟩
def c12:js Tryz.prog 5 [] (bl true):=λh=>by
 refine enterSX Tryz.f5 λB=>?_;refine zl (c37 _) ?_;rintro _ j ⟨rfl,l⟩;have k:=yya h;rw[<-l] at k
 have f:Pre h j:=⟨_,l,λo i=>by
  simp only[H1,zK,List.not_mem_nil,or_false] at i;rcases i with rfl|rfl|rfl|rfl|rfl|rfl|rfl<;>rfl⟩
 have a:∀M,SIn (j++M) s1 (a1 h.length):=λM=>k.app M;simp only[go_sem,(a _).w.one,(a _).e.one,(a _).c.one,(a _).g.one,(a _).r.one,(a _).t.one,k.w.one,k.e.one,k.c.one,k.g.one,k.r.one,k.t.one];refine zl (c15 _ s1 (a1 h.length) (a _) xKa _ l1 0 0 (kU (ty:=55) (st:=0) (by rw[qa (k:=1) rfl];rfl)) ze) ?_;rintro _ d ⟨rfl,b⟩;rw[b,wXa];clear b d;simp only[go_sem,(a _).w.one,(a _).e.one,(a _).c.one,(a _).g.one,(a _).r.one,(a _).t.one];refine zl (c15 _ s1 (a1 h.length) (a _) xKa _ l1 0 1 (kU (ty:=55) (st:=0) (by rw[qa (k:=1) rfl];rfl)) ze) ?_;rintro _ d ⟨rfl,b⟩;rw[b,wYa];clear b d;simp only[go_sem,(a _).w.one,(a _).e.one,(a _).c.one,(a _).g.one,(a _).r.one,(a _).t.one,bne_self_eq_false,beq_self_eq_true,qv,Bool.not_false,Bool.not_true];refine zl (c26 _ s1 (a1 h.length) (a _) xKa (3,5) ⟨by simp[Fit],by simp[Fit]⟩) ?_;rintro _ d ⟨rfl,b⟩;rw[b,wZa];clear b d;simp only[go_sem,(a _).w.one,(a _).e.one,(a _).c.one,(a _).g.one,(a _).r.one,(a _).t.one,bne_self_eq_false,beq_self_eq_true,qv,Bool.not_false,Bool.not_true];refine zl (c26 _ s1 (a1 h.length) (a _) xKa (59,100) ⟨by simp[Fit],by simp[Fit]⟩) ?_;rintro _ d ⟨rfl,b⟩;rw[b,w0a];clear b d;simp only[go_sem,(a _).w.one,(a _).e.one,(a _).c.one,(a _).g.one,(a _).r.one,(a _).t.one,bne_self_eq_false,beq_self_eq_true,qv,Bool.not_false,Bool.not_true];refine zl (c26 _ s1 (a1 h.length) (a _) xKa (0,1) ⟨by simp[Fit],by simp[Fit]⟩) ?_;rintro _ d ⟨rfl,b⟩;rw[b,w1a];clear b d;simp only[go_sem,(a _).w.one,(a _).e.one,(a _).c.one,(a _).g.one,(a _).r.one,(a _).t.one,bne_self_eq_false,beq_self_eq_true,qv,Bool.not_false,Bool.not_true];obtain⟨L,m,_⟩:=f;rw[m,zq];exact qt
