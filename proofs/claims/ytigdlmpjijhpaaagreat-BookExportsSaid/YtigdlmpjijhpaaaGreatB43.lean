import Derived.Test.YtigdlmpjijhpaaaGreatBA
import Derived.Test.YtigdlmpjijhpaaaGreatB33
import Derived.Test.YtigdlmpjijhpaaaGreatB41
import Derived.Test.YtigdlmpjijhpaaaGreatB40
import Derived.Test.YtigdlmpjijhpaaaGreatB13
import Derived.WideKeyRuns
import Derived.WideKeyEntry
import Derived.Maps.RangeRun
import Derived.Test.YtigdlmpjijhpaaaGreatB10
import Derived.Test.YtigdlmpjijhpaaaGreatB42
import Derived.Test.YtigdlmpjijhpaaaGreatB39
set_option linter.all false
namespace Go.Proofs.YtigdlmpjijhpaaaGreat.Ax
open Go Go.Proofs Go.RowKit
set_option maxRecDepth 100000
theorem kQa{c:Ctx}:∀ {vs us:List Value},ARs c (vs.map .v) us->us=vs
 | [],_,h=>h
 | v::vs,_,⟨u,r,d,a,b⟩=>by
   have a:u=v:=a
   rw[d,a,kQa b]
def V0a(e:Ev):List Value:=[.int .i64 e.id,.int .i64 e.worker,.int .i64 e.at_,.int .i64 e.kind,.int .i64 e.from_,.int .i64 e.to_,.int .i64 e.element,.int .i64 e.units,.int .i64 e.class_,.int .i64 e.gear,.int .i64 e.code]
def wq(l:List Ev):List Value:=(l.map V0a).flatten
theorem Xq:∀l:List Ev,(wq l).length=l.length*11
 | []=>rfl
 | e::l=>by
   have:=Xq l
   unfold wq at*
   rw[List.map_cons,List.flatten_cons,ze,this,List.length_cons]
   show 11+_=_
   omega
theorem VU(a b:List Ev):wq (a++b)=wq a++wq b:=by unfold wq;rw[zy,List.flatten_append]
theorem zxa:∀l:List Ev,(l.map evC).flatten=(wq l).map .v
 | []=>rfl
 | e::l=>by
   have:=zxa l
   unfold wq at*
   rw[List.map_cons,List.map_cons,List.flatten_cons,List.flatten_cons,zy,this]
   rfl
theorem Qza(l:List Ev):∀v∈wq l,v.oneCell'=true:=λv a=>by
 unfold wq at a
 obtain⟨L,b,a⟩:=List.mem_flatten.1 a
 obtain⟨e,_,rfl⟩:=zw.1 b
 unfold V0a at a
 simp only[zE,List.not_mem_nil,or_false] at a
 rcases a with rfl|rfl|rfl|rfl|rfl|rfl|rfl|rfl|rfl|rfl|rfl<;>rfl
theorem jdb:∃z,(∀w,(zeroValue 75).run Tryz.prog w= .ok z w)/\z.cells.size=11/\∀u∈z.cells.toList,u.oneCell'=true:=
 ⟨_,Tryz.zeroValue75,rfl,λu a=>by
  simp[Value.cells] at a
  rw[a]
  rfl⟩
theorem jeb:∃i,Tryz.prog.info? 75=some i/\i.size=11:=by
 have h:(Tryz.prog.info? 75).map (λi=>i.size)=some 11:=by kernel_rfl
 cases hi:Tryz.prog.info? 75 with
 | none=>rw[hi] at h;cases h
 | some i=>
   rw[hi] at h
   injection h with h
   exact⟨i,rfl,h⟩
theorem jfb(h:List Ob)(id st:Nat)(P:List Ev)(y:Ev)(R:List Ev)(W:h[id]? =some (jg (P++y::R) st)):
  ACalls Tryz.prog 221 [.tl id st,i64 P.length,i64 ((P.length:Int)+1)] h λr h'=>r= .tl id (st+1)/\h'=h.set id (jg (P++R) (st+1)):=by
 refine⟨by kernel_rfl,⟨_,_,⟨rfl,rfl⟩,qj W rfl⟩,λφ K B w g vs hh hB d=>?_⟩
 have l:=qy (φ:=φ) W rfl
 obtain⟨v1,r1,rfl,h1,v2,r2,rfl,h2,v3,r3,rfl,Y,hr⟩:=d
 have hr:r3=[]:=hr
 have h2:v2= .int .i64 (P.length:Int):=h2
 have Y:v3= .int .i64 ((P.length:Int)+1):=Y
 have S:=Jo h1 l
 subst hr h2 Y S
 obtain⟨_,_,cells,q2,X⟩:=hh.ok _ _ l
 rw[zxa] at X
 have X:=kQa X
 subst X
 obtain⟨n,hn⟩:∃n,n=(P++y::R).length:=⟨_,rfl⟩
 have hnl:n=P.length+1+R.length:=by rw[hn];simp;omega
 have e0:((P++y::R).map evC).length=n:=by rw[zb,hn]
 rw[e0] at q2
 rcases q2.2 with⟨_,L⟩|⟨a,cap,cur,L,e2,e3,e4,e5,e6,e7⟩
 ·omega
 ·have L:g.cur id= .slice (some ⟨a,0,none⟩) n cap:=L
  obtain⟨j,hj⟩:∃j,j=P.length+1:=⟨_,rfl⟩
  have t:wq (P++y::R)=wq P++V0a y++wq R:=by
   rw[show P++y::R=P++[y]++R by simp,VU,VU]
   congr 2
  have l1:=Xq P
  have l2:=Xq R
  have ly:(V0a y).length=11:=rfl
  have ψ:n*11<=cur.size:=by rw[e6];exact Nat.mul_le_mul_right _ e4
  have H:cur.toList.take (P.length*11)=wq P:=by
   have:cur.toList.take (P.length*11)=(cur.toList.take (n*11)).take (P.length*11):=by rw[List.take_take,Nat.min_eq_left (by omega)]
   rw[this,e7,t,zp,qO (by omega),List.take_of_length_le (by omega)]
  have C:(cur.toList.drop (j*11)).take (R.length*11)=wq R:=by
   have:(cur.toList.drop (j*11)).take (R.length*11)=(cur.toList.take (n*11)).drop (j*11):=by
    rw[List.drop_take]
    congr 1
    omega
   rw[this,e7,t,List.drop_append_of_le_length (by rw[ze];omega),List.drop_of_length_le (by rw[ze];omega),List.nil_append]
  have V:w.drew.heap[a]? =some (.cells cur 75 (0,0)):=e3
  obtain⟨A,hA,Q⟩:∃A:Addr,(if cap=j then(some ⟨a,0,none⟩:Option Addr) else some ⟨a,j*11,none⟩)=some A/\∀k u,(wq R)[k]? =some u->w.drew.cell? (A.add k)=some u:=by
   by_cases hc:cap=j
   ·refine⟨_,by rw[if_pos hc],λk u K=>?_⟩
    have:(wq R).length=0:=by omega
    rw[zC this] at K
    cases K
   ·refine⟨_,by rw[if_neg hc],λk u K=>?_⟩
    have hk:=(zd.1 K).1
    rw[<-C,jr,if_pos (by omega),List.getElem?_drop,qr] at K
    rw[Addr.add_lit]
    unfold World.cell?
    rw[V]
    exact K
  obtain⟨ii,δ,F⟩:=jeb
  obtain⟨z,z1,z2,z3⟩:=jdb
  have f:=WF (P:=Tryz.prog) w.drew 31 31 75 ii Tryz.underlying31 δ a _ cur V P.length cap A (n - j) (cap - j) (wq R) (by rw[F];omega) Q (Qza R) (by omega) (by rw[F];omega)
  rw[F] at f
  obtain⟨c,J⟩:∃c,c=Jl cur (P.length*11) (wq R):=⟨_,rfl⟩
  rw[<-J] at f
  have i:c.size=cur.size:=by rw[J,W4 (by omega)]
  have N:=setRow_heap w.drew a cur c _ _ V
  have T:∀ty,(Builtin.clear_ #[31] ty #[.slice (some ⟨a,(P.length+(n - j))*11,none⟩) (n - (P.length+(n - j))) (cap - (P.length+(n - j)))]).run Tryz.prog (w.drew.setRow a c)= .ok (.tuple #[]) ((w.drew.setRow a c).setRow a (Jl c ((P.length+(n - j))*11) z.cells.toList)):=λty=>by
   have:=W5 (P:=Tryz.prog) (w.drew.setRow a c) 31 ty 75 z Tryz.underlying31 z1 a _ c N ((P.length+(n - j))*11) (cap - (P.length+(n - j))) z3 (by rw[z2,i];omega)
   rw[show n - (P.length+(n - j))=1 by omega]
   exact this
  have p:=jLb a cap P.length j n cur w e3 e4 e5 (by rw[e6]) hj.symm (by omega) A hA _ _ f T
  obtain⟨v,D⟩:∃v,v=Jl c ((P.length+(n - j))*11) z.cells.toList:=⟨_,rfl⟩
  rw[<-D] at p
  have ε:z.cells.toList.length=11:=by rw[qH];exact z2
  have M:v.size=cur.size:=by rw[D,W4 (by rw[ε,i];omega),i]
  have Z:=setRow_heap (w.drew.setRow a c) a c v _ _ N
  have hm:P.length+(n - j)=(P++R).length:=by rw[ze];omega
  have O:v.toList.take ((P++R).length*11)=wq (P++R):=by
   rw[D, <-hm]
   unfold Jl
   rw[zp,qO (by have hq:c.toList.length=c.size:=qH;rw[qa];omega),List.take_take,Nat.min_self,J]
   unfold Jl
   rw[H,qO (by rw[ze];omega),List.take_of_length_le (by rw[ze];omega),VU]
  have d: #[g.cur id,.int .i64 (P.length:Int),.int .i64 ((P.length:Int)+1)]= #[.slice (some ⟨a,0,none⟩) n cap,.int .i64 (P.length:Int),.int .i64 (j:Int)]:=by
   rw[L,hj]
   simp
  have I:(Array.mk [g.cur id,Value.int .i64 (P.length:Int),Value.int .i64 ((P.length:Int)+1)])= #[.slice (some ⟨a,0,none⟩) n cap,.int .i64 (P.length:Int),.int .i64 (j:Int)]:=d
  show Calls Tryz.prog _ (Array.mk [g.cur id,Value.int .i64 (P.length:Int),Value.int .i64 ((P.length:Int)+1)]) w _
  rw[I]
  refine p.mono ?_
  rintro e w' ⟨rfl,rfl⟩
  have E:w.grownBy ((w.drew.setRow a c).setRow a v) (some a):=by
   refine⟨rfl,rfl,rfl,by simp,λk hk m=>?_⟩
   have m:k≠a:=λq=>m (by rw[q])
   rw[setRow_other _ _ _ _ m,setRow_other _ _ _ _ m]
   rfl
  have G:=Qa (w':=(w.drew.setRow a c).setRow a v) (xs':=(P++R).map evC) (v':= .slice (some ⟨a,0,none⟩) (P.length+(n - j)) cap) (cells:=wq (P++R)) (st':=st+1) hh hB l (λx hx=>by
   obtain⟨e,_,rfl⟩:=zw.1 hx;rfl) (by rw[L];exact E) (by
   rw[zb,hm]
   exact⟨Xq _,.inr ⟨a,cap,v,rfl,e2,Z,by omega,e5,by rw[M,e6],O⟩⟩) (by rw[zxa];exact Jn _) (.inr (Nat.lt_succ_self st)) (λb V=> .inl (by rw[L];exact V))
  have U:=(zd.1 l).1
  have χ:=(zd.1 W).1
  refine⟨_,_,_,_,rfl,⟨rfl,rfl⟩,qj W rfl,by rw[jc rfl];exact G,⟨_,_,_,rfl⟩,⟨_,by rw[jc rfl,zo U],rfl⟩,λs o=>?_⟩
  have o:Ob.tok (fill φ (h.set id (jg (P++R) (st+1))))[id]? =some s:=o
  rw[jc rfl,zo U] at o
  have o:some (st+1)=some s:=o
  injection o with o
  subst o
  exact⟨zn _,λ_=>by simp[ctx]⟩
end Go.Proofs.YtigdlmpjijhpaaaGreat.Ax
namespace Go.Proofs.YtigdlmpjijhpaaaGreat.Ax
open Go Go.Proofs
set_option maxRecDepth 100000
abbrev AH(h:List Ob)(s:Setup)(a:SA)(q:Fx):List Ob:=h++[.box 30 (qd s a),.box 77 (fxC q)]
structure ApI (h:List Ob) (q:Fx) (at_:Int) (rows:List Ev) (T:Env) (h':List Ob):Prop where
 pre:Pre h h'
 b1:h'[h.length+1]? =some (.box 77 (fxC q))
 own:OwnS h h' 75 11 (T 11) (rows.map evC)
 t5:T 5= .ptr (h.length+1) 0
 t8:T 8=bl (vn q)
 t9:T 9=bl (j7 q)
 t10:T 10=i64 at_
theorem V1a(h:List Ob)(s:Setup)(a:SA)(k:SIn h s a)(x:AV)(l:List Ev)(q:Fx)(hx:SlOf h x 11 (l.map evC))(hl:l.length<524288):
  ACalls Tryz.prog 161 [je s a,x,.ag (fxC q)] h λr h'=>∃L y,h'=h++L/\NoRes L/\r= .tup [y,i64 (jw s l q).2]/\New h 11 y ((jw s l q).1.map evC) L:=by
 have hex:∃r h',(∃L y,h'=h++L/\NoRes L/\r=AV.tup [y,i64 (jw s l q).2]/\New h 11 y ((jw s l q).1.map evC) L)/\ResK h h':=
  ⟨_,_,⟨[],.sl 11 _,rfl,jf,rfl,λ_ _=>⟨rfl,λ_=>rfl⟩⟩,qS⟩
 refine xF (N:=67) (rs:=[.tmp 6,.tmp 7]) (fn:=Tryz.f161) rfl rfl rfl rfl (qC rfl) rfl (hex) λB=>?_
 refine qf (by decide) ?_
 simp only[go_sem,k.ones]
 have b0:(AH h s a q)[h.length]? =some (.box 30 (qd s a)):=by rw[zM rfl];rfl
 have b1:(AH h s a q)[h.length+1]? =some (.box 77 (fxC q)):=by rw[zK (k:=1) rfl];rfl
 have E:SlOf (AH h s a q) x 11 (l.map evC):=hx.app _
 have V:SIn (AH h s a q) s a:=k.app _
 refine qK (qf (by decide) ?_)
 refine zV rfl [] 0 [(0,0,[]),(2,0,[]),(1,0,[2]),(3,0,[]),(4,0,[]),(5,0,[])] rfl (by decide) (by decide) ?_
 simp only[go_sem,b1]
 refine zg (W5a q _) ?_
 rintro _ p ⟨rfl,rfl⟩
 simp only[go_sem,b1]
 refine zg (XFa q _) ?_
 rintro _ p ⟨rfl,rfl⟩
 simp only[go_sem,b1]
 refine qK (qf (by decide) ?_)
 simp only[go_sem,b1]
 refine zg (q6b _ x l q.ev.id E (by omega)) ?_
 rintro _ p ⟨rfl,rfl⟩
 simp only[go_sem]
 have D:NoRes [Ob.box 30 (qd s a),.box 77 (fxC q)]:=zr rfl (zG rfl)
 have err:∀e:Int,jw s l q=([],e)->∃L y,AH h s a q=h++L/\NoRes L/\AV.tup [.v (.slice none 0 0),i64 e]= .tup [y,i64 (jw s l q).2]/\New h 11 y ((jw s l q).1.map evC) L:=λe g=>by
  rw[g]
  exact⟨_,_,rfl,D,rfl,λ_ _=>⟨rfl,λq=>absurd rfl q⟩⟩
 refine qK (yy (λT h'=>h'=AH h s a q/\(jw s l q).2=0/\T 1=x/\T 5= .ptr (h.length+1) 0/\T 8=bl (vn q)/\T 9=bl (j7 q)/\T 10=i64 (Q0 l q.ev.id)) (by decide) ?_ ?_)
 ·cases c:vn q<;>cases b:j7 q
  ·simp only[go_sem,qD,Bool.not_false,Bool.not_true]
   exact⟨_,by simp only[go_sem],.inl (err 80 (by unfold jw;rw[if_pos (by simp[c,b])]))⟩
  ·cases f:decide (Q0 l q.ev.id<0)
   ·simp only[go_sem,qD,Bool.not_false,Bool.not_true,f]
    unfold jw
    rw[if_neg (by simp[c,b]),if_neg (by simp[b]),if_neg (by simp[f])]
   ·simp only[go_sem,qD,Bool.not_false,Bool.not_true,f]
    refine⟨_,by simp only[go_sem],.inl (err 131 ?_)⟩
    unfold jw
    rw[if_neg (by simp[c,b]),if_neg (by simp[b]),if_pos (by simp[b,f])]
  ·simp only[go_sem,qD,Bool.not_false,Bool.not_true,b0,b1]
   refine zg (c14 _ s a V q.ev) ?_
   rintro _ p ⟨rfl,rfl⟩
   cases g:wi s q.ev
   ·simp only[go_sem,qD,Bool.not_false,Bool.not_true]
    exact⟨_,by simp only[go_sem],.inl (err 80 (by unfold jw;rw[if_pos (by simp[c,b,g])]))⟩
   ·cases f:decide (Q0 l q.ev.id≥0)
    ·simp only[go_sem,qD,Bool.not_false,Bool.not_true,f]
     unfold jw
     rw[if_neg (by simp[c,b,g]),if_neg (by simp[b,f]),if_neg (by simp[b])]
    ·simp only[go_sem,qD,Bool.not_false,Bool.not_true,f]
     refine⟨_,by simp only[go_sem],.inl (err 130 ?_)⟩
     unfold jw
     rw[if_neg (by simp[c,b,g]),if_pos (by simp[b,f])]
  ·simp only[go_sem,qD,Bool.not_false,Bool.not_true,b0,b1]
   refine zg (c14 _ s a V q.ev) ?_
   rintro _ p ⟨rfl,rfl⟩
   cases g:wi s q.ev
   ·simp only[go_sem,qD,Bool.not_false,Bool.not_true]
    exact⟨_,by simp only[go_sem],.inl (err 80 (by unfold jw;rw[if_pos (by simp[c,b,g])]))⟩
   ·cases f:decide (Q0 l q.ev.id<0)
    ·simp only[go_sem,qD,Bool.not_false,Bool.not_true,f]
     unfold jw
     rw[if_neg (by simp[c,b,g]),if_neg (by simp[b]),if_neg (by simp[f])]
    ·simp only[go_sem,qD,Bool.not_false,Bool.not_true,f]
     refine⟨_,by simp only[go_sem],.inl (err 131 ?_)⟩
     unfold jw
     rw[if_neg (by simp[c,b,g]),if_neg (by simp[b]),if_pos (by simp[b,f])]
 rintro T h' ⟨rfl,A,t1,t5,t8,t9,t10⟩
 obtain⟨e1,_,W,j⟩:=zwa A
 rw[e1]
 refine yy (ApI h q (Q0 l q.ev.id) l) (by decide) ?_ ?_
 ·simp only[go_sem,t1]
  refine zg (c87 _ x l E (by omega)) ?_
  rintro _ p (⟨rfl,rfl,rfl⟩|⟨rfl,rfl⟩)
  ·simp only[go_sem]
   exact⟨⟨_,rfl,D⟩,b1,.inl ⟨by simp only[go_sem],rfl⟩,by simp only[go_sem,t5],by simp only[go_sem,t8],by simp only[go_sem,t9],by simp only[go_sem,t10]⟩
  ·simp only[go_sem]
   exact⟨⟨_,rfl,zr rfl (zr rfl (zG rfl))⟩,by rw[zK (k:=1) rfl];rfl,.inr ⟨h.length+2,1,by omega,by(simp only[go_sem]<;>simp),by rw[zK (k:=2) rfl];rfl⟩,by simp only[go_sem,t5],by simp only[go_sem,t8],by simp only[go_sem,t9],by simp only[go_sem,t10]⟩
 clear t1 t5 t8 t9 t10 A err
 rintro T h' k1
 refine yy (ApI h q (Q0 l q.ev.id) (if j7 q then WA l q.ev.id else l)) (by decide) ?_ ?_
 ·have t9:=k1.t9
  cases b:j7 q
  ·simp only[go_sem,t9,b]
   exact⟨k1.pre,k1.b1,by simp only[go_sem];exact k1.own,by simp only[go_sem,k1.t5],by simp only[go_sem,k1.t8],by simp only[go_sem,t9,b],by simp only[go_sem,k1.t10]⟩
  ·rcases j with⟨U,_⟩|⟨_,P,y,R,S,_,_,X,Q⟩
   ·rw[b] at U;cases U
   ·have m:=Q
    have w1:IntKind.wrap .i64 (Q0 l q.ev.id+1)=(P.length:Int)+1:=by rw[m];exact qp (n:=(P.length:Int)+1) (by have:=congrArg List.length S;simp at this;unfold Fit;omega)
    rcases k1.own with⟨t,G⟩|⟨id,st,C,t,i⟩
    ·rw[S] at G;simp at G
    ·rw[S] at i
     simp only[go_sem,t9,b,k1.t10,t,w1]
     rw[m]
     refine zg (jfb _ id st P y R i) ?_
     rintro _ h2 ⟨rfl,rfl⟩
     simp only[go_sem]
     have o:id≠h.length+1:=λe=>by rw[e,k1.b1] at i;cases i
     exact⟨k1.pre.set C rfl,by rw[zc o];exact k1.b1,.inr ⟨id,st+1,C,by simp only[go_sem],by rw[X];exact zq i⟩,by simp only[go_sem,k1.t5],by simp only[go_sem,k1.t8],by simp only[go_sem,k1.t9,b],by simp only[go_sem,k1.t10,m]⟩
 rintro T h' k2
 refine yy (ApI h q (Q0 l q.ev.id) (yO l q)) (by decide) ?_ ?_
 ·have t8:=k2.t8
  cases c:vn q
  ·have d:yO l q=if j7 q then WA l q.ev.id else l:=by unfold yO;rw[c];simp
   rw[d]
   simp only[go_sem,t8,c]
   exact⟨k2.pre,k2.b1,by simp only[go_sem];exact k2.own,by simp only[go_sem,k2.t5],by simp only[go_sem,t8,c],by simp only[go_sem,k2.t9],by simp only[go_sem,k2.t10]⟩
  ·have d:yO l q=(if j7 q then WA l q.ev.id else l)++[q.ev]:=by unfold yO;rw[c];simp
   obtain⟨K,I⟩:∃K,K=if j7 q then WA l q.ev.id else l:=⟨_,rfl⟩
   have Z:K.length<=l.length:=by
    rw[I]
    split
    ·exact List.length_eraseP_le
    ·exact zn _
   rw[d, <-I]
   rw[<-I] at k2
   rcases k2.own with⟨t,G⟩|⟨id,st,C,t,i⟩
   ·have O:K=[]:=List.map_eq_nil_iff.1 G
    subst O
    have Y:=k2.pre.len
    simp only[go_sem,t8,c,t,k2.t5,k2.b1]
    exact⟨k2.pre.app (zr rfl (zG rfl)),zf k2.b1,.inr ⟨h'.length+1,0,by omega,by simp only[go_sem],by rw[zK (k:=1) rfl];rfl⟩,by simp only[go_sem,k2.t5],by simp only[go_sem,k2.t8],by simp only[go_sem,k2.t9],by simp only[go_sem,k2.t10]⟩
   ·have w:∀M,(h'++M)[id]? =some (.row 75 11 (K.map evC) st):=λM=>zf i
    have u:(K.length+1)*89<=140737488355328:=by omega
    have o:id≠h.length+1:=λe=>by have:=k2.b1;rw[e,this] at i;cases i
    simp only[go_sem,t8,c,t,k2.t5,k2.b1,w,zb,u]
    exact⟨(k2.pre.app (zG rfl)).set C rfl,by rw[zc o];exact zf k2.b1,.inr ⟨id,st+1,C,by simp only[go_sem],by rw[zy];exact zq (w _)⟩,by simp only[go_sem,k2.t5],by simp only[go_sem,k2.t8,c],by simp only[go_sem,k2.t9],by simp only[go_sem,k2.t10]⟩
 rintro T h' k3
 refine qn _ (by decide) ?_
 have ε:(yO l q).length<=l.length+1:=by
  unfold yO
  rw[ze]
  have p:(if j7 q then WA l q.ev.id else l).length<=l.length:=by
   split
   ·exact List.length_eraseP_le
   ·exact zn _
  have h2:(if vn q then [q.ev] else []).length<=1:=by split<;>simp
  omega
 simp only[go_sem]
 refine zg (c57 _ _ (yO l q) k3.own.rows (by omega)) ?_
 rintro _ h4 (⟨F,rfl,rfl⟩|⟨rfl,rfl⟩)
 ·simp only[go_sem]
  obtain⟨L,J,H⟩:=k3.pre
  refine⟨_,by simp only[go_sem];rfl,.inl ⟨L,_,J,H,rfl,?_⟩⟩
  rw[F]
  exact λ_ _=>⟨rfl,λq=>absurd rfl q⟩
 ·simp only[go_sem]
  have z:=k3.pre.app (M:=[jg (qu (yO l q)) 1]) (zG rfl)
  have own:OwnS h (h'++[jg (qu (yO l q)) 1]) 75 11 (.tl h'.length 1) ((qu (yO l q)).map evC):= .inr ⟨_,_,k3.pre.len,rfl,by rw[zM rfl];rfl⟩
  obtain⟨L,J,H⟩:=z
  rw[J] at own⊢
  exact⟨_,by simp only[go_sem],.inl ⟨L,_,rfl,H,rfl,own.new (zn _)⟩⟩
theorem zbb(h:List Ob)(s:Setup)(a:SA)(k:SIn h s a)(x:AV)(l:List Ev)(q:Fx)(b:SlOf h x 11 (l.map evC))(c:l.length<524288):
  ACalls Tryz.prog 161 [je s a,x,.ag (fxC q)] h λr h'=>r= .tup [.sl 11 ((jw s l q).1.map evC),i64 (jw s l q).2]/\h'=h:=
 XG (by decide) rfl (yl _) (V1a h s a k x l q b c)
def vg(k:Int × Int):Value:= .agg #[.int .i64 k.1,.int .i64 k.2]
theorem K4{a b:Int × Int}(h:vg a=vg b):a=b:=by
 unfold vg at h
 injection h with h
 injection h with h
 injection h with h1 h2
 injection h2 with h2
 injection h1 with _ h1
 injection h2 with _ h2
 exact Prod.ext h1 h2
theorem zya:∃a b:Field,Tryz.prog.underlying 90=some (.struct #[a,b])/\a.type=3/\b.type=3/\a.offset=0/\b.offset=1:=
 ⟨_,_,Tryz.underlying90,rfl,rfl,rfl,rfl⟩
theorem K5(w:World)(xs:Array Value)(k:Nat){n:Int}(h:xs[k]? =some (.int .i64 n)):(_root_.Go.part 3 xs k).run Tryz.prog w= .ok (.int .i64 n) w:=by
 have a:=run_underlying (w:=w) (show Tryz.prog.underlying 3=some _ from Tryz.underlying3)
 simp[_root_.Go.part,isAgg,a,h]
theorem XI(w:World)(em:Bool)(k:Int × Int):(Instr.checkKey em 10000 90 (vg k)).run Tryz.prog w= .ok () w:=by
 obtain⟨f,g,b,t1,t2,c,d⟩:=zya
 have a:=run_underlying (w:=w) b
 have hi:=run_underlying (w:=w) (show Tryz.prog.underlying 3=some _ from Tryz.underlying3)
 have p1:=K5 w #[.int .i64 k.1,.int .i64 k.2] 0 rfl
 have p2:=K5 w #[.int .i64 k.1,.int .i64 k.2] 1 rfl
 have e:∀n:Int,(Instr.checkKey em 9999 3 (.int .i64 n)).run Tryz.prog w= .ok () w:=λn=>by
  unfold Instr.checkKey
  simp[hi]
 unfold vg
 unfold Instr.checkKey
 simp only[Sem.run_bind,a,Result.andThen]
 by_cases n1:f.name= "_" <;>by_cases n2:g.name= "_" <;>simp[t1,t2,c,d,p1,p2,e,n1,n2]
theorem wHa(w:World)(a b:Int × Int):(Op.equal 90 (vg a) (vg b)).run Tryz.prog w= .ok (a.1==b.1 && a.2==b.2) w:=by
 have g:wF (ctx w ⟨λ_=>0,λ_=> .bool true⟩ []) (λi=>if i=0 then .ag [i64 a.1,i64 a.2] else if i=1 then .ag [i64 b.1,i64 b.2] else .bad) { tmps:= #[vg a,vg b],defers:=[] }:=λi=>by
  by_cases h0:i=0
  ·subst h0
   exact⟨_,rfl,_,_,rfl,rfl,_,_,rfl,rfl,rfl⟩
  ·by_cases f:i=1
   ·subst f
    exact⟨_,rfl,_,_,rfl,rfl,_,_,rfl,rfl,rfl⟩
   ·simp only[h0,f,if_false]
    trivial
 obtain⟨U,V,d,c,e,_⟩:=Vn (P:=Tryz.prog) g (t:=90) (X:= .tmp 0) (Y:= .tmp 1) (b:=a.1==b.1 && (a.2==b.2 && true)) rfl rfl (by rw[zRb]) (by kernel_rfl) (by kernel_rfl) rfl rfl
 have d:vg a= .agg U:=d
 have c:vg b= .agg V:=c
 rw[d,c]
 rw[Bool.and_true] at e
 exact e
structure KM (es:Array MapEntry) (c:Nat) (ks:List (Int × Int)):Prop where
 keys:es.toList.map (·.key)=ks.map vg
 vals:∀e∈es.toList,∃n,e.val= .int .i64 n
 born:(es.toList.map (·.born)).Nodup
 lt:∀e∈es.toList,e.born<c
def Q6(ks:List (Int × Int))(k:Int × Int):List (Int × Int):=if k∈ks then ks else ks++[k]
theorem wIa(c:Nat):KM #[] c []:=⟨rfl,λ_ h=>(by cases h),.nil,λ_ h=>by cases h⟩
theorem K6:Tryz.prog.underlying 166=some (.map 90 3):=Tryz.underlying166
theorem yTa(w:World)(k:Int × Int):∀(es:List MapEntry) (ks:List (Int × Int)) (i:Nat),es.map (·.key)=ks.map vg->
  (k∉ks/\(Instr.findAsking 90 (vg k) es i).run Tryz.prog w= .ok none w)∨∃j e,es[j]? =some e/\e.key=vg k/\k∈ks/\(Instr.findAsking 90 (vg k) es i).run Tryz.prog w= .ok (some (i+j,e.val)) w
 | [],ks,i,h=>by
   cases ks with
   | nil=>exact .inl ⟨by simp,by simp[Instr.findAsking]⟩
   | cons a ks=>simp at h
 | e::es,[],i,h=>by simp at h
 | e::es,a::ks,i,h=>by
   rw[List.map_cons,List.map_cons] at h
   injection h with h1 h2
   have b:=wHa w k a
   by_cases f:k=a
   ·subst f
    refine .inr ⟨0,e,rfl,h1,.head _,?_⟩
    have:(k.1==k.1 && k.2==k.2)=true:=by simp
    rw[this] at b
    simp[Instr.findAsking,h1,b]
   ·have:(k.1==a.1 && k.2==a.2)=false:=by
     rw[jv]
     intro q
     rw[zl,beq_iff_eq,beq_iff_eq] at q
     exact f (Prod.ext q.1 q.2)
    rw[this] at b
    rcases yTa w k es ks (i+1) h2 with⟨d,c⟩|⟨j,x,d,c,l,g⟩
    ·refine .inl ⟨by simp[f,d],?_⟩
     simp[Instr.findAsking,h1,b,c]
    ·refine .inr ⟨j+1,x,d,c,.tail _ l,?_⟩
     simp[Instr.findAsking,h1,b,g]
     omega
theorem q2a(w:World)(k:Int × Int){es:Array MapEntry}{c:Nat}{ks:List (Int × Int)}(h:KM es c ks):
  (k∉ks/\(Instr.findKey 90 (vg k) es.toList).run Tryz.prog w= .ok none w)∨∃j e,es.toList[j]? =some e/\e.key=vg k/\k∈ks/\(Instr.findKey 90 (vg k) es.toList).run Tryz.prog w= .ok (some (j,e.val)) w:=by
 obtain⟨l,m,f,_⟩:=zya
 have b:(match Tryz.prog.underlying 90 with|some (.array _ _)|some (.struct _)=>true|_=>false)=true:=by rw[f]
 rw[run_findKey_eq w b]
 rcases yTa w k es.toList ks 0 h.keys with q|⟨j,e,i,d,g,a⟩
 ·exact .inl q
 ·exact .inr ⟨j,e,i,d,g,by rw[a,Nat.zero_add]⟩
theorem K7(w:World):(zeroValue 3).run Tryz.prog w= .ok (.int .i64 0) w:=Tryz.zeroValue3 w
theorem QAa(w:World)(l:Nat)(k:Int × Int){es:Array MapEntry}{c:Nat}{ks:List (Int × Int)}(h:KM es c ks)(d:w.heap[l]? =some (.map es c)):
  ∃n,(Instr.lookup 166 (.map (some l)) (vg k) false).run Tryz.prog w= .ok (.int .i64 n) w:=by
 have b:=XI w es.isEmpty k
 rcases q2a w k h with⟨_,a⟩|⟨j,e,f,_,_,a⟩
 ·exact⟨0,by simp[Instr.lookup,run_underlying K6,MapKept.run_getObj_map d,b,a,K7,Result.andThen]⟩
 ·obtain⟨n,g⟩:=h.vals e (qi f)
  exact⟨n,by simp[Instr.lookup,run_underlying K6,MapKept.run_getObj_map d,b,a,g,Result.andThen]⟩
theorem QBa(k:Int × Int):Instr.sameBits 10000 (vg k) (vg k)=true:=by
 unfold vg Instr.sameBits
 simp[Instr.sameBits]
theorem zza(w:World)(l:Nat)(k:Int × Int){es:Array MapEntry}{c:Nat}{ks:List (Int × Int)}(h:KM es c ks)(g:w.heap[l]? =some (.map es c)):
  ∃es' c' n,∃st:Nat,(Instr.mapEntry 166 (.map (some l)) (vg k)).run Tryz.prog w= .ok (.tuple #[.int .i64 n,.int .i64 st]) { w with heap:=w.heap.setIfInBounds l (.map es' c') }/\KM es' c' (Q6 ks k)/\∃e∈es'.toList,e.born=st:=by
 have v:=XI w false k
 rcases q2a w k h with⟨q,m⟩|⟨j,e,p,t,z,m⟩
 ·refine⟨es.push ⟨vg k,.int .i64 0,c⟩,c+1,0,c,?_,?_,⟨vg k,.int .i64 0,c⟩,by simp,rfl⟩
  ·simp[Instr.mapEntry,run_underlying K6,MapKept.run_getObj_map g,v,m,K7,MapKept.run_setObj_map _ g,Result.andThen,goInt]
  ·unfold Q6
   rw[if_neg q]
   refine⟨by simp[h.keys],λe d=>?_,?_,λe d=>?_⟩
   ·rw[Array.toList_push,zJ,zN] at d
    rcases d with d|rfl
    ·exact h.vals e d
    ·exact⟨0,rfl⟩
   ·rw[Array.toList_push,zy,List.nodup_append]
    refine⟨h.born,by simp,λa A b u=>?_⟩
    obtain⟨x,y,rfl⟩:=zw.1 A
    simp at u
    subst u
    have:=h.lt x y
    omega
   ·rw[Array.toList_push,zJ,zN] at d
    rcases d with d|rfl
    ·have:=h.lt e d;omega
    ·exact Nat.lt_succ_self c
 ·have s:es[j]? =some e:=by rw[<-qr];exact p
  obtain⟨n,q⟩:=h.vals e (qi p)
  have f:es.modify j (λe=>{ e with key:=vg k })=es:=by
   apply Array.ext_getElem?
   intro i
   rw[Array.getElem?_modify]
   split
   ·rename_i o
    subst o
    rw[s]
    simp[<-t]
   ·rfl
  have r:(Instr.keyThatStays (vg k) (vg k)).run Tryz.prog w= .ok (vg k) w:=by simp[Instr.keyThatStays,QBa]
  refine⟨es,c,n,e.born,?_,?_,e,qi p,rfl⟩
  ·simp[Instr.mapEntry,run_underlying K6,MapKept.run_getObj_map g,v,m,s,t,r,f,q,MapKept.run_setObj_map _ g,Result.andThen,goInt]
  ·unfold Q6
   rw[if_pos z]
   exact h
theorem wJa(w:World)(l:Nat)(st:Nat)(n:Int){es:Array MapEntry}{c:Nat}{ks:List (Int × Int)}(h:KM es c ks)(o:w.heap[l]? =some (.map es c))(r:∃e∈es.toList,e.born=st):
  ∃es',(Instr.entryStore 166 (.map (some l)) (.int .i64 st) (.int .i64 n)).run Tryz.prog w= .ok () { w with heap:=w.heap.setIfInBounds l (.map es' c) }/\KM es' c ks/\∃e∈es'.toList,e.born=st:=by
 obtain⟨e,m,rfl⟩:=r
 obtain⟨j,q⟩:=List.getElem?_of_mem m
 have g:es.findIdx? (λx=>((x.born:Nat):Int)==((e.born:Nat):Int))=some j:=by
  rw[WideElems.findIdx_arr]
  exact WideElems.findIdx_born h.born q
 refine⟨es.modify j λx=>{ x with val:= .int .i64 n },?_,?_⟩
 ·simp[Instr.entryStore,MapKept.run_getObj_map o,asInt,asIntOf,g,MapKept.run_setObj_map _ o,Result.andThen]
 ·have a:∀ {β:Type} (f:MapEntry->β),(∀x:MapEntry,f { x with val:= .int .i64 n }=f x)->(es.modify j λx=>{ x with val:= .int .i64 n }).toList.map f=es.toList.map f:=λf p=>by
   apply qP
   intro i
   rw[zx,zx,qr,qr,Array.getElem?_modify]
   split
   ·cases es[i]? <;>simp[p]
   ·rfl
  have b:∀x∈(es.modify j λx=>{ x with val:= .int .i64 n }).toList,∃y∈es.toList,x=y∨x={ y with val:= .int .i64 n }:=λx k=>by
   obtain⟨i,hi⟩:=List.getElem?_of_mem k
   rw[qr,Array.getElem?_modify] at hi
   split at hi
   ·cases d:es[i]? with
    | none=>rw[d] at hi;cases hi
    | some y=>
      rw[d] at hi
      injection hi with hi
      exact⟨y,by simpa using Array.mem_of_getElem? d,.inr hi.symm⟩
   ·exact⟨x,by simpa using Array.mem_of_getElem? hi,.inl rfl⟩
  have s:e.born∈(es.modify j λx=>{ x with val:= .int .i64 n }).toList.map (·.born):=by rw[a _ λ_=>rfl];exact zw.2 ⟨e,m,rfl⟩
  refine⟨⟨by rw[a _ λ_=>rfl];exact h.keys,λx k=>?_,by rw[a _ λ_=>rfl];exact h.born,λx k=>?_⟩,zw.1 s⟩
  ·obtain⟨y,d,rfl|rfl⟩:=b x k
   ·exact h.vals _ d
   ·exact⟨n,rfl⟩
  ·obtain⟨y,d,rfl|rfl⟩:=b x k
   ·exact h.lt _ d
   ·exact h.lt y d
end Go.Proofs.YtigdlmpjijhpaaaGreat.Ax
namespace Go.Proofs.YtigdlmpjijhpaaaGreat.Ax
open Go Go.RowKit
def Jg(P:Program)(N:Nat)(o:Oper)(K:Env->List Ob->Prop)(T:Env)(h:List Ob):Prop:=
 ∀ (φ:Nat->Ob),Upto φ h.length->∀(B:Bs) (w:World) (g:Gh) (a:Act),Rel N B w g (fill φ h) a T->∀(Q:Exit->Act->World->Prop) (next:Act->World->Prop),
   (∀c h' w' b,K c h'->Aft N B φ w g h c h' b w'->next b w')->o.wp P a w next Q
section
variable {P:Program} {N:Nat} {B:Bs} {ops:Array Oper} {T:Env} {h:List Ob} {K:Env->List Ob->Prop} {o:Oper}
theorem yP(c:xc N o=true)(k:Vr P T h o K):Jg P N o K T h:=λ_ a _ _ _ _ r _ _ b=>XR a c (jxa k) r b
theorem Qu(i:xc N o=true)(k:∀(φ:Nat->Ob),Upto φ h.length->∀(B:Nat) (w:World) (g:Gh) (a:Act),HOk B w g (fill φ h)->B<=w.heap.size->wF (ctx w g (fill φ h)) T a->
  ∃c v w' g' x h',(execOp a.eval o).run P w= .ok c w'/\(c= .value v∨(c= .skip/\v=undef))/\K (qW T o.dst x) h'/\ResK h h'/\Good B w g (fill φ h) w' g' (fill φ h')/\AR (ctx w' g' (fill φ h')) x v):Jg P N o K T h:=λφ n B w g a r Q next l=>by
 obtain⟨c,v,w',g',x,h',p,m,e,f,d,j⟩:=k φ n B.b w g a r.ok r.hB r.t
 unfold Oper.wp
 rw[p]
 rcases m with rfl|⟨rfl,rfl⟩
 ·exact l _ _ _ _ e ⟨g',f,xU r d j i,d⟩
 ·exact l _ _ _ _ e ⟨g',f,xU r d j i,d⟩
theorem QCa{φ:Nat->Ob}{J:(Nat->Bool)->Env->List Ob->Prop}(d:Zu ops 0 ops.toList=true)(hg:∀(i:Nat) (o:Oper),ops[i]? =some o->o.guard=none)
  (step:∀(i:Nat) (o:Oper) (S:Nat->Bool) (T:Env) (h:List Ob),ops[i]? =some o->S i=false->(∀j∈xl o,S j=true)->J S T h->Jg P N o (J λm=>if m=i then true else S m) T h) {Q:Exit->Act->World->Prop}:
  ∀ (b:Nat) (listed:Array Bool),listed.size=ops.size->((List.range ops.size).filter λi=> !listed.getD i false).length<=b->∀ {T:Env} {h:List Ob},J (λi=>listed.getD i false) T h->Upto φ h.length->∀ {w:World} {g:Gh} {a:Act},Rel N B w g (fill φ h) a T->
    (∀S u h' w' G,(∀i,i<ops.size->S i=true)->J S u h'->Aft N B φ w g h u h' G w'->Q .normal G w')->wpAny P .any ops Q b listed a w:=by
 have same:∀(listed:Array Bool) (i:Nat),listed.size=ops.size->i<ops.size->listed.getD i true=listed.getD i false:=λlisted i c hi=>by
  rw[zt,zt,zW (by omega)]
  rfl
 have all:∀listed:Array Bool,listed.size=ops.size->Region.ready .any ops listed=[]->∀i,i<ops.size->listed.getD i false=true:=by
  intro listed c C i hi
  cases L:listed.getD i false
  ·exfalso
   obtain⟨n,⟨v,I⟩,q⟩:=least (J:=λn=>n<ops.size/\listed.getD n false=false) ⟨i,hi,L⟩
   have:n∈Region.ready .any ops listed:=Zx v (by rw[same listed n c v];exact I) (zW v) λj hj=>by
    have y:=yE ops.toList 0 d n ops[n] (by simp[v]) j hj
    rw[Nat.zero_add] at y
    cases A:listed.getD j false
    ·have:=q j ⟨by omega,A⟩
     omega
    ·rfl
   rw[C] at this
   cases this
  ·rfl
 intro b
 induction b with
 | zero=>
   intro listed c l T h k H w g a r x
   have M:∀i,i<ops.size->listed.getD i false=true:=λi hi=>by
    cases L:listed.getD i false
    ·have:i∈(List.range ops.size).filter λi=> !listed.getD i false:=qq.2 ⟨qT.2 hi,by simp[L]⟩
     have h0:((List.range ops.size).filter λi=> !listed.getD i false)=[]:=zC (by omega)
     rw[h0] at this
     cases this
    ·rfl
   refine⟨?_,x _ _ _ _ _ M k (.refl r)⟩
   rw[List.eq_nil_iff_forall_not_mem]
   intro i hi
   obtain⟨p,f,_⟩:=jR hi
   rw[same listed i c p,M i p] at f
   cases f
 | succ b Y=>
   intro listed c l T h k H w g a r x
   refine⟨λC=>x _ _ _ _ _ (all listed c C) k (.refl r),λi hi=>?_⟩
   obtain⟨p,f,o,F,X⟩:=jR hi
   have s:listed.getD i false=false:=by rw[<-same listed i c p];exact f
   have z:=step i o _ T h F s X k
   unfold wpOp
   simp only[F]
   rw[if_pos (by simp[Region.wanted,hg i o F])]
   refine .inl (z φ H B w g a r _ _ λu h' w' G k' O=>?_)
   have Z:=O
   obtain⟨g',q1,q2,R⟩:=O
   refine Y _ (by simp[c]) ?_ (T:=u) (h:=h') ?_ (H.mono (yB R)) q2 λS V f W a2 z1 z2 z3=>x S V f W a2 z1 z2 (z3.trans q1 R)
   ·have U:((List.range ops.size).filter λm=> !(listed.setIfInBounds i true).getD m false).length<((List.range ops.size).filter λm=> !listed.getD m false).length:=by
     have e:((List.range ops.size).filter λm=> !(listed.setIfInBounds i true).getD m false)=((List.range ops.size).filter λm=> !listed.getD m false).filter λm=> !(m==i):=by
      rw[List.filter_filter]
      refine List.filter_congr λm _=>?_
      rw[Qf (by omega)]
      by_cases e:m=i
      ·simp[e]
      ·simp[e]
     rw[e]
     have t:i∈(List.range ops.size).filter λm=> !listed.getD m false:=qq.2 ⟨qT.2 p,by rw[s];rfl⟩
     have K:=qo (λm=> !(m==i)) ((List.range ops.size).filter λm=> !listed.getD m false)
     rcases Nat.lt_or_ge ((List.filter (λm=> !(m==i)) ((List.range ops.size).filter λm=> !listed.getD m false)).length) ((List.range ops.size).filter λm=> !listed.getD m false).length with D|E
     ·exact D
     ·have:=List.filter_eq_self.1 ((List.filter_sublist).eq_of_length (Nat.le_antisymm K E)) i t
      simp at this
    omega
   ·have:(λm=>(listed.setIfInBounds i true).getD m false)=λm=>if m=i then true else listed.getD m false:=by
     funext m
     rw[Qf (by omega)]
    rw[this]
    exact k'
theorem V2a{id:Nat}{Q:jF}(x:P.follows .mixedOrders=true)(c:Zu ops 0 ops.toList=true)(k:∀(i:Nat) (o:Oper),ops[i]? =some o->o.guard=none)(J:(Nat->Bool)->Env->List Ob->Prop)(h0:J (λ_=>false) T h)
  (step:∀(i:Nat) (o:Oper) (S:Nat->Bool) (T:Env) (h:List Ob),ops[i]? =some o->S i=false->(∀j∈xl o,S j=true)->J S T h->Jg P N o (J λm=>if m=i then true else S m) T h)
  (fin:∀S T h,(∀i,i<ops.size->S i=true)->J S T h->Q .normal T h):AWp P N B (.region id ops true) Q T h:=λφ q w g a r=>by
 have b:=Good.drew (g:=g) r.ok r.hB
 have f:Rel N B w.drew g (fill φ h) a T:=⟨b.ok,b.size,λi=>AR.le b.le _ _ (r.t i),r.d,r.n⟩
 refine wp_region_any x ?_
 refine QCa c k step ops.size (Array.replicate ops.size false) (by simp) ?_ ?_ q f λS e h' w' y s p ⟨g',v,l,u⟩=>⟨e,h',fin S e h' s p,g',v,l,b.trans u⟩
 ·have:=qo (λi=> !(Array.replicate ops.size false).getD i false) (List.range ops.size)
  rw[xi] at this
  exact this
 ·have:(λi=>(Array.replicate ops.size false).getD i false)=λ_=>false:=by
   funext i
   rw[zt,Array.getElem?_replicate]
   split<;>rfl
  rw[this]
  exact h0
theorem XNa{φ:Nat->Ob}{Q:Exit->Act->World->Prop}{o:Oper}{l:List Oper}{w:World}{g:Gh}{a:Act}(e:Upto φ h.length)(d:o.guard=none)(r:Rel N B w g (fill φ h) a T)(k:Jg P N o K T h)
  (next:∀b h' w' c,K b h'->Aft N B φ w g h b h' c w'->wpListIn Fence.wide 0 P ops Q l c w'):wpListIn Fence.wide 0 P ops Q (o::l) a w:=by
 unfold wpListIn
 rw[if_pos (by simp[Region.wanted,d])]
 exact xQ 0 (k φ e B w g a r _ _ next)
def yUa(P:Program)(N:Nat)(K:Env->List Ob->Prop):List Oper->Env->List Ob->Prop
 | [],T,h=>K T h
 | o::l,T,h=>o.guard=none/\Jg P N o (yUa P N K l) T h
theorem QDa:yUa P N K [] T h=K T h:=id rfl
attribute [go_sem] QDa
theorem WB{φ:Nat->Ob}{Q:Exit->Act->World->Prop}{rest:List Oper}:∀(l:List Oper) {T:Env} {h:List Ob},yUa P N K l T h->Upto φ h.length->∀ {w:World} {g:Gh} {a:Act},Rel N B w g (fill φ h) a T->
  (∀b h' w' c,K b h'->Aft N B φ w g h b h' c w'->wpListIn Fence.wide 0 P ops Q rest c w')->wpListIn Fence.wide 0 P ops Q (l++rest) a w
 | [],T,h,k,d,w,g,a,r,next=>next _ _ _ _ k (.refl r)
 | o::l,T,h,⟨n,k⟩,d,w,g,a,r,next=>by
   refine XNa d n r k λb h' w' c k' ⟨g',s,m,e⟩=>?_
   exact WB l k' (d.mono (yB e)) m λi f j a2 q p=>next i f j a2 q (p.trans s e)
theorem zAa{id:Nat}{Q:jF}(l rest:List Oper)(b:ops.toList=l++rest)(p:rest.all (xc N)=true)(k:yUa P N (wpR P ops (Q .normal) rest) l T h):AWp P N B (.region id ops false) Q T h:=λφ c w g a r=>by
 refine(wpIn_wide (n:=0)).1 (wpIn_region ?_)
 rw[List.range_eq_range', <-qH,wpOpsIn_eq_wpListIn ops.toList 0 (by simp),b]
 refine WB l k c r λs h' w' t k' ⟨g',o,i,d⟩=>?_
 exact yc rest p (c.mono (yB d)) (Wf _ k') i λf e q a2 m j=>⟨f,e,m,j.trans o d⟩
end
open Go.Proofs
set_option maxRecDepth 100000
section
variable {P:Program} {N:Nat} {B:Bs} {c:Code} {Q:jF} {T:Env} {h:List Ob}
theorem wKa{id j ty:Nat}(hi:h[id]? =some (.mapo []))(I:h[j]? =some (.box ty [.mp id]))(k:∀l k0,AWp P N B c Q T ((h.set id (.raw l (.map #[] k0) [] [])).set j (.box ty [.v (.map (some l))]))):AWp P N B c Q T h:=λφ V w g a r=>by
 have f:=qy (φ:=φ) hi rfl
 have H:=qy (φ:=φ) I rfl
 obtain⟨M,es,k0,l',L,U,O,Y⟩:=r.ok.ok _ _ f
 have J:l'=[]:=List.Perm.eq_nil U
 subst J
 have p:es.toList=[]:=O
 have p:es= #[]:=by simpa using p
 subst p
 have C:id≠j:=λe=>by rw[e,I] at hi;cases hi
 have W:=(zd.1 hi).1
 have z:w.grownBy w ((Ob.mapo []).blk g id):=⟨rfl,rfl,rfl,zn _,λ_ _ _=>rfl⟩
 have x:=Le.turn (g':=g) (o':= .raw (g.β id) (.map #[] k0) [] []) f rfl z (λ_ _=>rfl) (λ_ _=>rfl) (λb o=> .inl o) (λ_=>⟨rfl,λs E=>by cases E⟩)
 have F:Good B.b w g (fill φ h) w g ((fill φ h).set id (.raw (g.β id) (.map #[] k0) [] [])):=⟨r.ok.turn f z (λ_ _=>rfl) (λ_ _=>rfl) (λb o=> .inl o) x ⟨M,L,rfl⟩,x,Below.refl _ _,r.hB⟩
 have m:((fill φ h).set id (.raw (g.β id) (.map #[] k0) [] []))[j]? =some (.box ty [.mp id]):=by rw[zc C];exact H
 obtain⟨n1,vs,n2,u,q,n3,⟨_,n4⟩,n5⟩:=F.ok.ok _ _ m
 have n5:q=[]:=n5
 subst n5
 have n4:u= .map (some (g.β id)):=n4
 subst n4
 have A:w.grownBy w ((Ob.box ty [.mp id]).blk g j):=⟨rfl,rfl,rfl,zn _,λ_ _ _=>rfl⟩
 have y:=Le.turn (g':=g) (o':= .box ty [.v (.map (some (g.β id)))]) m rfl A (λ_ _=>rfl) (λ_ _=>rfl) (λb o=> .inl o) (λ_=>⟨rfl,λs E=>by cases E⟩)
 have R:Good B.b w g ((fill φ h).set id (.raw (g.β id) (.map #[] k0) [] [])) w g (((fill φ h).set id (.raw (g.β id) (.map #[] k0) [] [])).set j (.box ty [.v (.map (some (g.β id)))])):=⟨F.ok.turn m A (λ_ _=>rfl) (λ_ _=>rfl) (λb o=> .inl o) y ⟨n1,vs,n2,_,_,n3,rfl,rfl⟩,y,Below.refl _ _,r.hB⟩
 have G:=F.trans R
 rw[<-jc rfl, <-jc rfl] at G
 have D:ResK h ((h.set id (.raw (g.β id) (.map #[] k0) [] [])).set j (.box ty [.v (.map (some (g.β id)))])):=(qj hi rfl).trans (qj (by rw[zc C];exact I) rfl)
 exact wp_mono (k (g.β id) k0 φ (V.mono (by simp)) w g a ⟨G.ok,G.size,λi=>AR.le G.le _ _ (r.t i),r.d,r.n⟩) λe Z w' ⟨K,h',X,S⟩=>⟨K,h',X,S.trans D G⟩
end
section
variable {N:Nat} {T:Env} {h:List Ob} {K:Env->List Ob->Prop} {o:Oper}
theorem kRa{a:Act}{c:Ctx}(b:wF c T a){d:Nat}{u:Value}(e:T d= .v u):a.eval (.tmp d)=u:=Zc b (x:= .tmp d) e
theorem J2{φ:Nat->Ob}{B:Nat}{w:World}{g:Gh}(a:HOk B w g (fill φ h)){id l:Nat}{ob:Obj}{ks us}(hi:h[id]? =some (.raw l ob ks us)):w.heap[l]? =some ob:=(a.ok _ _ (qy hi rfl)).2.1
theorem Q7{φ:Nat->Ob}{B:Nat}{w c:World}{g:Gh}(b:HOk B w g (fill φ h))(hB:B<=w.heap.size)(d:c=w∨c=w.drew){id l:Nat}{ob:Obj}(hi:h[id]? =some (.raw l ob [] []))(a:Obj):
  Good B w g (fill φ h) { c with heap:=c.heap.setIfInBounds l a } g (fill φ (h.set id (.raw l a [] []))):=by
 rw[jc rfl]
 rcases d with rfl|rfl
 ·exact Qb b hB (qy hi rfl) a
 ·exact(Good.drew b hB).trans (Qb (Good.drew b hB).ok (Good.drew b hB).size (qy hi rfl) a)
theorem wLa(q:xc N o=true){d id l:Nat}{es:Array MapEntry}{c:Nat}(i:o.op= .range 166 (.tmp d))(m:T d= .v (.map (some l)))(hi:h[id]? =some (.raw l (.map es c) [] []))
  (k:∀r,K (qW T o.dst (.v (.pointer (some ⟨r,0,none⟩)))) (h++[.raw r (.mapIter (some l) c #[] c) [] []])):Jg Tryz.prog N o K T h:=Qu q λφ n B w g a f hB s=>by
 have p:=J2 f hi
 have e:=kRa s m
 have j:=run_range_map (P:=Tryz.prog) w 166 _ _ l es c K6 p
 have b:=Ya (g:=g) f hB (.mapIter (some l) c #[] c) (ks:=[]) (us:=[]) rfl
 rw[<-jC n] at b
 refine⟨_,_,_,g,_,_,?_,.inl rfl,k w.heap.size,qS,b,rfl⟩
 obtain⟨dst,op,type,pos,after,guard⟩:=o
 simp only at i
 subst i
 simp only[execOp,e]
 simp[j]
theorem QEa(y:xc N o=true){d id i l r:Nat}{es:Array MapEntry}{c b c0:Nat}{seen:Array Nat}(j:o.op= .next (.tmp d) false)(s:T d= .v (.pointer (some ⟨r,0,none⟩)))(hi:h[id]? =some (.raw l (.map es c) [] []))(m:h[i]? =some (.raw r (.mapIter (some l) b seen c0) [] []))
  (f:∀x∈es.toList,x.born<b) (q:b<=c0)
  (k0:(leftOf es seen).size=0->K (qW T o.dst (.tup [.v (.bool false)])) h)
  (k1:∀e∈(leftOf es seen).toList,K (qW T o.dst (.tup [.v (.bool true),ofV e.key,ofV e.val])) (h.set i (.raw r (.mapIter (some l) b (seen.push e.born) c) [] []))):Jg Tryz.prog N o K T h:=Qu y λφ z B w g a k hB t=>by
 have e:=kRa t s
 rcases run_next_at (P:=Tryz.prog) w o.type r l b c0 seen es c (J2 k m) (J2 k hi) f q with⟨z0,p⟩|⟨x,u,A,n,p⟩
 ·refine⟨_,_,w,g,_,h,?_,.inl rfl,k0 z0,.refl,Good.refl k hB, #[.bool false],rfl,_,_,rfl,rfl,rfl⟩
  obtain⟨dst,op,type,pos,after,guard⟩:=o
  simp only at j
  subst j
  simp only[execOp,e]
  simp[p]
 ·refine⟨_,_,_,g,_,_,?_,.inl rfl,k1 x u,qj m rfl,Q7 k hB n m _, #[.bool true,x.key,x.val],rfl,_,_,rfl,rfl,_,_,rfl,W6 _,_,_,rfl,W6 _,rfl⟩
  obtain⟨dst,op,type,pos,after,guard⟩:=o
  simp only at j
  subst j
  simp only[execOp,e]
  simp[p]
  rfl
theorem wMa(t:xc N o=true){d id i l r:Nat}{es:Array MapEntry}{c b:Nat}{seen:Array Nat}{x:MapEntry}(j:o.op= .entry (.tmp d))(n:T d= .v (.pointer (some ⟨r,0,none⟩)))(hi:h[id]? =some (.raw l (.map es c) [] []))(m:h[i]? =some (.raw r (.mapIter (some l) b (seen.push x.born) c) [] []))
  (s:x∈es.toList) (q:(es.toList.map (·.born)).Nodup) (k:K (qW T o.dst (.tup [ofV x.key,ofV x.val])) h):Jg Tryz.prog N o K T h:=Qu t λφ u B w g a f hB p=>by
 have e:=kRa p n
 have z:=run_entry_at (P:=Tryz.prog) w r l b seen es c x (J2 f m) (J2 f hi) s q
 refine⟨_,_,w,g,_,h,?_,.inl rfl,k,.refl,Good.refl f hB, #[x.key,x.val],rfl,_,_,rfl,W6 _,_,_,rfl,W6 _,rfl⟩
 obtain⟨dst,op,type,pos,after,guard⟩:=o
 simp only at j
 subst j
 simp only[execOp,e]
 simp[z]
theorem XOa{a:Act}{c:Ctx}(l:wF c T a){d:Nat}{k:Int × Int}(e:T d= .ag [i64 k.1,i64 k.2]):a.eval (.tmp d)=vg k:=by
 have:=jL l (.tmp d)
 rw[show ev T (.tmp d)=T d from rfl,e] at this
 obtain⟨vs,j,_,_,i,b,_,_,h,f,g⟩:=this
 have b:_=Value.int .i64 k.1:=b
 have f:_=Value.int .i64 k.2:=f
 have g:_=([]:List Value):=g
 subst b f g
 subst h
 rw[j]
 unfold vg
 congr 1
 exact Array.toList_inj.1 i
theorem wNa(s:xc N o=true){d q id l:Nat}{es:Array MapEntry}{c:Nat}{ks:List (Int × Int)}{y:Int × Int}(f:o.op= .lookup 166 (.tmp d) (.tmp q) false)(m:T d= .v (.map (some l)))(j:T q= .ag [i64 y.1,i64 y.2])(hi:h[id]? =some (.raw l (.map es c) [] []))(r:KM es c ks)
  (k:∀n,K (qW T o.dst (i64 n)) h):Jg Tryz.prog N o K T h:=Qu s λφ t B w g a i hB b=>by
 have e:=kRa b m
 have p:=XOa b j
 obtain⟨n,z⟩:=QAa w l y r (J2 i hi)
 refine⟨_,_,w,g,_,h,?_,.inl rfl,k n,.refl,Good.refl i hB,rfl⟩
 obtain⟨dst,op,type,pos,after,guard⟩:=o
 simp only at f
 subst f
 simp only[execOp,e,p]
 simp[z]
theorem kSa(u:xc N o=true){d q id l:Nat}{es:Array MapEntry}{c:Nat}{ks:List (Int × Int)}{y:Int × Int}(f:o.op= .mapEntry 166 (.tmp d) (.tmp q))(m:T d= .v (.map (some l)))(j:T q= .ag [i64 y.1,i64 y.2])(hi:h[id]? =some (.raw l (.map es c) [] []))(t:KM es c ks)
  (k:∀es' c' n (st:Nat),KM es' c' (Q6 ks y)->(∃e∈es'.toList,e.born=st)->K (qW T o.dst (.tup [i64 n,i64 st])) (h.set id (.raw l (.map es' c') [] []))):Jg Tryz.prog N o K T h:=Qu u λφ x B w g a i hB b=>by
 have e:=kRa b m
 have p:=XOa b j
 obtain⟨es',c',n,st,s,r,z3⟩:=zza w l y t (J2 i hi)
 refine⟨_,_,_,g,_,_,?_,.inl rfl,k es' c' n st r z3,qj hi rfl,Q7 i hB (.inl rfl) hi _, #[.int .i64 n,.int .i64 st],rfl,_,_,rfl,rfl,_,_,rfl,rfl,rfl⟩
 obtain⟨dst,op,type,pos,after,guard⟩:=o
 simp only at f
 subst f
 simp only[execOp,e,p]
 simp[s]
theorem kTa(C:xc N o=true){d q x id l:Nat}{es:Array MapEntry}{c:Nat}{ks:List (Int × Int)}{st:Nat}{n:Int}(f:o.op= .entryStore 166 (.tmp d) (.tmp q) (.tmp x))(m:T d= .v (.map (some l)))(j:T q=i64 st)(A:T x=i64 n)(hi:h[id]? =some (.raw l (.map es c) [] []))(y:KM es c ks)(z:∃e∈es.toList,e.born=st)
  (k:∀es' u,KM es' c ks->(∃e∈es'.toList,e.born=st)->K (qW T o.dst u) (h.set id (.raw l (.map es' c) [] []))):Jg Tryz.prog N o K T h:=Qu C λφ D B w g a i hB b=>by
 have e:=kRa b m
 have r:=kRa b j
 have p:=kRa b A
 obtain⟨es',t,s,z3⟩:=wJa w l st n y (J2 i hi) z
 refine⟨.skip,undef,_,g,.v undef,_,?_,.inr ⟨rfl,rfl⟩,k es' _ s z3,qj hi rfl,Q7 i hB (.inl rfl) hi _,rfl⟩
 obtain⟨dst,op,type,pos,after,guard⟩:=o
 simp only at f
 subst f
 simp only[execOp,e,r,p]
 simp[t]
end
open Go.Shelf Go.Lib Go.Sort
def zlb(x:Int × Int):List Value:=[.int .i64 x.1,.int .i64 x.2]
def Qw(x:Int × Int):List AV:=[i64 x.1,i64 x.2]
theorem XRa{n:Nat}:∀l:List (Int × Int),qQ n (l.map Qw)=true
 | []=>rfl
 | s::l=>by
   rw[List.map_cons,qQ,XRa l];rfl
def wPa(x y:Int × Int):Int:=Qv (Lib.compareInt x.1 y.1) (Lib.compareInt x.2 y.2)
theorem XSa(x y:Int × Int):ltOf wPa x y=ltK x y:=by
 rw[Bool.eq_iff_iff,vf]
 unfold ltOf wPa Qv Lib.compareInt
 by_cases a:x.1<y.1
 ·simp[a]
 ·by_cases b:y.1<x.1
  ·simp[a,b]
   omega
  ·by_cases c:x.2<y.2
   ·simp[a,b,c]
    omega
   ·by_cases d:y.2<x.2<;>(simp[a,b,c,d])
theorem xxb:SWO (ltOf wPa):=
 { irrefl:=λx=>by rw[XSa,jv];intro q;rw[vf] at q;omega
   trans:=λx y z b a=>by rw[XSa,vf] at *; omega
   ntrans:=λx y z b a=>by
    rw[XSa,jv,Ne,vf] at*
    omega }
theorem V3a(h:List Ob)(id st:Nat)(l:List (Int × Int))(k:h[id]? =some (.row 90 2 (l.map Qw) st))(n:l.length<1099511627776):
  ACalls Tryz.prog 99 [.tl id st,.fn (.func 100) [] []] h λr h'=>r= .tup []/\∃l':List (Int × Int),l'.Perm l/\(l'.Pairwise λa b=>ltOf wPa b a=false)/\h'=h.set id (.row 90 2 (l'.map Qw) st):=by
 refine Xta zlb 2 (by decide) (λ_=>rfl) (ltOf wPa) (by kernel_rfl) (λl=>?_) ?_ ?_ h id st l k n
 ·refine⟨_,List.mergeSort_perm l (λa b=> !ltK b a),?_⟩
  have:=List.pairwise_mergeSort (le:=λa b:Int × Int=> !ltK b a) (λa b c p o=>by
   rw[Bool.not_eq_true',jv,Ne,vf] at *; omega) (λa b=>by
   rw[Bool.or_eq_true,Bool.not_eq_true',Bool.not_eq_true',jv,jv,Ne,Ne,vf,vf];omega) l
  exact this.imp λh=>by rw[XSa];simpa using h
 ·intro blk off cap d w j f g
  have m:∀args w,(callFunc 100 args).run Tryz.prog w= .ok (.enter 100 args) w:=enters_of Tryz.func100 (by kernel_rfl) rfl
  have e:=AnyQ.slices_SortFunc j0a 2 Tryz.isAgg90 Tryz.sizeOf90 zlb (λ_=>rfl) (λx v i=>by simp[zlb] at i;rcases i with rfl|rfl<;>rfl) wPa xxb 100 #[] blk off cap d w m (λ_ _ _ _ x y=>XQa x y _) j f g
  exact e
 ·intro A cap w
  have e:=AnyF.slices_SortFunc_none j0a A cap (.func (.func 100) #[] #[]) w
  exact e
theorem V4a(x:AV):xw Tryz.prog 99 [.v (.slice none 0 0),x] (.tup []):=λh=>by
 refine⟨by kernel_rfl,⟨_,_,⟨rfl,rfl⟩,.refl⟩,?_⟩
 intro φ k B w g vs j hB a
 obtain⟨v1,l,rfl,d,f,i,rfl,_,c⟩:=a
 have c:i=[]:=c
 subst c
 have d:v1= .slice none 0 0:=d
 subst d
 have b:=AnyF.slices_SortFunc_none j0a none 0 f w
 refine Calls.mono b ?_
 rintro e w' ⟨rfl,rfl⟩
 exact⟨_,_,_,_,rfl,⟨rfl,rfl⟩,.refl,Good.refl j hB, #[],rfl,rfl⟩
theorem kVa{l l' ks:List (Int × Int)}(d:l'.Perm l)(h:l'.Pairwise λa b=>ltOf wPa b a=false)(i:l.Nodup)(j:ks.Pairwise λa b=>ltK a b=true)(g:∀z,z∈l↔z∈ks):l'=ks:=by
 refine ySa ?_ j λz=>(d.mem_iff).trans (g z)
 have c:l'.Nodup:=d.nodup_iff.2 i
 refine List.Pairwise.imp₂ ?_ h c
 intro a b f e
 rw[XSa,jv,Ne,vf] at f
 rw[vf]
 have:¬ (a.1=b.1/\a.2=b.2):=λq=>e (Prod.ext q.1 q.2)
 omega
theorem zmb(h:List Ob)(id st:Nat)(l ks:List (Int × Int))(g:h[id]? =some (.row 90 2 (l.map Qw) st))(m:l.length<1099511627776)(j:l.Nodup)(k:ks.Pairwise λa b=>ltK a b=true)(i:∀z,z∈l↔z∈ks):
  ACalls Tryz.prog 99 [.tl id st,.fn (.func 100) [] []] h λr h'=>r= .tup []/\h'=h.set id (.row 90 2 (ks.map Qw) st):=
 (V3a h id st l g m).mono λr h' ⟨e,l',d,c,f⟩=>⟨e,by rw[f,kVa d c j k i]⟩
end Go.Proofs.YtigdlmpjijhpaaaGreat.Ax
namespace Go.Proofs.YtigdlmpjijhpaaaGreat.Ax
open Go Go.Proofs
set_option maxRecDepth 100000
theorem j1a{S:Nat->Bool}{i j:Nat}(h:j≠i)(q:(if j=i then true else S j)=false):S j=false:=by rw[if_neg h] at q;exact q
theorem jk{S:Nat->Bool}{i j:Nat}(h:j≠i)(q:(if j=i then true else S j)=true):S j=true:=by rw[if_neg h] at q;exact q
structure JT (H:List Ob) (id l i3 j:Nat) (e:Ev) (w:Int) (ks:List (Int × Int)) (u1 u5:AV) (S:Nat->Bool) (T:Env) (h:List Ob):Prop where
 t1:T 1=u1
 t2:T 2= .ptr j 0
 t3:T 3= .ptr i3 0
 t5:T 5=u5
 t6:T 6=i64 w
 k0:S 0=true->T 20= .v (.map (some l))
 k1:S 1=true->T 21= .ptr i3 1
 k2:S 2=true->T 22=i64 e.worker
 k3:S 3=true->T 23=i64 w
 k4:S 4=true->T 24= .ag [i64 e.worker,i64 w]
 k5:S 5=true->∃n,T 25=i64 n
 k6:S 6=true->∃n,T 26=i64 n
 k8:S 8=true->S 7=true
 k7:∃es c ks',h=H.set id (.raw l (.map es c) [] [])/\KM es c ks'/\(S 7=false->ks'=ks)/\(S 7=true->ks'=Q6 ks (e.worker,w)/\∃(n:Int) (st:Nat),T 27= .tup [i64 n,i64 st]/\(S 8=true->T 28=i64 st)/\∃x∈es.toList,x.born=st)
theorem yVa(h:List Ob)(s:Setup)(a:SA)(k:SIn h s a)(i j id l:Nat)(hi:h[i]? =some (.box 30 (qd s a)))(hj:h[j]? =some (.box 166 [.v (.map (some l))]))(es:Array MapEntry)(c:Nat)(ks:List (Int × Int))(hid:h[id]? =some (.raw l (.map es c) [] []))(hm:KM es c ks)(e:Ev):
  ACalls Tryz.prog 94 [evV e,.ptr i 0,.ptr j 0] h λr h'=>r= .tup []/\∃es' c',KM es' c' ((XH s e).foldl Q6 ks)/\h'=h.set id (.raw l (.map es' c') [] []):=by
 obtain⟨kk,I⟩:∃kk,kk=VR s e.at_:=⟨_,rfl⟩
 have hb:(0<=kk.1/\kk.1<53)/\0<=kk.2/\kk.2<53:=by rw[I];exact⟨Q1 _,Q1 _⟩
 obtain⟨cnt,R⟩:∃cnt,cnt=(kk.2 - kk.1+1).toNat:=⟨_,rfl⟩
 have σ:∀M,(h++M)[j]? =some (.box 166 [.v (.map (some l))]):=λM=>zf hj
 have γ:∀M,(h++M)[i]? =some (.box 30 (qd s a)):=λM=>zf hi
 have O:XH s e=(List.range cnt).map λn:Nat=>(e.worker,kk.1+(n:Int)):=by
  unfold XH J0
  rw[vi, <-I, <-R]
  rfl
 have hex:∃r h',(r=AV.tup []/\∃es' c',KM es' c' ((XH s e).foldl Q6 ks)/\h'=h.set id (.raw l (.map es' c') [] []))/\ResK h h':=by
  have D:∀(L:List (Int × Int)) (es:Array MapEntry) (c:Nat) (ks:List (Int × Int)),KM es c ks->∃es' c',KM es' c' (L.foldl Q6 ks):=λL=>by
   induction L with
   | nil=>exact λes c ks h=>⟨es,c,h⟩
   | cons y L ih=>
     intro es c ks h
     obtain⟨es',c',_,_,_,h2,_⟩:=zza (⟨#[.map es c],λ_ _=>0,0,default, #[]⟩:World) 0 y h rfl
     exact ih es' c' _ h2
  obtain⟨es',c',h2⟩:=D (XH s e) es c ks hm
  exact⟨_,_,⟨rfl,es',c',h2,rfl⟩,qj hid rfl⟩
 refine zj Tryz.f94 [] 29 rfl rfl rfl rfl rfl rfl (by decide) (hex) λB=>?_
 simp only[go_sem,γ,k.ones]
 refine zg (Y1a _ s a (k.app _) e.at_) ?_
 rintro _ h1 ⟨rfl,e1⟩
 rw[e1, <-I]
 simp only[go_sem,Xv]
 refine zP (by decide) (λm T h'=>∃(n:Nat) (es':Array MapEntry) (c':Nat),n<=cnt/\KM es' c' (((List.range n).map λn:Nat=>(e.worker,kk.1+(n:Int))).foldl Q6 ks)/\h'=h.set id (.raw l (.map es' c') [] [])++[.box 75 (evC e)]/\T 1= .ptr i 0/\T 2= .ptr j 0/\T 3= .ptr h.length 0/\T 5=i64 kk.2/\T 6=i64 (kk.1+(n:Int))/\m=cnt - n) cnt
  ⟨0,es,c,by omega,hm,by rw[qM hid],by simp only[go_sem],by simp only[go_sem],by simp only[go_sem],by simp only[go_sem],by(simp only[go_sem]<;>simp),rfl⟩ ?_
 rintro m T h' ⟨n,es',c',hn,K,rfl,t1,t2,t3,t5,t6,rfl⟩
 simp only[go_sem,t6,t5]
 refine ways (λq=>?_) (λq=>?_)
 ·have hle:kk.1+(n:Int)<=kk.2:=by simpa using q
  have τ:n<cnt:=by omega
  have η:IntKind.wrap .i64 (kk.1+(n:Int)+1)=kk.1+(n:Int)+1:=qp (n:=kk.1+(n:Int)+1) (by unfold Fit;omega)
  simp only[go_sem]
  obtain⟨H,G⟩:∃H,H=h.set id (.raw l (.map es' c') [] [])++[.box 75 (evC e)]:=⟨_,rfl⟩
  have E:=(zd.1 hid).1
  have P:H[id]? =some (.raw l (.map es' c') [] []):=by rw[G,zH (by rw[zz];exact E),zo E]
  have W:id≠j:=λq=>by rw[q,hj] at hid;cases hid
  have κ:∀o,(H.set id o)[j]? =some (.box 166 [.v (.map (some l))]):=λo=>by
   rw[zc W,G]
   refine zf ?_
   rw[zc W]
   exact hj
  have ε:∀o,(H.set id o)[h.length]? =some (.box 75 (evC e)):=λo=>by
   rw[zc (by omega),G,zM (by rw[zz])]
   rfl
  rw[<-G]
  obtain⟨Y,X⟩:∃Y,Y=((List.range n).map λn:Nat=>(e.worker,kk.1+(n:Int))).foldl Q6 ks:=⟨_,rfl⟩
  rw[<-X] at K
  refine qK (V2a (by kernel_rfl) (by decide) ?_ (JT H id l h.length j e (kk.1+(n:Int)) Y (.ptr i 0) (i64 kk.2)) ⟨by simp only[go_sem,t1],by simp only[go_sem,t2],by simp only[go_sem,t3],by simp only[go_sem,t5],by simp only[go_sem,t6],(λq=>by cases q),(λq=>by cases q),(λq=>by cases q),(λq=>by cases q),(λq=>by cases q),(λq=>by cases q),(λq=>by cases q),(λq=>by cases q),es',c',Y,by rw[qM P],K,λ_=>rfl,λq=>by cases q⟩ ?_ ?_)
  ·intro i o b
   match i,b with
   | 0,b=>injection b with b;subst b;rfl
   | 1,b=>injection b with b;subst b;rfl
   | 2,b=>injection b with b;subst b;rfl
   | 3,b=>injection b with b;subst b;rfl
   | 4,b=>injection b with b;subst b;rfl
   | 5,b=>injection b with b;subst b;rfl
   | 6,b=>injection b with b;subst b;rfl
   | 7,b=>injection b with b;subst b;rfl
   | 8,b=>injection b with b;subst b;rfl
   | 9,b=>injection b with b;subst b;rfl
   | n+10,b=>cases b
  ·rintro i o S T h' b U f J
   match i,b with
   | 0,b=>
     injection b with b
     subst b
     simp only[List.getElem_toArray,List.getElem_cons_zero,List.getElem_cons_succ] at f⊢
     obtain⟨g,t,p,a1,a2,a3,a4⟩:=J.k7
     subst a1
     refine yP (by decide) ?_
     simp only[go_sem,J.t2,κ]
     exact⟨by simp only[go_sem,J.t1],by simp only[go_sem,J.t2],by simp only[go_sem,J.t3],by simp only[go_sem,J.t5],by simp only[go_sem,J.t6],λ_=>by simp only[go_sem],λq=>by have z:=J.k1 (jk (by decide) q);simp only[go_sem,z],λq=>by have z:=J.k2 (jk (by decide) q);simp only[go_sem,z],λq=>by have z:=J.k3 (jk (by decide) q);simp only[go_sem,z],λq=>by have z:=J.k4 (jk (by decide) q);simp only[go_sem,z],λq=>let ⟨n,z⟩:=J.k5 (jk (by decide) q);⟨n,by simp only[go_sem,z]⟩,λq=>let ⟨n,z⟩:=J.k6 (jk (by decide) q);⟨n,by simp only[go_sem,z]⟩,λq=>J.k8 (jk (by decide) q),g,t,p,rfl,a2,λq=>a3 (j1a (by decide) q),λq=>let ⟨A,w,st,C,z3,z4⟩:=a4 (jk (by decide) q);⟨A,w,st,by simp only[go_sem,C],λq=>by have z:=z3 (jk (by decide) q);simp only[go_sem,z],z4⟩⟩
   | 1,b=>
     injection b with b
     subst b
     simp only[List.getElem_toArray,List.getElem_cons_zero,List.getElem_cons_succ] at f⊢
     obtain⟨g,t,p,a1,a2,a3,a4⟩:=J.k7
     subst a1
     refine yP (by decide) ?_
     simp only[go_sem,J.t3]
     exact⟨by simp only[go_sem,J.t1],by simp only[go_sem,J.t2],by simp only[go_sem,J.t3],by simp only[go_sem,J.t5],by simp only[go_sem,J.t6],λq=>by have z:=J.k0 (jk (by decide) q);simp only[go_sem,z],λ_=>by simp only[go_sem],λq=>by have z:=J.k2 (jk (by decide) q);simp only[go_sem,z],λq=>by have z:=J.k3 (jk (by decide) q);simp only[go_sem,z],λq=>by have z:=J.k4 (jk (by decide) q);simp only[go_sem,z],λq=>let ⟨n,z⟩:=J.k5 (jk (by decide) q);⟨n,by simp only[go_sem,z]⟩,λq=>let ⟨n,z⟩:=J.k6 (jk (by decide) q);⟨n,by simp only[go_sem,z]⟩,λq=>J.k8 (jk (by decide) q),g,t,p,rfl,a2,λq=>a3 (j1a (by decide) q),λq=>let ⟨A,w,st,C,z3,z4⟩:=a4 (jk (by decide) q);⟨A,w,st,by simp only[go_sem,C],λq=>by have z:=z3 (jk (by decide) q);simp only[go_sem,z],z4⟩⟩
   | 2,b=>
     injection b with b
     subst b
     simp only[List.getElem_toArray,List.getElem_cons_zero,List.getElem_cons_succ] at f⊢
     have e1:=J.k1 (f 1 (by decide))
     obtain⟨g,t,p,a1,a2,a3,a4⟩:=J.k7
     subst a1
     refine yP (by decide) ?_
     simp only[go_sem,e1,ε]
     exact⟨by simp only[go_sem,J.t1],by simp only[go_sem,J.t2],by simp only[go_sem,J.t3],by simp only[go_sem,J.t5],by simp only[go_sem,J.t6],λq=>by have z:=J.k0 (jk (by decide) q);simp only[go_sem,z],λq=>by have z:=J.k1 (jk (by decide) q);simp only[go_sem,z],λ_=>by simp only[go_sem],λq=>by have z:=J.k3 (jk (by decide) q);simp only[go_sem,z],λq=>by have z:=J.k4 (jk (by decide) q);simp only[go_sem,z],λq=>let ⟨n,z⟩:=J.k5 (jk (by decide) q);⟨n,by simp only[go_sem,z]⟩,λq=>let ⟨n,z⟩:=J.k6 (jk (by decide) q);⟨n,by simp only[go_sem,z]⟩,λq=>J.k8 (jk (by decide) q),g,t,p,rfl,a2,λq=>a3 (j1a (by decide) q),λq=>let ⟨A,w,st,C,z3,z4⟩:=a4 (jk (by decide) q);⟨A,w,st,by simp only[go_sem,C],λq=>by have z:=z3 (jk (by decide) q);simp only[go_sem,z],z4⟩⟩
   | 3,b=>
     injection b with b
     subst b
     simp only[List.getElem_toArray,List.getElem_cons_zero,List.getElem_cons_succ] at f⊢
     obtain⟨g,t,p,a1,a2,a3,a4⟩:=J.k7
     subst a1
     refine yP (by decide) ?_
     simp only[go_sem,J.t6]
     exact⟨by simp only[go_sem,J.t1],by simp only[go_sem,J.t2],by simp only[go_sem,J.t3],by simp only[go_sem,J.t5],by simp only[go_sem,J.t6],λq=>by have z:=J.k0 (jk (by decide) q);simp only[go_sem,z],λq=>by have z:=J.k1 (jk (by decide) q);simp only[go_sem,z],λq=>by have z:=J.k2 (jk (by decide) q);simp only[go_sem,z],λ_=>by simp only[go_sem],λq=>by have z:=J.k4 (jk (by decide) q);simp only[go_sem,z],λq=>let ⟨n,z⟩:=J.k5 (jk (by decide) q);⟨n,by simp only[go_sem,z]⟩,λq=>let ⟨n,z⟩:=J.k6 (jk (by decide) q);⟨n,by simp only[go_sem,z]⟩,λq=>J.k8 (jk (by decide) q),g,t,p,rfl,a2,λq=>a3 (j1a (by decide) q),λq=>let ⟨A,w,st,C,z3,z4⟩:=a4 (jk (by decide) q);⟨A,w,st,by simp only[go_sem,C],λq=>by have z:=z3 (jk (by decide) q);simp only[go_sem,z],z4⟩⟩
   | 4,b=>
     injection b with b
     subst b
     simp only[List.getElem_toArray,List.getElem_cons_zero,List.getElem_cons_succ] at f⊢
     have e2:=J.k2 (f 2 (by decide))
     have e3:=J.k3 (f 3 (by decide))
     obtain⟨g,t,p,a1,a2,a3,a4⟩:=J.k7
     subst a1
     refine yP (by decide) ?_
     simp only[go_sem,e2,e3]
     exact⟨by simp only[go_sem,J.t1],by simp only[go_sem,J.t2],by simp only[go_sem,J.t3],by simp only[go_sem,J.t5],by simp only[go_sem,J.t6],λq=>by have z:=J.k0 (jk (by decide) q);simp only[go_sem,z],λq=>by have z:=J.k1 (jk (by decide) q);simp only[go_sem,z],λq=>by have z:=J.k2 (jk (by decide) q);simp only[go_sem,z],λq=>by have z:=J.k3 (jk (by decide) q);simp only[go_sem,z],λ_=>by simp only[go_sem],λq=>let ⟨n,z⟩:=J.k5 (jk (by decide) q);⟨n,by simp only[go_sem,z]⟩,λq=>let ⟨n,z⟩:=J.k6 (jk (by decide) q);⟨n,by simp only[go_sem,z]⟩,λq=>J.k8 (jk (by decide) q),g,t,p,rfl,a2,λq=>a3 (j1a (by decide) q),λq=>let ⟨A,w,st,C,z3,z4⟩:=a4 (jk (by decide) q);⟨A,w,st,by simp only[go_sem,C],λq=>by have z:=z3 (jk (by decide) q);simp only[go_sem,z],z4⟩⟩
   | 5,b=>
     injection b with b
     subst b
     simp only[List.getElem_toArray,List.getElem_cons_zero,List.getElem_cons_succ] at f⊢
     have Q:=J.k0 (f 0 (by decide))
     have e4:=J.k4 (f 4 (by decide))
     obtain⟨g,t,p,a1,a2,a3,a4⟩:=J.k7
     subst a1
     refine wNa (d:=20) (q:=24) (y:=(e.worker,kk.1+(n:Int))) (by decide) rfl Q e4 (zo (by rw[G,ze,zz];omega)) a2 λn5=>?_
     exact⟨by simp only[go_sem,J.t1],by simp only[go_sem,J.t2],by simp only[go_sem,J.t3],by simp only[go_sem,J.t5],by simp only[go_sem,J.t6],λq=>by have z:=J.k0 (jk (by decide) q);simp only[go_sem,z],λq=>by have z:=J.k1 (jk (by decide) q);simp only[go_sem,z],λq=>by have z:=J.k2 (jk (by decide) q);simp only[go_sem,z],λq=>by have z:=J.k3 (jk (by decide) q);simp only[go_sem,z],λq=>by have z:=J.k4 (jk (by decide) q);simp only[go_sem,z],λ_=>⟨n5,by simp only[go_sem]⟩,λq=>let ⟨n,z⟩:=J.k6 (jk (by decide) q);⟨n,by simp only[go_sem,z]⟩,λq=>J.k8 (jk (by decide) q),g,t,p,rfl,a2,λq=>a3 (j1a (by decide) q),λq=>let ⟨A,w,st,C,z3,z4⟩:=a4 (jk (by decide) q);⟨A,w,st,by simp only[go_sem,C],λq=>by have z:=z3 (jk (by decide) q);simp only[go_sem,z],z4⟩⟩
   | 6,b=>
     injection b with b
     subst b
     simp only[List.getElem_toArray,List.getElem_cons_zero,List.getElem_cons_succ] at f⊢
     obtain⟨n5,e5⟩:=J.k5 (f 5 (by decide))
     obtain⟨g,t,p,a1,a2,a3,a4⟩:=J.k7
     subst a1
     refine yP (by decide) ?_
     simp only[go_sem,e5]
     exact⟨by simp only[go_sem,J.t1],by simp only[go_sem,J.t2],by simp only[go_sem,J.t3],by simp only[go_sem,J.t5],by simp only[go_sem,J.t6],λq=>by have z:=J.k0 (jk (by decide) q);simp only[go_sem,z],λq=>by have z:=J.k1 (jk (by decide) q);simp only[go_sem,z],λq=>by have z:=J.k2 (jk (by decide) q);simp only[go_sem,z],λq=>by have z:=J.k3 (jk (by decide) q);simp only[go_sem,z],λq=>by have z:=J.k4 (jk (by decide) q);simp only[go_sem,z],λq=>let ⟨n,z⟩:=J.k5 (jk (by decide) q);⟨n,by simp only[go_sem,z]⟩,λ_=>⟨IntKind.i64.wrap (n5+1),by simp only[go_sem]⟩,λq=>J.k8 (jk (by decide) q),g,t,p,rfl,a2,λq=>a3 (j1a (by decide) q),λq=>let ⟨A,w,st,C,z3,z4⟩:=a4 (jk (by decide) q);⟨A,w,st,by simp only[go_sem,C],λq=>by have z:=z3 (jk (by decide) q);simp only[go_sem,z],z4⟩⟩
   | 7,b=>
     injection b with b
     subst b
     simp only[List.getElem_toArray,List.getElem_cons_zero,List.getElem_cons_succ] at f⊢
     have Q:=J.k0 (f 0 (by decide))
     have e4:=J.k4 (f 4 (by decide))
     obtain⟨g,t,p,a1,a2,a3,a4⟩:=J.k7
     subst a1
     refine kSa (d:=20) (q:=24) (y:=(e.worker,kk.1+(n:Int))) (by decide) rfl Q e4 (zo (by rw[G,ze,zz];omega)) a2 λN c3 w st A C=>?_
     rw[zU]
     exact⟨by simp only[go_sem,J.t1],by simp only[go_sem,J.t2],by simp only[go_sem,J.t3],by simp only[go_sem,J.t5],by simp only[go_sem,J.t6],λq=>by have z:=J.k0 (jk (by decide) q);simp only[go_sem,z],λq=>by have z:=J.k1 (jk (by decide) q);simp only[go_sem,z],λq=>by have z:=J.k2 (jk (by decide) q);simp only[go_sem,z],λq=>by have z:=J.k3 (jk (by decide) q);simp only[go_sem,z],λq=>by have z:=J.k4 (jk (by decide) q);simp only[go_sem,z],λq=>let ⟨n,z⟩:=J.k5 (jk (by decide) q);⟨n,by simp only[go_sem,z]⟩,λq=>let ⟨n,z⟩:=J.k6 (jk (by decide) q);⟨n,by simp only[go_sem,z]⟩,λq=>rfl,N,c3,_,rfl,A,(λq=>by simp at q),λ_=>⟨by rw[a3 U],w,st,by simp only[go_sem],λq=>absurd (J.k8 (jk (by decide) q)) (by rw[U];decide),C⟩⟩
   | 8,b=>
     injection b with b
     subst b
     simp only[List.getElem_toArray,List.getElem_cons_zero,List.getElem_cons_succ] at f⊢
     obtain⟨g,t,p,a1,a2,a3,a4⟩:=J.k7
     subst a1
     obtain⟨a5,w,st,Z,a7,a8⟩:=a4 (f 7 (by decide))
     refine yP (by decide) ?_
     simp only[go_sem,Z]
     exact⟨by simp only[go_sem,J.t1],by simp only[go_sem,J.t2],by simp only[go_sem,J.t3],by simp only[go_sem,J.t5],by simp only[go_sem,J.t6],λq=>by have z:=J.k0 (jk (by decide) q);simp only[go_sem,z],λq=>by have z:=J.k1 (jk (by decide) q);simp only[go_sem,z],λq=>by have z:=J.k2 (jk (by decide) q);simp only[go_sem,z],λq=>by have z:=J.k3 (jk (by decide) q);simp only[go_sem,z],λq=>by have z:=J.k4 (jk (by decide) q);simp only[go_sem,z],λq=>let ⟨n,z⟩:=J.k5 (jk (by decide) q);⟨n,by simp only[go_sem,z]⟩,λq=>let ⟨n,z⟩:=J.k6 (jk (by decide) q);⟨n,by simp only[go_sem,z]⟩,λ_=>f 7 (by decide),g,t,p,rfl,a2,λq=>a3 (j1a (by decide) q),λq=>⟨a5,w,st,by simp only[go_sem,Z],λ_=>by simp only[go_sem],a8⟩⟩
   | 9,b=>
     injection b with b
     subst b
     simp only[List.getElem_toArray,List.getElem_cons_zero,List.getElem_cons_succ] at f⊢
     have Q:=J.k0 (f 0 (by decide))
     obtain⟨n6,e6⟩:=J.k6 (f 6 (by decide))
     obtain⟨g,t,p,a1,a2,a3,a4⟩:=J.k7
     subst a1
     obtain⟨a5,w,st,Z,a7,a8⟩:=a4 (f 7 (by decide))
     have e8:=a7 (f 8 (by decide))
     refine kTa (d:=20) (q:=28) (x:=26) (st:=st) (by decide) rfl Q e8 e6 (zo (by rw[G,ze,zz];omega)) a2 a8 λN u A z5=>?_
     rw[zU]
     exact⟨by simp only[go_sem,J.t1],by simp only[go_sem,J.t2],by simp only[go_sem,J.t3],by simp only[go_sem,J.t5],by simp only[go_sem,J.t6],λq=>by have z:=J.k0 (jk (by decide) q);simp only[go_sem,z],λq=>by have z:=J.k1 (jk (by decide) q);simp only[go_sem,z],λq=>by have z:=J.k2 (jk (by decide) q);simp only[go_sem,z],λq=>by have z:=J.k3 (jk (by decide) q);simp only[go_sem,z],λq=>by have z:=J.k4 (jk (by decide) q);simp only[go_sem,z],λq=>let ⟨n,z⟩:=J.k5 (jk (by decide) q);⟨n,by simp only[go_sem,z]⟩,λq=>let ⟨n,z⟩:=J.k6 (jk (by decide) q);⟨n,by simp only[go_sem,z]⟩,λq=>J.k8 (jk (by decide) q),N,t,p,rfl,A,λq=>a3 (j1a (by decide) q),λq=>⟨a5,w,st,by simp only[go_sem,Z],λ_=>by simp only[go_sem,e8],z5⟩⟩
   | n+10,b=>cases b
  ·rintro S T h' D J
   obtain⟨g,t,p,a1,a2,a3,a4⟩:=J.k7
   obtain⟨a5,_⟩:=a4 (D 7 (by decide))
   subst a1 a5
   have V:H.set id (.raw l (.map g t) [] [])=h.set id (.raw l (.map g t) [] [])++[.box 75 (evC e)]:=by
    rw[G,qb _ _ (by rw[zz];exact E),zU]
   have F:(List.range (n+1)).map (λn:Nat=>(e.worker,kk.1+(n:Int)))=(List.range n).map (λn:Nat=>(e.worker,kk.1+(n:Int)))++[(e.worker,kk.1+(n:Int))]:=by
    rw[List.range_succ,zy];rfl
   simp only[go_sem,J.t6,η]
   refine⟨cnt - (n+1),by omega,n+1,g,t,by omega,?_,V,by simp only[go_sem,J.t1],by simp only[go_sem,J.t2],by simp only[go_sem,J.t3],by simp only[go_sem,J.t5],(by show i64 _=i64 _;congr 1;omega),rfl⟩
   rw[F,qY, <-X]
   exact a2
 ·have φ:¬ kk.1+(n:Int)<=kk.2:=by simpa using q
  have δ:n=cnt:=by omega
  subst δ
  simp only[go_sem]
  refine⟨.tup [],rfl,.inr ⟨h.set id (.raw l (.map es' c') [] []),[.box 75 (evC e)],rfl,by rw[zz],rfl,KeepLt.refl.set rfl rfl,rfl,es',c',by rw[O];exact K,rfl⟩⟩
