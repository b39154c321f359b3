import Derived.Test.YtigdlmpjijhpaaaGreatKA
import Derived.Test.YtigdlmpjijhpaaaGreatK45
import Derived.Test.YtigdlmpjijhpaaaGreatK19
import Derived.Test.YtigdlmpjijhpaaaGreatK44
import Derived.Test.YtigdlmpjijhpaaaGreatK40
import Derived.Test.YtigdlmpjijhpaaaGreatK38
import Derived.Test.YtigdlmpjijhpaaaGreatK31
import Derived.Test.YtigdlmpjijhpaaaGreatK21
import Derived.Test.YtigdlmpjijhpaaaGreatK43
import Derived.Test.YtigdlmpjijhpaaaGreatK34
set_option linter.all false
namespace Go.Proofs.YtigdlmpjijhpaaaGreat.Ax
open Go Go.Proofs Go.RowKit
set_option maxRecDepth 100000
theorem w5a{c:Ctx}:∀ {us:List AV} {vs:List Value},ARs c us vs->vs.length=us.length
 | [],_,h=>by rw[show _=[] from h];rfl
 | a::us,_,⟨v,r,b,_,d⟩=>by rw[b,List.length_cons,List.length_cons,w5a d]
theorem vla{c:Ctx}:∀ {us bs:List AV} {vs:List Value},ARs c (us++bs) vs->ARs c us (vs.take us.length)/\ARs c bs (vs.drop us.length)
 | [],_,vs,h=>⟨by rw[List.length_nil,List.take_zero];exact rfl,h⟩
 | a::us,bs,_,⟨v,r,e,b,d⟩=>by
   obtain⟨f,g⟩:=vla (us:=us) (bs:=bs) d
   subst e
   exact⟨⟨v,_,rfl,b,f⟩,g⟩
theorem xla{e:Nat}:∀ {xs:List (List AV)},(∀x∈xs,x.length=e)->xs.flatten.length=xs.length*e
 | [],_=>by simp
 | x::xs,h=>by
   rw[List.flatten_cons,zg,h x (.head _),xla λy a=>h y (.tail _ a),List.length_cons,Nat.add_mul,Nat.one_mul,Nat.add_comm]
theorem z3b:∃i z,Tryz.prog.info? 45=some i/\i.size=27/\i.bytes<=1000/\i.zero=some z/\z.cells.size=27:=by
 have h:(Tryz.prog.info? 45).map (λi=>(i.size,decide (i.bytes<=1000),i.zero.map (·.cells.size)))=some (27,true,some 27):=by kernel_rfl
 cases hi:Tryz.prog.info? 45 with
 | none=>rw[hi] at h;cases h
 | some i=>
   rw[hi] at h
   injection h with h
   injection h with h1 h2
   injection h2 with h2 h3
   cases a:i.zero with
   | none=>rw[a] at h3;cases h3
   | some z=>
     rw[a] at h3
     injection h3 with h3
     exact⟨i,z,rfl,h1,of_decide_eq_true h2,a,h3⟩
theorem KHa{cur:Array Value}{o:Nat}{vs:List Value}(h:o+vs.length<=cur.size)(k:Nat)(a:k<=o):(Qg cur o vs).toList.take k=cur.toList.take k:=by
 unfold Qg
 have b:(cur.toList.take o).length=o:=by rw[zH,qF];omega
 show(cur.toList.take o++vs++cur.toList.drop (o+vs.length)).take k=_
 rw[zr,qE (by omega),List.take_take,Nat.min_eq_left a]
theorem Yb{cur:Array Value}{o:Nat}{vs:List Value}(h:o+vs.length<=cur.size):(Qg cur o vs).toList.take (o+vs.length)=cur.toList.take o++vs:=by
 unfold Qg
 have a:(cur.toList.take o).length=o:=by rw[zH,qF];omega
 show(cur.toList.take o++vs++cur.toList.drop (o+vs.length)).take (o+vs.length)=_
 rw[qE (by rw[zg];omega),List.take_of_length_le (by rw[zg];omega)]
theorem KIa{cur:Array Value}{o:Nat}{vs:List Value}(h:o+vs.length<=cur.size):(Qg cur o vs).toList.drop (o+vs.length)=cur.toList.drop (o+vs.length):=by
 unfold Qg
 have a:(cur.toList.take o).length=o:=by rw[zH,qF];omega
 show(cur.toList.take o++vs++cur.toList.drop (o+vs.length)).drop (o+vs.length)=_
 rw[List.drop_append_of_le_length (by rw[zg];omega),List.drop_of_length_le (by rw[zg];omega),List.nil_append]
theorem z2a{w:World}{b o:Nat}{T:TypeId}{cur:Array Value}{vs:List Value}(c:w.heap[b]? =some (.cells cur T (0,0)))(h:∀j u,vs[j]? =some u->cur.toList[o+j]? =some u):∀j u,vs[j]? =some u->w.cell? ((⟨b,o,none⟩:Addr).add j)=some u:=λj u a=>by
 rw[Addr.add_lit]
 unfold World.cell?
 rw[c]
 have:=h j u a
 rw[qC] at this
 exact this
set_option maxHeartbeats 1000000 in
theorem j5b(h:List Ob)(id st E st2:Nat)(xs:List (List AV))(y:List AV)(i:Nat)(ho:h[id]? =some (.row 45 27 xs st))(ho2:h[E]? =some (.row 45 27 [y] st2))(hne:id≠E)(hi:i<xs.length)(hl:xs.length<1048576)
  (hx1:(xs.all λr=>r.all AV.one)=true) (hy1:y.all AV.one=true):
  ACalls Tryz.prog 171 [.tl id st,i64 i,.tl E st2] h λr h'=>r= .tl id (st+1)/\h'=h.set id (.row 45 27 (xs.take i++y::xs.drop i) (st+1)):=by
 refine⟨by kernel_rfl,⟨_,_,⟨rfl,rfl⟩,qj ho rfl⟩,λφ A B w g vs hh hB ν=>?_⟩
 have X:=qL (φ:=φ) ho rfl
 have U:=qL (φ:=φ) ho2 rfl
 obtain⟨v1,r1,rfl,h1,v2,r2,rfl,h2,v3,r3,rfl,h3,hr⟩:=ν
 have hr:r3=[]:=hr
 have h2:v2= .int .i64 (i:Int):=h2
 have hcur:=Qh h1 X
 have ρ:=Qh h3 U
 subst hr h2 hcur ρ
 obtain⟨_,lx,cells,q2,q3⟩:=hh.ok _ _ X
 obtain⟨_,ly,J,p2,p3⟩:=hh.ok _ _ U
 obtain⟨n,hn⟩:∃n,n=xs.length:=⟨_,rfl⟩
 have Y:cells.length=n*27:=by rw[w5a q3,xla lx,hn]
 have C:J.length=27:=by rw[w5a p3];simp[ly y (.head _)]
 rw[<-hn] at q2 hi hl
 have hc1:∀v∈cells,v.oneCell'=true:=Qp (by
  rw[qa] at hx1⊢
  intro a ha
  obtain⟨r,hr,ha⟩:=List.mem_flatten.1 ha
  exact qa.1 (hx1 r hr) a ha) q3
 have ζ:∀v∈J,v.oneCell'=true:=Qp (by simpa using hy1) p3
 rcases q2.2 with⟨_,e1⟩|⟨f,cap,cur,e1,e2,e3,e4,e5,e6,e7⟩
 ·omega
 rcases p2.2 with⟨_,f1⟩|⟨O,vc,t,f1,f2,f3,f4,f5,f6,f7⟩
 ·exact absurd f1 (by simp)
 have e1:g.cur id= .slice (some ⟨f,0,none⟩) n cap:=e1
 have f1:g.cur E= .slice (some ⟨O,0,none⟩) 1 vc:=f1
 have hvb:O≠f:=λq=>by
  subst q
  exact hh.apart id E _ _ _ hne X U (show(g.cur id).ownBlock=some O by rw[e1];rfl) (show(g.cur E).ownBlock=some O by rw[f1];rfl)
 have e5':cap<=9223372036854775807:=e5
 have hsz:n*27<=cur.size:=by rw[e6];exact Nat.mul_le_mul_right _ e4
 have f4:1<=vc:=f4
 have hvs:27<=t.size:=by rw[f6];omega
 have f7:t.toList.take 27=J:=by simpa using f7
 have W:∀j u,J[j]? =some u->t.toList[0+j]? =some u:=λj u A=>by
  have hj:=(zd.1 A).1
  rw[<-f7,qZ,if_pos (by omega)] at A
  rw[Nat.zero_add]
  exact A
 have Z:∀j u,(cells.drop (i*27))[j]? =some u->cur.toList[i*27+j]? =some u:=λj u A=>by
  have hj:=(zd.1 A).1
  rw[List.length_drop] at hj
  rw[List.getElem?_drop, <-e7,qZ,if_pos (by omega)] at A
  exact A
 have L:(cells.drop (i*27)).length=(n - i)*27:=by rw[List.length_drop,Y,Nat.sub_mul]
 have hin:i*27+27<=n*27:=by omega
 obtain⟨ii,z,V,M,hi3,hi4,hi5⟩:=z3b
 have hnew:ARs (ctx w g (fill φ h)) (xs.take i++y::xs.drop i).flatten (cells.take (i*27)++J++cells.drop (i*27)):=by
  have hxs:(xs.take i).flatten++(xs.drop i).flatten=xs.flatten:=by rw[<-List.flatten_append,qQ]
  rw[<-hxs] at q3
  obtain⟨s1,s2⟩:=vla q3
  have hl1:(xs.take i).flatten.length=i*27:=by rw[xla λx hx=>lx x (List.mem_of_mem_take hx),zH];congr 1;omega
  rw[hl1] at s1 s2
  have p3:ARs (ctx w g (fill φ h)) y J:=by simpa using p3
  rw[List.flatten_append,List.flatten_cons, <-zr]
  exact vQ (vQ s1 p3) s2
 have hxl:∀x∈xs.take i++y::xs.drop i,x.length=27:=λx hx=>by
  rcases zI.1 hx with hx|hx
  ·exact lx x (List.mem_of_mem_take hx)
  ·rcases zy.1 hx with rfl|hx
   ·exact ly x (.head _)
   ·exact lx x (List.mem_of_mem_drop hx)
 have hlen:(xs.take i++y::xs.drop i).length=n+1:=by rw[zg,List.length_cons,zH,List.length_drop];omega
 have hil:=(zd.1 X).1
 have fin:∀(w':World) (N G:Nat) (row:Array Value),w.grownBy w' (some f)->w'.heap[N]? =some (.cells row 45 (0,0))->B<=N->n+1<=G->G<=maxLen->row.size=G*27->row.toList.take ((n+1)*27)=cells.take (i*27)++J++cells.drop (i*27)->(N=f∨w.heap.size<=N)->
   ∃v r h' g',Ending.returned (.slice (some ⟨N,0,none⟩) (n+1) G)= .returned v/\(r=AV.tl id (st+1)/\h'=h.set id (.row 45 27 (xs.take i++y::xs.drop i) (st+1)))/\ResK h h'/\Good B w g (fill φ h) w' g' (fill φ h')/\AR (ctx w' g' (fill φ h')) r v:=λw' N G row a1 a2 a3 a4 a5 a6 a7 a8=>by
  have ξ:=Zv (w':=w') (xs':=xs.take i++y::xs.drop i) (v':= .slice (some ⟨N,0,none⟩) (n+1) G) (cells:=cells.take (i*27)++J++cells.drop (i*27)) (st':=st+1) hh hB X hxl (by rw[e1];exact a1) (by
   rw[hlen]
   refine⟨?_,.inr ⟨N,G,row,rfl,a3,a2,a4,a5,a6,a7⟩⟩
   rw[zg,zg,zH,List.length_drop,Y,C]
   omega) hnew (.inr (Nat.lt_succ_self st)) (λb hb=>by
   have hb:some N=some b:=hb
   injection hb with hb
   subst hb
   rcases a8 with rfl|a8
   ·exact .inl (by rw[e1];rfl)
   ·exact .inr a8)
  refine⟨_,_,_,_,rfl,⟨rfl,rfl⟩,qj ho rfl,by rw[ji rfl];exact ξ,⟨_,_,_,rfl⟩,⟨_,by rw[ji rfl,zo hil],rfl⟩,λs hs=>?_⟩
  have hs:Ob.tok (fill φ (h.set id (.row 45 27 (xs.take i++y::xs.drop i) (st+1))))[id]? =some s:=hs
  rw[ji rfl,zo hil] at hs
  have hs:some (st+1)=some s:=hs
  injection hs with hs
  subst hs
  exact⟨zp _,λ_=>by simp[ctx]⟩
 show Calls Tryz.prog _ (Array.mk [g.cur id,Value.int .i64 (i:Int),g.cur E]) w _
 have μ:(Array.mk [g.cur id,Value.int .i64 (i:Int),g.cur E])= #[.slice (some ⟨f,0,none⟩) n cap,.int .i64 (i:Int),.slice (some ⟨O,0,none⟩) 1 vc]:=by rw[e1,f1]
 rw[μ]
 by_cases H:n+1<=cap
 ·have hsz1:(n+1)*27<=cur.size:=by rw[e6];exact Nat.mul_le_mul_right _ H
  have hb:w.drew.heap[f]? =some (.cells cur 45 (0,0)):=e3
  have d:(i+1)*27+(cells.drop (i*27)).length<=cur.size:=by rw[L, <-Nat.add_mul,show i+1+(n - i)=n+1 by omega];exact hsz1
  have r1:=λty=>yN (P:=Tryz.prog) w.drew 32 ty 45 ii Tryz.underlying32 V f _ cur hb ((i+1)*27) (n - i) (cap - (i+1)) ⟨f,i*27,none⟩ (n+1 - i) (cap - i) (n - i) (by simp only[Nat.min_def];split<;>omega) (cells.drop (i*27)) (by rw[M];exact L) (z2a hb Z) (λu A=>hc1 u (List.mem_of_mem_drop A)) d
  obtain⟨l,m⟩:∃l,l=Qg cur ((i+1)*27) (cells.drop (i*27)):=⟨_,rfl⟩
  rw[<-m] at r1
  have F:l.size=cur.size:=by rw[m,Ju d]
  have S:=setRow_heap w.drew f cur l _ _ hb
  have κ:(w.drew.setRow f l).heap[O]? =some (.cells t 45 (0,0)):=by rw[setRow_other _ _ _ _ hvb];exact f3
  have c:i*27+J.length<=l.size:=by rw[C,F];omega
  have r2:=λty=>yN (P:=Tryz.prog) (w.drew.setRow f l) 32 ty 45 ii Tryz.underlying32 V f _ l S (i*27) (n+1 - i) (cap - i) ⟨O,0,none⟩ 1 vc 1 (by simp only[Nat.min_def];split<;>omega) J (by rw[M,C]) (z2a κ W) ζ c
  obtain⟨K,p⟩:∃K,K=Qg l (i*27) J:=⟨_,rfl⟩
  rw[<-p] at r2
  have T:K.size=cur.size:=by rw[p,Ju c,F]
  have τ:=setRow_heap (w.drew.setRow f l) f l K _ _ S
  have α:=WNa f n cap i O vc w hi H e5' hvb 45 45 t.size cur.size (by simp[World.shape?,f3]) (by simp[World.shape?,e3]) (by omega) (by simp[World.frozen?,f3]) (by simp[World.frozen?,f3]) _ _ r1 r2
  refine α.mono ?_
  rintro e w' ⟨rfl,rfl⟩
  refine fin _ f cap K ⟨rfl,rfl,rfl,by simp,λk hk D=>?_⟩ τ e2 H e5 (by rw[T,e6]) ?_ (.inl rfl)
  ·have D:k≠f:=λq=>D (by rw[q])
   rw[setRow_other _ _ _ _ D,setRow_other _ _ _ _ D]
   rfl
  ·have hd2:=KIa c
   rw[<-p,C] at hd2
   have R:=Yb c
   rw[<-p,C] at R
   have ht1:=KHa d (i*27) (by omega)
   rw[<-m] at ht1
   have θ:=Yb d
   rw[<-m,L] at θ
   have hp1:cur.toList.take (i*27)=cells.take (i*27):=by
    rw[<-e7,List.take_take,Nat.min_eq_left (by omega)]
   have β:K.toList.take ((n+1)*27)=K.toList.take (i*27+27)++(K.toList.drop (i*27+27)).take ((n - i)*27):=by
    rw[show(n+1)*27=i*27+27+(n - i)*27 by omega,List.take_add]
   rw[β,R,hd2,ht1,hp1]
   congr 1
   have:(l.toList.take ((i+1)*27+(n - i)*27)).drop (i*27+27)=(l.toList.drop (i*27+27)).take ((n - i)*27):=by
    rw[List.drop_take]
    congr 1
    omega
   rw[<-this,θ,show i*27+27=(i+1)*27 by omega,List.drop_append_of_le_length (by rw[zH,qF];omega),List.drop_of_length_le (by rw[zH];omega),List.nil_append]
 ·obtain⟨G,hG⟩:∃G,G=grownCap w (n+1) cap 45:=⟨_,rfl⟩
  have hGn:n+1<=G:=by rw[hG];exact grownCap_ge w _ _ _
  have hGm:G<=maxLen:=by rw[hG];exact grownCap_le_maxLen w _ _ _ (by unfold maxLen;omega)
  have hG63:G<=9223372036854775807:=hGm
  have hold:(Builtin.firstCells ii.size i (.slice (some ⟨f,0,none⟩) i cap)).run Tryz.prog w.drew= .ok (cells.take (i*27)).toArray w.drew:=by
   rw[M]
   exact run_firstCells_some w.drew 27 i ⟨f,0,none⟩ i cap (cells.take (i*27)) (by rw[zH,Y];omega) (z2a (o:=0) (show w.drew.heap[f]? =_ from e3) λj u A=>by
    rw[qZ] at A
    split at A
    ·rw[<-e7,qZ,if_pos (by omega)] at A
     rw[Nat.zero_add]
     exact A
    ·cases A)
  have hbd:(n+1)*ii.bytes<=140737488355328:=Nat.le_trans (Nat.mul_le_mul_left _ hi3) (by omega)
  have η:∀ty,(Builtin.append_ #[32,3] ty #[.slice (some ⟨f,0,none⟩) i cap,.int .i64 ((n:Int)+1 - (i:Int))]).run Tryz.prog w= .ok (.slice (some ⟨w.heap.size,0,none⟩) (n+1) G) (w.drew.alloc (.cells ((cells.take (i*27)).toArray++Builtin.zeroCells z.cells (n+1 - i)++Builtin.zeroCells z.cells (G - (n+1))) 45)):=λty=>by
   have hk:i+(n+1 - i)=n+1:=by omega
   have:=Lib.run_append_grow_zeros w 32 3 ty 45 ii z .i64 .i64 Tryz.underlying32 Tryz.underlying3 V hi4 (some ⟨f,0,none⟩) i cap (cells.take (i*27)) hold (n+1 - i) (by omega) (by rw[M];decide) (by omega) (by omega) (Nat.le_trans (Nat.mul_le_mul_left _ hi3) (by omega)) (by rw[hk];exact growslice_fits (by omega) hbd)
   rw[hk, <-hG] at this
   rw[show(n:Int)+1 - (i:Int)=((n+1 - i:Nat):Int) by omega]
   exact this
  obtain⟨row,Q⟩:∃row:Array Value,row=(cells.take (i*27)).toArray++Builtin.zeroCells z.cells (n+1 - i)++Builtin.zeroCells z.cells (G - (n+1)):=⟨_,rfl⟩
  rw[<-Q] at η
  have hzs:∀k,(Builtin.zeroCells z.cells k).size=k*27:=λk=>by simp[Builtin.zeroCells,hi5]
  have ο:row.size=G*27:=by
   rw[Q,Array.size_append,Array.size_append,hzs,hzs,List.size_toArray,zH,Y]
   omega
  have hrt:row.toList.take (i*27)=cells.take (i*27):=by
   rw[Q,Array.toList_append,Array.toList_append,zr,qE (by simp[Y];omega)]
   exact List.take_of_length_le (by simp;omega)
  have hbN:(w.drew.alloc (.cells row 45)).heap[w.heap.size]? =some (.cells row 45 (0,0)):=heap_alloc_new w.drew _
  have hggN:f<w.heap.size:=(qM.1 e3).1
  have hvbN:O<w.heap.size:=(qM.1 f3).1
  have I:∀k,k<w.heap.size->(w.drew.alloc (.cells row 45)).heap[k]? =w.heap[k]? :=λk hk=>heap_alloc_old w.drew _ hk
  have κ:(w.drew.alloc (.cells row 45)).heap[O]? =some (.cells t 45 (0,0)):=by rw[I O hvbN];exact f3
  have d:i*27+J.length<=row.size:=by rw[C,ο];omega
  have r1:=λty=>yN (P:=Tryz.prog) (w.drew.alloc (.cells row 45)) 32 ty 45 ii Tryz.underlying32 V w.heap.size _ row hbN (i*27) (n+1 - i) (G - i) ⟨O,0,none⟩ 1 vc 1 (by simp only[Nat.min_def];split<;>omega) J (by rw[M,C]) (z2a κ W) ζ d
  obtain⟨l,m⟩:∃l,l=Qg row (i*27) J:=⟨_,rfl⟩
  rw[<-m] at r1
  have F:l.size=row.size:=by rw[m,Ju d]
  have S:=setRow_heap _ w.heap.size row l _ _ hbN
  have hg1:((w.drew.alloc (.cells row 45)).setRow w.heap.size l).drew.heap[f]? =some (.cells cur 45 (0,0)):=by
   show((w.drew.alloc (.cells row 45)).setRow w.heap.size l).heap[f]? =_
   rw[setRow_other _ _ _ _ (by omega),I f hggN]
   exact e3
  have c:(i+1)*27+(cells.drop (i*27)).length<=l.size:=by rw[L,F,ο];omega
  have r2:=λty=>yN (P:=Tryz.prog) ((w.drew.alloc (.cells row 45)).setRow w.heap.size l).drew 32 ty 45 ii Tryz.underlying32 V w.heap.size _ l S ((i+1)*27) (n - i) (G - (i+1)) ⟨f,i*27,none⟩ (n - i) (cap - i) (n - i) (by simp only[Nat.min_def];split<;>omega) (cells.drop (i*27)) (by rw[M];exact L) (z2a hg1 Z) (λu A=>hc1 u (List.mem_of_mem_drop A)) c
  obtain⟨K,p⟩:∃K,K=Qg l ((i+1)*27) (cells.drop (i*27)):=⟨_,rfl⟩
  rw[<-p] at r2
  have T:K.size=row.size:=by rw[p,Ju c,F]
  have τ:=setRow_heap ((w.drew.alloc (.cells row 45)).setRow w.heap.size l).drew w.heap.size l K _ _ S
  have α:=WOa f n cap i O vc w hi e4 (by omega) G hGn hG63 (by omega) _ _ _ η r1 r2
  refine α.mono ?_
  rintro e w' ⟨rfl,rfl⟩
  refine fin _ w.heap.size G K ⟨rfl,rfl,rfl,by simp,λk hk D=>?_⟩ τ hB hGn hGm (by rw[T,ο]) ?_ (.inr (zp _))
  ·rw[setRow_other _ _ _ _ (by omega)]
   show((w.drew.alloc (.cells row 45)).setRow w.heap.size l).heap[k]? =_
   rw[setRow_other _ _ _ _ (by omega),I k hk]
  ·have R:=Yb c
   rw[<-p,L,show(i+1)*27+(n - i)*27=(n+1)*27 by omega] at R
   have he1:=Yb d
   rw[<-m,C,show i*27+27=(i+1)*27 by omega] at he1
   rw[R,he1,hrt]
end Go.Proofs.YtigdlmpjijhpaaaGreat.Ax
namespace Go.Proofs.YtigdlmpjijhpaaaGreat.Ax
open Go Go.Proofs
set_option maxRecDepth 100000
attribute [go_sem] qgb qib
theorem j6b(h:List Ob)(id st a c:Nat)(xs:List (List AV))(y:List AV)(g:h[id]? =some (.row 45 27 xs st))(e:h[a]? =some (.row 45 27 [y] c))(i:id≠a)(j:xs.length<1048576)
  (f:(y.length==27 && y.all AV.one)=true):
  ACalls Tryz.prog 171 [.tl id st,i64 xs.length,.tl a c] h λr h'=>r= .tl id (st+1)/\h'=h.set id (.row 45 27 (xs++[y]) (st+1)):=by
 have b:(xs.length+1)*233<=140737488355328:=by omega
 have b0:((1:Int)==0)=false:=rfl
 have d:((xs.length:Int)<=(xs.length:Int))=True:=eq_true (Int.le_refl _)
 refine zj Tryz.f171 [.tmp 6] 95 rfl rfl rfl rfl rfl rfl (by decide) (⟨_,_,⟨rfl,rfl⟩,qj g rfl⟩) λB=>?_
 simp only[go_sem,g,e,b,f,b0,d,List.length_cons,List.length_nil,beq_self_eq_true,qv,zf,Int.le_refl,List.all_cons,List.all_nil,Bool.and_true,or_self,true_or,Int.toNat_natCast]
 exact⟨.tl id (st+1),by simp only[go_sem],.inl ⟨rfl,rfl⟩⟩
theorem j7b(h:List Ob)(a b:Nat)(y:List AV)(c:h[a]? =some (.row 45 27 [y] b))(d:(y.length==27 && y.all AV.one)=true):
  ACalls Tryz.prog 171 [.v (.slice none 0 0),i64 0,.tl a b] h λr h'=>r= .tl h.length 0/\h'=h++[.row 45 27 [y] 0]:=by
 have b0:((1:Int)==0)=false:=rfl
 refine zj Tryz.f171 [.tmp 6] 95 rfl rfl rfl rfl rfl rfl (by decide) (⟨_,_,⟨rfl,rfl⟩,resK_app⟩) λB=>?_
 simp only[go_sem,c,d,b0,List.length_cons,List.length_nil,beq_self_eq_true,qv,zf,Int.le_refl,List.all_cons,List.all_nil,Bool.and_true,or_self,true_or,Int.toNat_natCast]
 exact⟨.tl h.length 0,by simp only[go_sem],.inl ⟨rfl,rfl⟩⟩
theorem x9b(h:List Ob)(id st a b:Nat)(xs:List (List AV))(y:List AV)(i:Nat)(k:h[id]? =some (.row 45 27 xs st))(e:h[a]? =some (.row 45 27 [y] b))(d:id≠a)(hi:i<=xs.length)(j:xs.length<1048576)
  (g:(xs.all λr=>r.all AV.one)=true) (c:(y.length==27 && y.all AV.one)=true):
  ACalls Tryz.prog 171 [.tl id st,i64 i,.tl a b] h λr h'=>r= .tl id (st+1)/\h'=h.set id (.row 45 27 (xs.take i++y::xs.drop i) (st+1)):=by
 by_cases f:i<xs.length
 ·exact j5b h id st a b xs y i k e d f j g (by rw[zq] at c;exact c.2)
 ·have:i=xs.length:=by omega
  subst this
  have:=j6b h id st a b xs y k e d j c
  rw[zV,List.drop_length]
  exact this
theorem y8a{r:RW}:∀ {R:List RW},yJ R->yI r R=if isH R (qY r) then R.set (atR R (qY r)) r else R.take (atR R (qY r))++r::R.drop (atR R (qY r))
 | [],_=>rfl
 | y::l,i=>by
   obtain⟨k,h⟩:=zR.1 i
   have d:ltK (qY y) (qY r)=false->atR (y::l) (qY r)=0:=λq=>by
    unfold atR
    rw[List.takeWhile_cons,q]
    rfl
   unfold yI
   split
   ·rename_i a
    have c:isH (y::l) (qY r)=false:=by
     cases q:isH (y::l) (qY r)
     ·rfl
     ·obtain⟨z,g,e⟩:=wo.1 q
      rcases zy.1 g with rfl|g
      ·exact absurd e.symm (ZU a)
      ·exact absurd e.symm (ZU (KB a (k z g)))
    rw[c,d (via a)]
    rfl
   ·split
    ·rename_i a
     have c:isH (y::l) (qY r)=true:=wo.2 ⟨y,.head _,a.symm⟩
     rw[c,d (by rw[a];exact Vs _)]
     rfl
    ·rename_i a b
     have f:ltK (qY y) (qY r)=true:=y4a (by simpa using a) b
     have c:isH (y::l) (qY r)=isH l (qY r):=by
      show(qY y==qY r || isH l (qY r))=_
      rw[beq_eq_false_iff_ne.2 (λe=>b e.symm),Bool.false_or]
     have j:atR (y::l) (qY r)=atR l (qY r)+1:=by
      unfold atR
      rw[List.takeWhile_cons,f]
      rfl
     rw[c,j,y8a h]
     split<;>rfl
abbrev z4b(s:Setup)(a:SA)(x c b d:AV):List AV:=[i64 s.places,a.w,i64 s.pace.1,i64 s.pace.2,a.e,a.c,a.g,i64 s.allow,i64 s.unit,i64 s.cap,i64 s.paidBreak,i64 s.autoAfter,i64 s.autoBreak,
 i64 s.dayReg,i64 s.dayOver,i64 s.weekReg,i64 s.nightFrom,i64 s.nightTo,a.r,i64 s.diff,i64 s.least,i64 s.fault,a.t,x,c,b,d]
abbrev xG(s:Setup)(b:Bk)(a c:AV):Ob:= .box 161 (z4b s (frA s) (BX b) (BC b) a c)
structure ShI (h0 H:List Ob) (d:Nat) (s:Setup) (b:Bk) (R:List RW) (ks:List Ky):Prop where
 pre:Pre h0 H
 dl:h0.length<=d
 box:∃rv kv,H[d]? =some (xG s b rv kv)/\OwnS h0 H 45 27 rv (R.map je)/\OwnS h0 H 90 2 kv (ks.map jl)
def BoxD(d:Nat)(H a:List Ob):Prop:=∀j t cs,j≠d->H[j]? =some (.box t cs)->a[j]? =some (.box t cs)
theorem BoxD.refl{d:Nat}{H:List Ob}:BoxD d H H:=λ_ _ _ _ h=>h
theorem BoxD.trans{d:Nat}{H c a:List Ob}(k:BoxD d H c)(q:BoxD d c a):BoxD d H a:=λj t cs b h=>q j t cs b (k j t cs b h)
theorem BoxD.app{d:Nat}{H a:List Ob}(k:BoxD d H a)(M:List Ob):BoxD d H (a++M):=λj t cs b h=>ze (k j t cs b h)
theorem BoxD.setD{d:Nat}{H b:List Ob}(k:BoxD d H b)(o:Ob):BoxD d H (b.set d o):=λj t cs a h=>by rw[zc (λe=>a e.symm)];exact k j t cs a h
theorem BoxD.setR{d:Nat}{H a:List Ob}(k:BoxD d H a){id ty e st:Nat}{xs:List (List AV)}(c:a[id]? =some (.row ty e xs st))(o:Ob):BoxD d H (a.set id o):=λj t cs b h=>kQ (h0:=a) (k j t cs b h) c
theorem BoxD.setNew{d:Nat}{H a:List Ob}(k:BoxD d H a){i:Nat}(hi:H.length<=i)(o:Ob):BoxD d H (a.set i o):=λj t cs b h=>by
 have:=(zd.1 h).1
 rw[zc (by omega)]
 exact k j t cs b h
section
variable {h0 H:List Ob} {d:Nat} {s:Setup} {b:Bk} {R:List RW} {ks:List Ky}
theorem ShI.app(i:ShI h0 H d s b R ks){M:List Ob}(c:NoRes M):ShI h0 (H++M) d s b R ks:=by
 obtain⟨e,f,g,h,a⟩:=i.box
 exact⟨i.pre.app c,i.dl,e,f,ze g,h.app M,a.app M⟩
theorem ShI.any(i:ShI h0 H d s b R ks)(b':Bk)(c:List RW)(a:List Ky):∃e,(ShI h0 e d s b' c a/\BoxD d H e)/\ResK H e:=by
 obtain⟨h,j,g,o,m⟩:=i.box
 have l:=i.pre.len
 have n:=(zd.1 g).1
 have f:(H++[Ob.row 45 27 (c.map je) 0,.row 90 2 (a.map jl) 0])[d]? =some (xG s b h j):=ze g
 refine⟨(H++[Ob.row 45 27 (c.map je) 0,.row 90 2 (a.map jl) 0]).set d (xG s b' (.tl H.length 0) (.tl (H.length+1) 0)),⟨⟨(i.pre.app (zl rfl (zD rfl))).set i.dl rfl,i.dl,_,_,zm f,.inr ⟨H.length,0,l,rfl,?_⟩,.inr ⟨H.length+1,0,by omega,rfl,?_⟩⟩,(BoxD.refl.app _).setD _⟩,resK_app.trans (qj f rfl)⟩
 ·rw[zc (by omega),zK rfl];rfl
 ·rw[zc (by omega),zG (k:=1) rfl];rfl
end
theorem WPa{α:Type}{xs:List α}{i:Nat}(h:i<=xs.length)(z y:α):(xs.take i++z::xs.drop i).set i y=xs.take i++y::xs.drop i:=by
 rw[zT _ _ (by rw[zH];omega),zH,Nat.min_eq_left h,Nat.sub_self,List.set_cons_zero]
theorem KJa(l:List RW):((l.map je).all λr=>r.all AV.one)=true:=by
 rw[qa];intro r a;obtain⟨s,_,rfl⟩:=zt.1 a;rfl
theorem row_ne_key:45≠90:=by decide
theorem frM(s:Setup)(H:List Ob):SIn H s (frA s):=Jm s
set_option maxHeartbeats 2000000 in
theorem WQa(h0 H:List Ob)(d:Nat)(s:Setup)(f:SFit s)(b:Bk)(R:List RW)(ks:List Ky)(k:Ky)(i:ShI h0 H d s b R ks)(hs:yJ R)(ξ:0<=k.1)(he:b.evs.length<=1000)(hR:R.length<1000000)(hks:ks.length<1000000):
  ACalls Tryz.prog 93 [.ptr d 0,.ag (jl k)] H λr I=>r= .tup []/\ShI h0 I d s b (yI (qi s b.evs k.1 k.2) R) (ks++[k])/\BoxD d H I:=by
 have hex:∃r I,(r=AV.tup []/\ShI h0 I d s b (yI (qi s b.evs k.1 k.2) R) (ks++[k])/\BoxD d H I)/\ResK H I:=by
  obtain⟨I,⟨W,q0⟩,U⟩:=i.any b (yI (qi s b.evs k.1 k.2) R) (ks++[k])
  exact⟨_,I,⟨rfl,W,q0⟩,U⟩
 obtain⟨n,p,rv,F,W,U,q3⟩:=i
 have hd:=(zd.1 W).1
 have V:=(frM s H).ones
 have γ:=U.rows.one
 have D:=q3.rows.one
 have l:∀M,(H++M)[d]? =some (xG s b rv F):=λM=>ze W
 obtain⟨r,hr⟩:∃r,r=qi s b.evs k.1 k.2:=⟨_,rfl⟩
 have τ:qY r=k:=by rw[hr];exact zYa s b.evs k.1 k.2 ξ
 have c:=y8a (r:=r) hs
 rw[τ] at c
 rw[<-hr]
 refine jM (N:=65) (rs:=[]) (fn:=Tryz.f93) rfl rfl rfl rfl (qp rfl) rfl (by rw[hr];exact hex) λB=>?_
 refine qG (by decide) ?_
 simp only[go_sem,jl]
 refine jR (qG (by decide) ?_)
 simp only[go_sem]
 refine zQ rfl [] 0 [(0,0,[]),(1,0,[]),(2,0,[]),(3,0,[]),(4,0,[]),(5,0,[]),(6,0,[]),(7,0,[]),(8,0,[]),(9,0,[]),(10,0,[]),(11,0,[])] rfl (by decide) (by decide) ?_
 simp only[go_sem,l,γ,jl]
 refine zh (KEa _ rv R k (U.app _).rows hs (by omega)) ?_
 rintro _ m ⟨rfl,rfl⟩
 simp only[go_sem]
 refine jR (xo (λT m=>T 0= .ptr d 0/\T 3= .ptr H.length 0/\T 4=i64 (atR R k)/\Pre h0 m/\BoxD d H m/\m[H.length]? =some (.box 90 (jl k))/\∃id st xs,h0.length<=id/\m[d]? =some (xG s b (.tl id st) F)/\m[id]? =some (.row 45 27 xs st)/\OwnS h0 m 90 2 F (ks.map jl)/\
   (∃Q,xs[atR R k]? =some Q/\Q.length=27)/\xs.set (atR R k) (je r)=(yI r R).map je) (by decide) ?_ ?_)
 ·cases q:isH R k
  ·rw[q] at c
   have u:=zYb R k
   have w:∀z,((R.map je).take (atR R k)++z::(R.map je).drop (atR R k)).set (atR R k) (je r)=(yI r R).map je:=λz=>by
    rw[c,if_neg (by decide),WPa (by rw[zb];exact u),zw,List.map_cons,List.map_take,List.map_drop]
   have ε:∀z:List AV,z.length=27->∃Q,((R.map je).take (atR R k)++z::(R.map je).drop (atR R k))[atR R k]? =some Q/\Q.length=27:=λz hz=>by
    refine⟨z,?_,hz⟩
    have hl:((R.map je).take (atR R k)).length=atR R k:=by rw[zH,zb];omega
    rw[zX (by omega),hl,Nat.sub_self]
    rfl
   simp only[go_sem,q,qv,l,V,γ,D]
   rcases U with⟨rfl,a⟩|⟨id,st,O,rfl,v⟩
   ·have υ:R=[]:=by simpa using a
    have Y:atR R k=0:=by rw[υ];rfl
    have K:=w
    have J:=ε
    rw[a,Y] at K J
    rw[Y]
    refine zh (j7b _ (H.length+1) 0 _ (by rw[zG (k:=1) rfl];rfl) rfl) ?_
    rintro _ h ⟨rfl,rfl⟩
    simp only[go_sem,l,V,D]
    refine⟨(n.app (zl rfl (zl rfl (zD rfl)))).set p rfl,(BoxD.refl.app _).setD _,by rw[zc (by omega),zK rfl];rfl,H.length+2,0,_,by have:=n.len;omega,zm (l _),by rw[zc (by omega),zG (k:=2) rfl];rfl,(q3.app _).setB (l _),J _ rfl,K _⟩
   ·have x:∀M,(H++M)[id]? =some (.row 45 27 (R.map je) st):=λM=>ze v
    have hil:=(zd.1 v).1
    have y:d≠id:=λe=>by rw[e,v] at W;cases W
    have o:∀M o',((H++M).set id o')[d]? =some (xG s b (.tl id st) F):=λM o'=>kQ (h0:=H) (l M) (x M)
    refine zh (x9b _ id st (H.length+1) 0 (R.map je) _ (atR R k) (x _) (by rw[zG (k:=1) rfl];rfl) (by omega) (by rw[zb];exact u) (by rw[zb];omega) (KJa R) rfl) ?_
    rintro _ h ⟨rfl,rfl⟩
    simp only[go_sem,o,V,D]
    refine⟨((n.app (zl rfl (zD rfl))).set O rfl).set p rfl,((BoxD.refl.app _).setR (x _) _).setD _,by rw[zc (by omega),zc (by omega),zK rfl];rfl,id,st+1,_,O,zm (o _ _),by rw[zc y];exact zm (x _),((q3.app _).set_row (x _) row_ne_key.symm _).setB (o _ _),ε _ rfl,w _⟩
  ·rw[q] at c
   obtain⟨Z,hkk⟩:=KFa hs q
   rcases U with⟨rfl,a⟩|⟨id,st,O,rfl,v⟩
   ·have:R=[]:=by simpa using a
    subst this
    cases Z
   ·simp only[go_sem,q,qv]
    refine⟨n.app (zD rfl),BoxD.refl.app _,rfl,id,st,_,O,l _,ze v,q3.app _,⟨_,Zq je Z,rfl⟩,?_⟩
    rw[c,if_pos rfl,List.map_set]
 ·rintro T m ⟨t0,t3,t4,β,X,A,id,st,xs,hid,g1,G,g3,⟨Q,u,ο⟩,w⟩
  have t:∀M,(m++M)[d]? =some (xG s b (.tl id st) F):=λM=>ze g1
  have η:∀M,(m++M)[id]? =some (.row 45 27 xs st):=λM=>ze G
  have kM:∀M,(m++M)[H.length]? =some (.box 90 (jl k)):=λM=>ze A
  have ν:((atR R k:Nat):Int)<xs.length:=by have:=(zd.1 u).1;omega
  have E:lay Q 0 (vA r.1 (.sl 2 (r.2.map xW)))=some (je r):=K3 _ _ ο
  refine qG (by decide) ?_
  simp only[go_sem]
  refine zQ rfl [] 0 [(0,0,[]),(1,0,[]),(2,0,[]),(3,0,[]),(5,0,[]),(6,0,[]),(7,0,[]),(8,0,[]),(9,0,[]),(10,0,[]),(12,0,[]),(13,0,[]),(14,0,[]),(15,0,[]),(16,0,[]),(18,0,[]),(20,0,[]),(4,0,[]),(11,0,[]),(17,0,[]),(19,0,[]),(21,0,[]),(22,0,[4]),(23,0,[]),(24,0,[])] rfl (by decide) (by decide) ?_
  simp only[go_sem,t0,t3,t4,g1,t,kM,A,V,D,jl]
  refine zh (ztb _ s (frA s) (frM s _) f (BX b) b.evs k.1 k.2 ⟨rfl,λ_=>rfl⟩ he) ?_
  rintro _ h3 ⟨rfl,e3⟩
  rw[e3, <-hr]
  clear e3
  simp only[go_sem,t0,t3,t4,g1,G,η,ν,u,E,vf,List.cons_append,List.nil_append,Int.toNat_natCast,zf]
  rw[w]
  obtain⟨h,j⟩:∃h,h=m.set id (.row 45 27 ((yI r R).map je) st):=⟨_,rfl⟩
  rw[<-j]
  have g:h[d]? =some (xG s b (.tl id st) F):=by rw[j];exact kQ (h0:=m) g1 G
  have C:h[id]? =some (.row 45 27 ((yI r R).map je) st):=by rw[j];exact zm G
  have ρ:OwnS h0 h 90 2 F (ks.map jl):=by rw[j];exact g3.set_row G row_ne_key.symm _
  have S:h[H.length]? =some (.box 90 (jl k)):=by rw[j];exact kQ (h0:=m) A G
  have L:Pre h0 h:=by rw[j];exact β.set hid rfl
  have δ:BoxD d H h:=by rw[j];exact X.setR G _
  have t:∀M,(h++M)[d]? =some (xG s b (.tl id st) F):=λM=>ze g
  have y:d≠id:=λe=>by rw[e,C] at g;cases g
  clear j X β g1 G g3 A u E η kM w
  refine zQ rfl [.res] 1 [(0,0,[]),(1,0,[]),(2,0,[]),(3,0,[]),(4,0,[]),(5,0,[]),(6,0,[]),(7,0,[]),(8,0,[]),(9,0,[]),(10,0,[])] rfl (by decide) (by decide) ?_
  have kM:∀M,(h++M)[H.length]? =some (.box 90 (jl k)):=λM=>ze S
  rcases ρ with⟨rfl,a⟩|⟨P,su,O,rfl,v⟩
  ·simp only[go_sem,t0,t3,g,t,S,kM,V,jl]
   have hl2:=L.len
   refine⟨.tup [],by simp only[go_sem],.inl ⟨rfl,⟨(L.app (zl rfl (zD rfl))).set p rfl,p,.tl id st,.tl (h.length+1) 0,zm (t _),.inr ⟨id,st,hid,rfl,?_⟩,.inr ⟨h.length+1,0,by omega,rfl,?_⟩⟩,(δ.app _).setD _⟩⟩
   ·rw[zc y];exact ze C
   ·have hd2:=(zd.1 g).1
    rw[zc (by omega),zG (k:=1) rfl,zw,a];rfl
  ·have x:∀M,(h++M)[P]? =some (.row 90 2 (ks.map jl) su):=λM=>ze v
   have α:((ks.map jl).length+1)*17<=140737488355328:=by rw[zb];omega
   have o:∀M o',((h++M).set P o')[d]? =some (xG s b (.tl id st) (.tl P su)):=λM o'=>kQ (h0:=h) (t M) (x M)
   simp only[go_sem,t0,t3,g,t,S,kM,V,x,α,o,jl]
   have χ:P≠id:=λe=>by rw[e,C] at v;injection v with v;injection v with z;exact absurd z row_ne_key
   have φ:d≠P:=λe=>by rw[e,v] at g;cases g
   refine⟨.tup [],by simp only[go_sem],.inl ⟨rfl,⟨((L.app (zD rfl)).set O rfl).set p rfl,p,.tl id st,.tl P (su+1),zm (o _ _),.inr ⟨id,st,hid,rfl,?_⟩,.inr ⟨P,su+1,O,rfl,?_⟩⟩,((δ.app _).setR (x _) _).setD _⟩⟩
   ·rw[zc y,zc χ];exact ze C
   ·rw[zc φ,zw];exact zm (x _)
def FlR(R:List RW):Prop:=∀r∈R,r.2.length<1099511627776
theorem y9a{s:Setup}(f:SFit s){l:List Ev}{w wk:Int}(a:l.length<=1000):(qi s l w wk).2.length<1099511627776:=by
 have:=(zVa f l w wk a).2
 omega
theorem vma{s:Setup}(f:SFit s){ev:List Ev}(a:ev.length<=1000){want:Bool}:∀(ks:List Ky) {t:List RW × List Ky},FlR t.1->FlR (kZ s ev want t ks).1
 | [],_,h=>h
 | k::ks,t,h=>by
   refine vma f a ks (t:=JC s ev want t k) ?_
   unfold JC
   split
   ·intro r b
    rcases Vt b with rfl|q|q
    ·exact y9a f a
    ·exact h r q.1
    ·exact h r q.1
   ·exact h
theorem w6a{s:Setup}{ev:List Ev}{want:Bool}{t:List RW × List Ky}{ks:List Ky}{n:Nat}(a:n<ks.length):kZ s ev want t (ks.take (n+1))=JC s ev want (kZ s ev want t (ks.take n)) ks[n]:=by
 unfold kZ
 rw[show ks.take (n+1)=ks.take n++[ks[n]] from(zE a).symm,qK]
 rfl
theorem Q0a{s:Setup}{ev:List Ev}{want:Bool}{t:List RW × List Ky}{k:Ky}(a:yJ t.1):yJ (JC s ev want t k).1/\(JC s ev want t k).1.length<=t.1.length+1/\(JC s ev want t k).2.length<=t.2.length+1:=by
 unfold JC
 split
 ·refine⟨xha a,?_,by simp⟩
  rw[xia a]
  split<;>omega
 ·exact⟨a,by omega,by omega⟩
theorem jja{s:Setup}{ev:List Ev}{want:Bool}:∀(ks:List Ky) {t:List RW × List Ky},yJ t.1->yJ (kZ s ev want t ks).1/\(kZ s ev want t ks).1.length<=t.1.length+ks.length/\(kZ s ev want t ks).2.length<=t.2.length+ks.length
 | [],_,h=>⟨h,by exact zp _,by exact zp _⟩
 | k::ks,t,h=>by
   obtain⟨b,c,d⟩:=Q0a (s:=s) (ev:=ev) (want:=want) (k:=k) h
   obtain⟨a,f,g⟩:=jja ks b
   have e:kZ s ev want t (k::ks)=kZ s ev want (JC s ev want t k) ks:=rfl
   rw[e,List.length_cons]
   exact⟨a,by omega,by omega⟩
theorem KKa{l:List Ky}{i:Nat}(h:i<l.length):(l.map jl)[i]? =some (jl l[i]):=by rw[zz,zi h];rfl
set_option maxHeartbeats 1000000 in
theorem Yza(h0 v:List Ob)(x:AV)(d:Nat)(s:Setup)(f:SFit s)(b:Bk)(c:List RW)(a ks:List Ky)(want:Bool)(A:FuncId)(ci:List AV)(Q:∀H,SlOf H x 2 (ks.map jl))(P:ShI h0 v d s b c a)(hs:yJ c)(E:∀k∈ks,0<=k.1)(O:b.evs.length<=1000)(hR:c.length<900000)(S:a.length<900000)(Z:ks.length<100000)(L:FlR c)
  (F:∀(H:List Ob) (R:List RW) (G:List Ky),ShI h0 H d s b R G->BoxD d v H->yJ R->R.length<1000000->FlR R->∀k∈ks,ACalls Tryz.prog A ([.ag (jl k)]++ci) H λr h'=>r=bl (isH R k==want)/\h'=H):
  ACalls Tryz.prog 92 [x,.fn (.func A) [] ci,.fn (.func 93) [.ptr d 0] []] v λr l=>r= .tup []/\ShI h0 l d s b (kZ s b.evs want (c,a) ks).1 (kZ s b.evs want (c,a) ks).2/\BoxD d v l:=by
 have hex:∃r l,(r=AV.tup []/\ShI h0 l d s b (kZ s b.evs want (c,a) ks).1 (kZ s b.evs want (c,a) ks).2/\BoxD d v l)/\ResK v l:=by
  obtain⟨l,⟨q1,V⟩,q2⟩:=P.any b (kZ s b.evs want (c,a) ks).1 (kZ s b.evs want (c,a) ks).2
  exact⟨_,l,⟨rfl,q1,V⟩,q2⟩
 have y:=λM=>(Q M).rows
 refine zj Tryz.f92 [] 21 rfl rfl rfl rfl rfl rfl (by decide) (hex) λB=>?_
 simp only[go_sem,y,zb]
 refine zO (by decide) (λm T H=>∃n:Nat,n<=ks.length/\ShI h0 H d s b (kZ s b.evs want (c,a) (ks.take n)).1 (kZ s b.evs want (c,a) (ks.take n)).2/\BoxD d v H/\T 1= .fn (.func A) [] ci/\T 2= .fn (.func 93) [.ptr d 0] []/\T 8=x/\T 9=i64 ks.length/\T 10=i64 n/\m=ks.length - n) ks.length
  ⟨0,by omega,P,.refl,by simp only[go_sem],by simp only[go_sem],by simp only[go_sem],by(simp only[go_sem]<;>rfl),by(simp only[go_sem]<;>rfl),rfl⟩ ?_
 rintro m T H ⟨n,hn,i,U,t1,t2,t8,t9,t10,rfl⟩
 simp only[go_sem,t9,t10]
 refine ways (λe=>?_) (λe=>?_)
 ·have j:=dlt e
  have o:=KKa j
  have D:(n:Int)<ks.length:=by omega
  have K:=λM=>(Q M).at (i:=n) (by simpa using j)
  have g:=w6a (s:=s) (ev:=b.evs) (want:=want) (t:=(c,a)) j
  obtain⟨N,l2,l3⟩:=jja (s:=s) (ev:=b.evs) (want:=want) (ks.take n) (t:=(c,a)) hs
  have w:=vma f O (want:=want) (ks.take n) (t:=(c,a)) L
  have β:(ks.take n).length<=n:=by rw[zH];omega
  have h:ks[n]∈ks:=zx j
  obtain⟨t,W⟩:∃t,t=kZ s b.evs want (c,a) (ks.take n):=⟨_,rfl⟩
  rw[<-W] at i g N l2 l3 w
  simp only at l2 l3
  obtain⟨k,hk⟩:∃k,k=ks[n]:=⟨_,rfl⟩
  rw[<-hk] at o g h
  have p:ShI h0 (H++[.box 90 (jl k)]) d s b t.1 t.2:=i.app (zD rfl)
  have u:=U.app [.box 90 (jl k)]
  have hc:=F _ _ _ p u N (by omega) w k h
  have J:(ks.map jl)[n]? =some [i64 k.1,i64 k.2]:=o
  simp only[go_sem,t1,t8,t10,y,K,J,D,zb,Int.toNat_natCast,zf]
  refine zh hc ?_
  rintro _ h1 ⟨rfl,X⟩
  rw[X]
  unfold JC at g
  cases q:isH t.1 k==want
  ·rw[q] at g
   simp only[go_sem,q,qv,t10]
   exact⟨ks.length - (n+1),by omega,n+1,by omega,by rw[g];exact p,u,t1,t2,t8,t9,qn (by omega) rfl,rfl⟩
  ·rw[q] at g
   simp only[go_sem,q,qv,t2,zK]
   refine zh (WQa h0 _ d s f b t.1 t.2 k p N (E k h) O (by omega) (by omega)) ?_
   rintro _ h1 ⟨rfl,z,I⟩
   simp only[go_sem,t10]
   exact⟨ks.length - (n+1),by omega,n+1,by omega,by rw[g];exact z,u.trans I,t1,t2,t8,t9,qn (by omega) rfl,rfl⟩
 ·have Y:=xr e
  have C:n=ks.length:=by omega
  subst C
  rw[zV] at i
  simp only[go_sem]
  exact⟨.tup [],by simp only[go_sem],.inl ⟨rfl,i,U⟩⟩
def InW(l:List Spn)(a b:Int):Prop:=∀t,Cov l t->a<=t/\t<b
theorem Zaa:∀ {l:List Spn} {a b:Int},a<=b->PlainS l->InW l a b->0<=jQ l/\jQ l<=b - a
 | [],a,b,h,_,_=>by simp[jQ];omega
 | x::l,a,b,h,d,hi=>by
   have n:=d.pos x (.head _)
   have k:=hi x.from_ ⟨x,.head _,by omega,by omega⟩
   have m:=hi (x.to_ - 1) ⟨x,.head _,by omega,by omega⟩
   obtain⟨e,f⟩:=zR.1 d.gap
   have j:=Zaa (l:=l) (a:=x.to_) (b:=b) (by omega) ⟨λs c=>d.pos s (.tail _ c),f⟩ λt ⟨s,c,g,i⟩=>by
    have:=e s c
    have:=hi t ⟨s,.tail _ c,g,i⟩
    omega
   have:jQ (x::l)=(x.to_ - x.from_)+jQ l:=by simp[jQ]
   omega
theorem Q1a{l:List Spn}{a b:Int}(h:a<=b)(hi:InW l a b):0<=jQ (qx l)/\jQ (qx l)<=b - a:=
 Zaa h (vh l) λt c=>hi t ((js l t).1 c).2.2
theorem z3a:∀ {l:List Spn} {n t:Int},Cov (Jd l n) t->Cov l t
 | [],n,t,h=>h
 | s::r,n,t,⟨x,a,c,b⟩=>by
   rw[Jd] at a
   split at a
   ·cases a
   ·rcases zy.1 a with rfl|a
    ·refine⟨s,.head _,?_,?_⟩<;>(unfold Jc at c b;simp only at c b;omega)
    ·obtain⟨y,d,q⟩:=z3a ⟨x,a,c,b⟩
     exact⟨y,.tail _ d,q⟩
theorem jka{l:List Spn}{n t:Int}(h:Cov (qP l n) t):Cov l t:=((js l t).1 (z3a h)).2.2
theorem z4a{W:List Spn}{L:List Int}{n t:Int}(h:Cov (L.flatMap λd=>qP (xl W d) n) t):Cov W t:=by
 obtain⟨x,a,q⟩:=h
 obtain⟨d,_,b⟩:=List.mem_flatMap.1 a
 exact(QL (jka ⟨x,b,q⟩)).2.1
theorem KLa{s:Setup}{p:List Spn}{w t:Int}{j:Nat}(h:Cov (oj (Jz s p w) j) t):Cov (jr p w) t:=by
 match j with
 | 0=>exact z4a (jka h)
 | 1=>exact z4a (wH.1 h).2.1
 | j+2=>exact(wH.1 h).2.1
theorem Q2a{s:Setup}{l:List Spn}{t:Int}(h:Cov (j6 s l) t):Cov l t:=by
 unfold j6 at h
 split at h
 ·exact(Vg.1 h).2.1
 ·obtain⟨x,a,_⟩:=h;cases a
theorem xma{l:List Spn}{k:Int}{p:Pt}(h:p∈ZX l k){t:Int}(c:p.from_<=t)(a:t<p.to_):Cov l t:=by
 obtain⟨x,b,rfl⟩:=zt.1 h
 exact⟨x,b,c,a⟩
theorem Zba{s:Setup}{o:List Spn × List Spn × List Spn}{c:List Spn}{p:Pt}{t:Int}(b:p.from_<=t)(a:t<p.to_):∀ {j:Nat},p∈XQ s o c j->Cov c t∨∃i,Cov (oj o i) t
 | 0,h=> .inl (xma h b a)
 | j+1,h=>by
   rcases zI.1 h with h|h
   ·rcases zI.1 h with h|h
    ·exact Zba b a h
    ·exact .inr ⟨j,(wH.1 (xma h b a)).2.1⟩
   ·exact .inr ⟨j,Q2a (xma h b a)⟩
theorem WRa{s:Setup}{L:List Seg}{wk k:Int}:0<=ZY (vr s L wk) k/\ZY (vr s L wk) k<=604800:=by
 have h:=Q1a (l:=ym (vr s L wk) k) (a:=wk*604800) (b:=(wk+1)*604800) (by omega) λt ⟨x,e,f,d⟩=>by
  obtain⟨p,c,rfl⟩:=zt.1 e
  have c:=(zL.1 c).1
  rcases Zba (t:=t) f d c with q|⟨i,q⟩
  ·exact(QL q).2.2
  ·exact(QL (KLa q)).2.2
 have:(wk+1)*604800 - wk*604800=604800:=by omega
 rw[this] at h
 exact h
structure Money (s:Setup):Prop where
 rates:∀r∈s.rates,0<=r/\r<=100000
 diff:0<=s.diff/\s.diff<=100000
 least:0<=s.least/\s.least<=100000
 bonus:∀t∈s.tiers,0<=t.2/\t.2<=100000
theorem vna:∀ {l:List K1} {last:Int},kn last l=false->∀t∈l,0<=t.2/\t.2<=100000
 | [],_,_,_,h=>by cases h
 | x::l,last,a,t,h=>by
   rw[kn,zY] at a
   rcases zy.1 h with rfl|h
   ·have:=a.1
    unfold Zm at this
    rw[zY] at this
    exact Qz (by simpa using this.2)
   ·exact vna a.2 t h
theorem KMa{s:Setup}(h:z6 s=true):Money s:=by
 simp only[z6,wZ,zq,Bool.not_eq_true'] at h
 obtain⟨_,⟨⟨⟨_,b⟩,a⟩,_⟩,d⟩:=h
 exact⟨λr c=>wv b c,wv a (by simp),wv a (by simp),vna d⟩
theorem Zca(n:Int):0<=Jj n/\Jj n<=604800:=by unfold Jj;omega
theorem jla{n d:Int}(a:0<=n)(f:n<4611686018427387904)(e:0<d):(kD n d).1=n / d/\(kD n d).2=n % d:=by
 have c:n.tmod d=n % d:=Int.tmod_eq_emod_of_nonneg a
 have b:n.tdiv d=n / d:=Int.tdiv_eq_ediv_of_nonneg a
 have h:=Int.emod_nonneg n (show d≠0 by omega)
 have g:0<=n / d:=Int.ediv_nonneg a (by omega)
 have i:n / d<=n:=Int.ediv_le_self d a
 unfold kD
 rw[c,b,if_neg (by omega)]
 exact⟨qq (by unfold Fit;omega),rfl⟩
theorem Zda{n d:Int}(a:0<=n)(c:n<4611686018427387904)(b:0<d)(e:d<4611686018427387904):0<=qha n d/\qha n d<=n+1:=by
 obtain⟨f,g⟩:=jla a c b
 have h:0<=n / d:=Int.ediv_nonneg a (by omega)
 have i:n / d<=n:=Int.ediv_le_self d a
 unfold qha K7
 rw[if_neg (by omega),f]
 split
 ·show 0<=wr (n / d+1)/\wr (n / d+1)<=n+1
  rw[qq (by unfold Fit;omega)];omega
 ·show 0<=n / d/\n / d<=n+1
  omega
theorem z5b{n d:Int}(a:0<=n)(c:n<4611686018427387904)(b:0<d):0<=(upI n d).1/\(upI n d).1<=n+1/\n<=(upI n d).1*d:=by
 obtain⟨f,e⟩:=jla a c b
 have i:=Int.emod_nonneg n (show d≠0 by omega)
 have k:=Int.emod_lt_of_pos n b
 have h:0<=n / d:=Int.ediv_nonneg a (by omega)
 have j:n / d<=n:=Int.ediv_le_self d a
 have g:n=n / d*d+n % d:=by have:=Int.mul_ediv_add_emod n d;rw[Int.mul_comm] at this;omega
 unfold upI
 rw[if_neg (by omega),f,e]
 split
 ·show 0<=wr (n / d+1)/\wr (n / d+1)<=n+1/\n<=wr (n / d+1)*d
  rw[qq (by unfold Fit;omega),Int.add_mul]
  omega
 ·show 0<=n / d/\n / d<=n+1/\n<=n / d*d
  omega
theorem Zea:∀ {l:List Int} {a:Int},0<=a->(∀x∈l,0<=x/\x<17592186044416)->a+17592186044416*l.length<4611686018427387904->Ku a l=(a+l.sum,0)
 | [],a,_,_,_=>by simp[Ku]
 | x::l,a,h,b,d=>by
   obtain⟨i,g⟩:=b x (.head _)
   rw[List.length_cons] at d
   have f:wr (a+x)=a+x:=qq (by unfold Fit;omega)
   rw[Ku,f]
   have e:((decide (x>0)==decide (a+x>a)) || x==0)=true:=by
    have:decide (x>0)=decide (a+x>a):=decide_eq_decide.2 (by omega)
    rw[this,beq_self_eq_true,Bool.true_or]
   rw[if_pos e,Zea (by omega) (λy c=>b y (.tail _ c)) (by omega),List.sum_cons,Int.add_assoc]
theorem Q3a{s:Setup}(m:Money s){r:Int}(a:0<=r/\r<=100000){j:Nat}(d:j<=6):0<=ZN s r j/\ZN s r j<=1000000:=by
 have b:=m.diff
 have t3:∀k:Int,0<=k->k<=3->0<=Kt r k/\Kt r k<=400000:=λk k0 k3=>by
  unfold Kt
  rw[qq (n:=k+1) (by unfold Fit;omega)]
  have e:0<=r*(k+1):=Int.mul_nonneg a.1 (by omega)
  have c:r*(k+1)<=100000*4:=Int.mul_le_mul a.2 (by omega) (by omega) (by omega)
  rw[qq (by unfold Fit;omega)]
  omega
 unfold ZN
 split
 ·have:=t3 ((j:Int) - 3) (by omega) (by omega)
  rw[qq (n:=2*s.diff) (by unfold Fit;omega),qq (by unfold Fit;omega)]
  omega
 ·have:=t3 j (by omega) (by omega)
  omega
theorem KNa{s:Setup}(m:Money s)(w:Nat):0<=Xe s w/\Xe s w<=100000:=by
 unfold Xe
 rw[zZ]
 cases h:s.rates[w]? with
 | none=>exact⟨by decide,by decide⟩
 | some r=>exact m.rates r (qr h)
theorem KOa{s:Setup}(m:Money s)(w:Nat)(t:Nat->Int){j:Nat}(c:j<=6):0<=vK s w t j/\vK s w t j<17592186044416:=by
 unfold vK
 split
 ·exact⟨by decide,by decide⟩
 ·have b:=Zca (t j)
  have a:=Q3a m (KNa m w) c
  have e:0<=Jj (t j)*ZN s (Xe s w) j:=Int.mul_nonneg b.1 a.1
  have f:Jj (t j)*ZN s (Xe s w) j<=604800*1000000:=Int.mul_le_mul b.2 a.2 a.1 (by omega)
  rw[qq (by unfold Fit;omega)]
  have:=Zda (n:=Jj (t j)*ZN s (Xe s w) j) (d:=7200) e (by omega) (by omega) (by omega)
  omega
theorem Q4a{s:Setup}(m:Money s)(g tier:Int):(0<=vL s g tier/\vL s g tier<17592186044416)/\(tier<0->vL s g tier=0):=by
 unfold vL
 split
 ·rename_i h
  have b:=Zca g
  have a:0<=WG s tier.toNat/\WG s tier.toNat<=100000:=by
   unfold WG
   rw[zZ]
   cases q:s.tiers[tier.toNat]? with
   | none=>exact⟨by decide,by decide⟩
   | some r=>exact m.bonus r (qr q)
  have c:0<=Jj g*WG s tier.toNat:=Int.mul_nonneg b.1 a.1
  have e:Jj g*WG s tier.toNat<=604800*100000:=Int.mul_le_mul b.2 a.2 a.1 (by omega)
  rw[qq (by unfold Fit;omega)]
  have:=Zda (n:=Jj g*WG s tier.toNat) (d:=3600) c (by omega) (by omega) (by omega)
  exact⟨by omega,λq=>by omega⟩
 ·exact⟨⟨by decide,by decide⟩,λ_=>rfl⟩
def WSa(b:Int)(f:Nat->Int):Nat->Int
 | 0=>b
 | n+1=>wr (WSa b f n+f n)
def w7a(t:Nat->Int):Nat->Int
 | 0=>0
 | n+1=>if n=0 then w7a t n else wr (w7a t n+t n)
theorem KPa{t:Nat->Int}(b:∀j,0<=t j/\t j<=604800):∀n,n<=7->w7a t n=JF t n/\0<=JF t n/\JF t n<=604800*n
 | 0,_=>⟨rfl,by show(0:Int)<=0;omega,by show(0:Int)<=604800*((0:Nat):Int);omega⟩
 | n+1,d=>by
   obtain⟨e,f,g⟩:=KPa b n (by omega)
   have h:=b n
   have c:Jj (t n)=t n:=by unfold Jj;omega
   rw[w7a,JF]
   by_cases a:n=0
   ·subst a
    rw[if_pos rfl,if_pos rfl]
    exact⟨rfl,by omega,by omega⟩
   ·rw[if_neg a,if_neg a,c,e,qq (by unfold Fit;omega)]
    exact⟨rfl,by omega,by omega⟩
structure PayOk (s:Setup) (t:Nat->Int) (p:PayR) (tier:Int):Prop where
 zero:p.pays 0=0
 sum:WSa (wr (p.extra+p.supp)) p.pays 7=p.total
 none:tier<0->p.extra=0
 least:wr (w7a t 7*s.least)<=wr (p.total*3600)
def kw(e:Int):Prop:=e=0∨e=10∨e=20∨e=100
theorem w8a(n d:Int):kw (make n d).2:=by
 unfold make
 split
 ·exact .inr (.inr (.inl rfl))
 ·split
  ·exact .inl rfl
  ·split
   ·exact .inr (.inl rfl)
   ·exact .inl rfl
theorem WO(v:qw->qw->Int × Int)(a b:qw):kw (Zl v a b).2:=by
 unfold Zl
 split
 ·exact w8a _ _
 ·exact .inr (.inr (.inl rfl))
theorem KQa:∀ {l:List qw} {o:qw},kw (WU o l).2
 | [],o=> .inl rfl
 | r::l,o=>by
   rw[WU]
   split
   ·exact WO _ _ _
   ·exact KQa
theorem w9a(l:List qw):kw (y8 l).2:=by
 unfold y8
 split
 ·exact KQa
 ·exact .inr (.inr (.inl rfl))
theorem KC{f:qw->qw->qw × Int}(d:∀a b,kw (f a b).2){a b:qw}{e:Int}(c:kw e):kw (wq f a b e).2:=by
 unfold wq
 split
 ·exact d _ _
 ·exact c
theorem WTa{s:Setup}{e:Ev}{a:Int}:kw (ZK s e a).2:=
 KC (WO jNa) (KC (λ_ _=>w9a _) (KC (WO jNa) (KC (λ_ _=>w9a _) (KC (WO jNa) (KC (WO jNa) (KC (WO jNa) (.inl rfl)))))))
theorem z6b{s:Setup}{e:Ev}:kw (xQ s e).2:=by
 unfold xQ
 split
 ·split
  ·exact .inr (.inr (.inr rfl))
  ·split
   ·exact .inl rfl
   ·exact WTa
 ·exact .inr (.inr (.inr rfl))
theorem KD{z v:qw × Int}(b:kw z.2)(a:kw v.2):kw (jf z v).2:=by
 unfold jf
 split
 ·exact a
 ·exact b
theorem KRa{s:Setup}{ev:List Ev}:∀(l:List Seg) (z:qw × Int),kw z.2->kw (l.foldl (λz g=>jf z ((0,1),(xQ s (kY ev g)).2)) z).2
 | [],_,h=>h
 | g::l,z,h=>KRa l _ (KD h z6b)
theorem KSa{c:Prop}[Decidable c]{a b:qw × Int}(d:kw a.2)(e:kw b.2):kw (if c then a else b).2:=by
 split<;>assumption
theorem z7b{s:Setup}{ev:List Ev}{l:List Seg}{k:Int}:kw (WA s ev l k).err:=by
 unfold WA
 extract_lets sel eligible goals all0 all1 lost all2 all3 all4 done
 have h0:kw all0.2:=KRa _ _ (.inl rfl)
 have d:kw all1.2:=KD h0 (w9a _)
 have g:kw lost.2:=KD d (w8a _ _)
 have a:kw all2.2:=KD d g
 have c:kw all3.2:=KSa (KD a (WO _ _ _)) a
 have b:kw all4.2:=KSa c c
 have f:kw done.2:=KSa (KD (KD b (w8a _ _)) (WO _ _ _)) b
 by_cases e:done.2=0
 ·rw[if_pos e];exact .inl rfl
 ·rw[if_neg e];exact f
theorem z8b{s:Setup}{l:List Ev}{w k:Int}:kw (vz s l w k).err:=by
 unfold vz
 split
 ·exact z7b
 ·exact .inl rfl
structure GrossOk (s:Setup) (R:RowV):Prop where
 bad:R.err=70∨R.err=80∨R.err=212->WSa (wr (R.extra+R.supp)) R.pays 7=0/\w7a R.tot 7=0/\R.total=0/\R.tier= -1/\R.elig=0
 sum:¬ (R.err=70∨R.err=80∨R.err=212)->WSa (wr (R.extra+R.supp)) R.pays 7=R.total/\R.pays 0=0/\(0<=R.tier∨R.extra=0)/\((0<R.elig/\R.err=0)∨R.tier= -1)/\wr (w7a R.tot 7*s.least)<=wr (R.total*3600)
theorem WUa{F:Int}{z S:qw × Int}{a:Int}{m:Nat}(l:0<=F/\F<=86400)(j:m<2097152)(e:Fit a):
  (0<=(xv F z S a m).earned.1/\0<=(xv F z S a m).earned.2)/\0<=(xv F z S a m).perf.1/\0<=(xv F z S a m).perf.2:=by
 by_cases h:(xv F z S a m).err=0
 ·obtain⟨D,d⟩:=XJa l j e h
  obtain⟨c,c0⟩:=kwa d.lo
  rw[d.earned]
  refine⟨⟨c0,by have:=c.pos;omega⟩,?_⟩
  by_cases b:0<a
  ·obtain⟨n1,n2⟩:=d.some b
   have k:Lo (a,1):=⟨by simp,by simp,by simp only;omega,by simp⟩
   obtain⟨a1,a2,a3⟩:=XGa c k b
   rw[a1] at n2
   obtain⟨b1,b2⟩:=W7 a2 a3 (by rw[n2])
   rw[n2] at b1 b2
   obtain⟨P,i⟩:∃P,P=(xv F z S a m).perf:=⟨_,rfl⟩
   simp only[<-i] at b1 b2⊢
   have n:=b1.pos
   simp only at a3
   refine⟨?_,by omega⟩
   by_cases q:0<=P.1
   ·exact q
   ·exfalso
    have g:P.1*((wI D).2*a)<0:=Int.mul_neg_of_neg_of_pos (by omega) a3.1
    have f:0<=(wI D).1*1*P.2:=Int.mul_nonneg (by omega) (by omega)
    omega
  ·rw[d.none b];exact⟨by decide,by decide⟩
 ·obtain⟨g,f⟩:=VTa h
  rw[g,f]
  exact⟨⟨by decide,by decide⟩,by decide,by decide⟩
theorem WVa{s:Setup}{l:List Ev}{w k:Int}(a:z6 s=true)(b:l.length<2097151):
  ((0<=(vz s l w k).earned.1/\0<=(vz s l w k).earned.2)/\0<=(vz s l w k).perf.1/\0<=(vz s l w k).perf.2)/\0<=(vz s l w k).eligible:=by
 constructor
 ·rw[vz,if_pos a,zra]
  have:=qYa (s:=s) (w:=w) (k:=k) (l:=l)
  exact WUa (WC a) (by omega) kxa
 ·rw[QCa a]
  exact(X7a (yU (s:=s) (l:=l) (w:=w) a).1 k).1.1
theorem z9b{s:Setup}(o:z6 s=true)(w:Nat){t:Nat->Int}(l:∀j,0<=t j/\t j<=604800)(g tier:Int):
  (∀j,j<=6->0<=(j1a s w t g tier).pays j)/\0<=(j1a s w t g tier).extra/\0<=(j1a s w t g tier).supp/\0<=(j1a s w t g tier).total:=by
 have m:=KMa o
 obtain⟨k,z⟩:=Q4a m g tier
 have b:∀j,j<=6->0<=vK s w t j/\vK s w t j<17592186044416:=λj e=>KOa m w t e
 obtain⟨v,q,B⟩:=KPa l 7 (zp _)
 have c:=m.least
 have f:0<=JF t 7*s.least:=Int.mul_nonneg q c.1
 have u:JF t 7*s.least<=604800*7*100000:=Int.mul_le_mul (by omega) c.2 c.1 (by omega)
 have h:wr (JF t 7*s.least)=JF t 7*s.least:=qq (by unfold Fit;omega)
 obtain⟨I,F,A⟩:=z5b (n:=JF t 7*s.least) (d:=3600) f (by omega) (by omega)
 have D:=b 0 (by omega)
 have p1:=b 1 (by omega)
 have p2:=b 2 (by omega)
 have G:=b 3 (by omega)
 have C:=b 4 (by omega)
 have y:=b 5 (by omega)
 have J:=b 6 (by omega)
 have a:Ku 0 [vK s w t 0,vK s w t 1,vK s w t 2,vK s w t 3,vK s w t 4,vK s w t 5,vK s w t 6,vL s g tier]=(0+[vK s w t 0,vK s w t 1,vK s w t 2,vK s w t 3,vK s w t 4,vK s w t 5,vK s w t 6,vL s g tier].sum,0):=
  Zea (by omega) (λx i=>by
   simp only[zy,List.not_mem_nil,or_false] at i
   rcases i with rfl|rfl|rfl|rfl|rfl|rfl|rfl|rfl<;>assumption) (by simp only[List.length_cons,List.length_nil];omega)
 simp only[List.sum_cons,List.sum_nil] at a
 unfold j1a
 simp only[a,h]
 refine⟨λj e=>(b j e).1,k.1,by omega,?_⟩
 generalize vK s w t=P at*
 generalize vL s g tier=E at*
 generalize (upI (JF t 7*s.least) 3600).1=U at*
 clear a h
 have p:wr (U - (0+(P 0+(P 1+(P 2+(P 3+(P 4+(P 5+(P 6+(E+0))))))))))=U - (P 0+P 1+P 2+P 3+P 4+P 5+P 6+E):=by rw[qq (by unfold Fit;omega)];omega
 rw[p]
 generalize H:max 0 (U - (P 0+P 1+P 2+P 3+P 4+P 5+P 6+E))=S
 have r:0<=S/\S<=U:=by omega
 rw[qq (by unfold Fit;omega)]
 omega
def opN(t:TellS):Nat:=if t.open_.isSome then 1 else 0
def KE(t:TellS):Nat:=t.flags.length+opN t
theorem voa{s:Setup}{t:TellS}{m:Int}:KE (lateP s t m)<=KE t:=by
 unfold lateP
 split
 ·exact zp _
 ·rename_i e os a
  split
  ·show(t.flags++[(⟨e.id,1⟩:Flg)]).length+0<=t.flags.length+opN t
   have:opN t=1:=by unfold opN;rw[a];rfl
   rw[zg,this]
   exact zp _
  ·exact zp _
theorem KTa{s:Setup}{t:TellS}{e:Ev}:KE (ko s t e)<=KE t+1:=by
 have a:=voa (s:=s) (t:=t) (m:=e.at_)
 unfold ko
 generalize lateP s t e.at_=u at*
 split
 ·split
  ·rename_i b
   show u.flags.length+1<=_
   unfold KE at a⊢
   omega
  ·rename_i f os b
   have:opN u=1:=by unfold opN;rw[b];rfl
   show(u.flags++[(⟨f.id,2⟩:Flg)]).length+1<=_
   rw[zg]
   unfold KE at a⊢
   simp only[List.length_cons,List.length_nil]
   omega
 ·split
  ·rename_i b
   show(u.flags++[(⟨e.id,3⟩:Flg)]).length+opN u<=_
   rw[zg]
   unfold KE at a⊢
   simp only[List.length_cons,List.length_nil]
   omega
  ·rename_i f os b
   have:opN u=1:=by unfold opN;rw[b];rfl
   split
   ·show u.flags.length+0<=_
    unfold KE at a⊢
    omega
   ·show u.flags.length+1<=_
    unfold KE at a⊢
    omega
theorem KUa{s:Setup}{w:Int}:∀(l:List Ev) {t:TellS},KE (l.foldl (vW s w) t)<=KE t+l.length
 | [],_=>zp _
 | e::l,t=>by
   have b:=KUa (s:=s) (w:=w) l (t:=vW s w t e)
   have a:KE (vW s w t e)<=KE t+1:=by
    unfold vW
    split
    ·exact KTa
    ·omega
   rw[List.foldl_cons,List.length_cons]
   omega
theorem Q5a{s:Setup}{l:List Ev}{w:Int}:(qA s l w).2.length<=l.length:=by
 have b:=KUa (s:=s) (w:=w) (qu l) (t:=⟨none,[],[]⟩)
 have a:=voa (s:=s) (t:=goP s w (qu l)) (m:=32054400)
 have c:=(xK l).length_eq
 have h0:KE ⟨none,[],[]⟩=0:=rfl
 unfold qA
 split
 ·show(lateP s (goP s w (qu l)) 32054400).flags.length<=_
  unfold goP at a⊢
  unfold KE at b a h0
  omega
 ·simp
def FlK(t:TellS):Prop:=∀x∈t.flags,0<=x.kind
theorem FlK.flag{t:TellS}(h:FlK t)(e:Ev){k:Int}(b:0<=k):FlK (xJ t e k):=λx a=>by
 rcases zI.1 (show x∈t.flags++[⟨e.id,k⟩] from a) with a|a
 ·exact h x a
 ·rw[zW] at a;subst a;exact b
theorem FlK.late{s:Setup}{t:TellS}(h:FlK t)(m:Int):FlK (lateP s t m):=by
 unfold lateP
 split
 ·exact h
 ·split
  ·exact h.flag _ (by decide)
  ·exact h
theorem FlK.next{s:Setup}{t:TellS}(h:FlK t)(e:Ev):FlK (ko s t e):=by
 have a:=h.late (s:=s) e.at_
 unfold ko
 split
 ·split
  ·exact a
  ·exact a.flag _ (by decide)
 ·split
  ·exact a.flag _ (by decide)
  ·split
   ·exact a
   ·exact a
theorem FlK.go{s:Setup}{w:Int}:∀(l:List Ev) {t:TellS},FlK t->FlK (l.foldl (vW s w) t)
 | [],_,h=>h
 | e ::l,t,h=>FlK.go l (by
     unfold vW
     split
     ·exact h.next e
     ·exact h)
theorem Q6a{s:Setup}{l:List Ev}{w:Int}:∀x∈(qA s l w).2,0<=x.kind:=by
 have h0:FlK ⟨none,[],[]⟩:=λ_ h=>by cases h
 unfold qA
 split
 ·exact FlK.late (FlK.go (qu l) h0) _
 ·intro x a;cases a
theorem Zfa:∀ {ns b:List Int},(∀n∈ns,0<=n)->kG (b,true) ns=(b++ns.flatMap yi,true)
 | [],b,_=>by simp[kG]
 | n::ns,b,h=>by
   have e:wJa [n]=false:=by
    have:=h n (.head _)
    simp[wJa]
    omega
   have c:Qd (b,true) n=(b++yi n,true):=by
    unfold Qd yX
    rw[e]
    simp
   have a:=Zfa (ns:=ns) (b:=b++yi n) λk d=>h k (.tail _ d)
   unfold kG at a⊢
   rw[List.foldl_cons,c,a,List.flatMap_cons,zr]
theorem yaa{s:Setup}{w wk:Int}(h:xX s w wk=0):z6 s=true/\(0<=w/\w<(s.rates.length:Int))/\0<=wk/\wk<=52:=by
 unfold xX at h
 split at h
 ·cases h
 ·split at h
  ·cases h
  ·split at h
   ·cases h
   ·rename_i b a c
    refine⟨?_,?_,?_⟩
    ·simpa using b
    ·simp at a;omega
    ·simp at c;omega
theorem WWa{s:Setup}(f:SFit s){l:List Ev}{w wk:Int}(H:xX s w wk=0)(T:l.length<=200):Qn (qi s l w wk).1 (qi s l w wk).2=true:=by
 obtain⟨v,S,k0⟩:=yaa H
 have y:(evR s w l).length<=l.length:=j2a s w l
 have N:=Q5a (s:=s) (l:=evR s w l) (w:=w)
 have M:=qh (λg=>QJ (evR s w l) g==wk) (qA s (evR s w l) w).2
 unfold qi
 rw[if_neg (by omega)]
 obtain⟨F,z⟩:∃F,F=jE (evR s w l) (qA s (evR s w l) w).2 wk:=⟨_,rfl⟩
 have C:F.length<=200:=by rw[z];unfold jE;omega
 have o:∀x∈F,0<=x.id/\0<=x.kind:=λx c=>by
  rw[z] at c
  have c:=(zL.1 c).1
  obtain⟨e,D,m⟩:=XB x c
  have h:=(zL.1 D).2
  have u:vI s e=true:=by
   unfold vM at h
   cases q:vI s e
   ·rw[q] at h;simp at h
   ·rfl
  have:=(wM (yA u)).2.1
  exact⟨by omega,Q6a x c⟩
 rw[<-z]
 have b:∀j:Nat,0<=ZY (vr s (qA s (evR s w l) (w.toNat:Int)).1 wk) j/\ZY (vr s (qA s (evR s w l) (w.toNat:Int)).1 wk) j<=604800:=λj=>WRa
 have K:=WVa (s:=s) (l:=evR s w l) (w:=(w.toNat:Int)) (k:=wk) v (by omega)
 have i:=z8b (s:=s) (l:=evR s w l) (w:=(w.toNat:Int)) (k:=wk)
 show Qn (Qxa s (evR s w l) w.toNat wk) F=true
 unfold Qxa
 extract_lets P tot tier p
 have I:=z9b v w.toNat b P.eligible tier
 have d:Fit (tier+1)/\ -1<=tier:=by
  show Fit (ite _ (vk s _) (-1)+1)/\ -1<=ite _ (vk s _) (-1)
  split
  ·refine⟨(vba f _).2,?_⟩
   cases y:rok P.perf
   ·have:vk s P.perf= -1:=by simp[vk,y]
    omega
   ·rcases yFa v y with⟨e,_⟩|⟨j,t,m,A,_⟩
    ·omega
    ·omega
  ·exact⟨by unfold Fit;decide,by decide⟩
 have r:wr (tier+1)=tier+1:=qq d.1
 have i:kw P.err:=i
 obtain⟨⟨⟨m,A⟩,E,G⟩,B⟩:=K
 obtain⟨p1,p2,Q,J⟩:=I
 have O:decide (P.err>100000)=false:=by
  unfold kw at i
  rw[decide_eq_false_iff_not];omega
 have L:decide ((F.length:Int)>200)=false:=by rw[decide_eq_false_iff_not];omega
 unfold Qn
 simp only[O,L,Bool.or_self,Bool.not_false,Bool.true_and]
 rw[Zfa]
 intro n a
 unfold wD Zd XR Xi Xj at a
 simp only[zI,zy,List.not_mem_nil,or_false,List.mem_flatMap] at a
 have t0:=b 0
 have t1:=b 1
 have t2:=b 2
 have t3:=b 3
 have t4:=b 4
 have t5:=b 5
 have t6:=b 6
 have R:0<=P.err:=by unfold kw at i;omega
 rcases a with((((a|a)|a)|a)|a)|⟨x,c,a⟩
 ·rcases a with rfl|rfl|rfl
  ·exact zf _
  ·exact k0.1
  ·exact R
 ·rcases a with rfl|rfl|rfl|rfl|rfl|rfl|rfl
  ·exact t0.1
  ·exact t1.1
  ·exact t2.1
  ·exact t3.1
  ·exact t4.1
  ·exact t5.1
  ·exact t6.1
 ·rcases a with rfl|rfl|rfl|rfl|rfl|rfl|rfl
  ·exact p1 0 (by omega)
  ·exact p1 1 (by omega)
  ·exact p1 2 (by omega)
  ·exact p1 3 (by omega)
  ·exact p1 4 (by omega)
  ·exact p1 5 (by omega)
  ·exact p1 6 (by omega)
 ·rcases a with rfl|rfl|rfl|rfl|rfl|rfl|rfl|rfl|rfl
  ·exact m
  ·exact A
  ·exact E
  ·exact G
  ·exact B
  ·rw[r];omega
  ·exact p2
  ·exact Q
  ·exact J
 ·subst a;omega
 ·obtain⟨a1,a2⟩:=o x c
  rcases a with rfl|rfl
  ·exact a1
  ·exact a2
theorem KVa{s:Setup}{b:Bk}{x:Fx}:(XS s b x).2.err=QO s b x:=rfl
theorem xna{s:Setup}{b:Bk}{q:Cm}(h:q.kind=1∨q.kind=2):doP s b q=XS s b (wy q):=by
 unfold doP wy
 rcases h with h|h
 ·rw[if_pos h,if_pos h]
 ·rw[if_neg (by omega),if_pos h,if_neg (by omega)]
theorem WXa{s:Setup}{b:Bk}{q:Cm}(h:¬ (q.kind=1∨q.kind=2)):(doP s b q).1.evs=b.evs:=by
 unfold doP
 rw[if_neg (by omega),if_neg (by omega)]
 split
 ·rfl
 ·split
  ·rfl
  ·split
   ·split<;>rfl
   ·split
    ·split<;>rfl
    ·split
     ·rfl
     ·split<;>rfl
theorem KWa{s:Setup}{b:Bk}{x:Fx}(h:QO s b x≠0):(XS s b x).1=b:=by
 unfold XS
 have:(QO s b x==0)=false:=by simpa using h
 rw[this]
 rfl
theorem Vv{s:Setup}{x:Ch}{q:Cm}(i:ChI s x)(h:q.kind=1∨q.kind=2)(h0:(doP s x.bk q).2.err=0):
  ∃ b new,SomeOk s (doP s x.bk q).1.evs true x.rows (jp s x.bk.evs (wy q)) b new/\ChI s ⟨(doP s x.bk q).1,b⟩/\
    kZ s (doP s x.bk q).1.evs true (x.rows,[]) (jp s x.bk.evs (wy q))=(b,new)/\doC s x q=(⟨(doP s x.bk q).1,b⟩,(doP s x.bk q).2,new):=by
 obtain⟨b,new,e,o⟩:=y7a (s:=s) (ev:=(doP s x.bk q).1.evs) (want:=true) i.srt (jp s x.bk.evs (wy q)) (z1a _) (λk _ d=>by
  have d:isH x.rows k=true:=by simpa using d
  obtain⟨r,c,rfl⟩:=wo.1 d
  exact(i.rng r c).1.1) []
 rw[List.nil_append] at e
 refine⟨b,new,o,⟨j8a q i.bk,o.srt,λz f=>?_,λz f=>?_⟩,e,?_⟩
 ·rcases o.new z f with⟨_,a⟩|⟨a,g⟩
  ·exact a
  ·rw[xna h,Kka i.bk]
   ·exact i.val z a
   ·intro _ j
    exact g (by rw[o.keys,zL];exact⟨j,by rw[wo.2 ⟨z,a,rfl⟩];rfl⟩)
 ·have:isH x.rows (qY z)=true:=by
   have a:isH b (qY z)=true:=wo.2 ⟨z,f,rfl⟩
   rw[o.held,Bool.or_eq_true] at a
   rcases a with a|a
   ·exact a
   ·have a:qY z∈new:=by simpa using a
    rw[o.keys] at a
    simpa using (zL.1 a).2
  obtain⟨r,c,e⟩:=wo.1 this
  rw[<-e]
  exact i.rng r c
 ·unfold doC
  rw[if_neg (by omega),if_pos ⟨h0,h⟩,e]
theorem Q7a{s:Setup}{x:Ch}(i:ChI s x){b:Bk}(c:BkI s b)(h:b.evs=x.bk.evs):ChI s ⟨b,x.rows⟩:=
 ⟨c,i.srt,λr a=>by show r=qi s b.evs _ _;rw[h];exact i.val r a,i.rng⟩
theorem XL{s:Setup}{x:Ch}{q:Cm}(h:¬ (q.kind=3∨q.kind=7))(a:¬ ((doP s x.bk q).2.err=0/\(q.kind=1∨q.kind=2))):doC s x q=(⟨(doP s x.bk q).1,x.rows⟩,(doP s x.bk q).2,[])/\(doP s x.bk q).1.evs=x.bk.evs:=by
 constructor
 ·unfold doC
  rw[if_neg h,if_neg a]
 ·by_cases b:q.kind=1∨q.kind=2
  ·rw[xna b] at a⊢
   rw[KWa λe=>a ⟨e,b⟩]
  ·exact WXa b
theorem WYa{s:Setup}{x:Ch}(q:Cm)(i:ChI s x):ChI s (doC s x q).1:=by
 by_cases h:q.kind=3∨q.kind=7
 ·have e:doC s x q=vd s x q:=by unfold doC;rw[if_pos h]
  rw[e]
  rcases xka i h with⟨_,e⟩|⟨_,_,e⟩|⟨_,_,_,c,new,_,b,_,_,e⟩
  ·rw[e];exact i
  ·rw[e];exact i
  ·rw[e];exact b
 ·by_cases a:(doP s x.bk q).2.err=0/\(q.kind=1∨q.kind=2)
  ·obtain⟨c,new,_,b,_,e⟩:=Vv i a.2 a.1
   rw[e];exact b
  ·obtain⟨e,d⟩:=XL h a
   rw[e]
   exact Q7a i (j8a q i.bk) d
theorem Zga{s:Setup}(a:z6 s=true)(f:SFit s){b:Bk}(i:BkI s b){wk:Int}(e:0<=wk/\wk<=52):(jY (xf s b wk)).2=0:=by
 have:okW (xf s b wk)=true:=by
  unfold okW
  rw[qa]
  intro r c
  obtain⟨w,d,rfl⟩:=zt.1 c
  rw[qW] at d
  refine WWa f ?_ i.few
  unfold xX
  rw[a,if_neg (by simp),if_neg (by omega),if_neg (by omega)]
 unfold jY
 rw[this]
 rfl
theorem qab{s:Setup}(u:z6 s=true)(f:SFit s){x:Ch}(i:ChI s x)(q:Cm):(doC s x q).1.bk=(doP s x.bk q).1/\(doC s x q).2.1=(doP s x.bk q).2:=by
 by_cases h:q.kind=3∨q.kind=7
 ·have e:doC s x q=vd s x q:=by unfold doC;rw[if_pos h]
  rw[e]
  have j:q.kind=3->doP s x.bk q=(x.bk,if yY s 0 q==0 then⟨0,[qi s x.bk.evs q.worker q.week],[],[]⟩ else wt (yY s 0 q)):=λb=>by
   unfold doP
   rw[if_neg (by omega),if_neg (by omega),if_pos b]
  have p:q.kind=7->doP s x.bk q=(x.bk,if jt x.bk.shut q.week then⟨0,xf s x.bk q.week,[],(jY (xf s x.bk q.week)).1⟩ else wt 212):=λb=>by
   unfold doP
   rw[if_neg (by omega),if_neg (by omega),if_neg (by omega),if_neg (by omega),if_neg (by omega),if_neg (by omega),if_pos b]
  have n:jt x.bk.shut q.week=true->kr q=true:=λw=>QQ.2 (i.bk.rng _ (QN.1 w))
  rcases xka i h with⟨⟨b,c⟩,e⟩|⟨c,a,e⟩|⟨c,a,m,r,new,_,_,_,_,e⟩
  ·rw[e,j b]
   have:yY s 0 q=80:=by simp[yY,jJ,c]
   rw[this]
   exact⟨rfl,rfl⟩
  ·rw[e]
   by_cases b:q.kind=3
   ·have c:jc s q=true:=by
     cases g:jc s q
     ·exact absurd ⟨b,g⟩ c
     ·rfl
    have a:kr q=false:=by
     rcases a with a|a
     ·exact a
     ·omega
    have:yY s 0 q=212:=by simp[yY,jJ,c,a]
    rw[j b,this]
    exact⟨rfl,rfl⟩
   ·have m:q.kind=7:=by omega
    have:jt x.bk.shut q.week=false:=by
     cases g:jt x.bk.shut q.week
     ·rfl
     ·rcases a with a|a
      ·rw[n g] at a;cases a
      ·rw[a.2] at g;cases g
    rw[p m,this]
    exact⟨rfl,rfl⟩
  ·rw[e]
   by_cases b:q.kind=3
   ·have c:jc s q=true:=by
     cases g:jc s q
     ·exact absurd ⟨b,g⟩ c
     ·rfl
    have:yY s 0 q=0:=by simp[yY,jJ,c,a]
    have o:¬ q.kind=7:=by omega
    rw[j b,this]
    simp only[if_neg o]
    unfold va
    rw[if_neg o]
    exact⟨by trivial,by trivial⟩
   ·have d:q.kind=7:=by omega
    have t:=Zga u f i.bk (QQ.1 a)
    have v:(va s q).map (λk=>qi s x.bk.evs k.1 k.2)=xf s x.bk q.week:=by
     unfold va xf
     rw[if_pos d,xH]
     rfl
    rw[p d,m d,v]
    simp only[if_pos d,t]
    exact⟨by trivial,by trivial⟩
 ·by_cases l:(doP s x.bk q).2.err=0/\(q.kind=1∨q.kind=2)
  ·obtain⟨r,new,_,y,_,e⟩:=Vv i l.2 l.1
   rw[e];exact⟨rfl,rfl⟩
  ·obtain⟨e,z⟩:=XL h l
   rw[e];exact⟨rfl,rfl⟩
theorem z5a{s:Setup}:∀(l:List Cm) {x:Ch},ChI s x->ChI s (ku s x l).1
 | [],_,h=>h
 | q::l,_,h=>z5a l (WYa q h)
theorem vpa{s:Setup}:∀(a l:List Cm) {x:Ch},ku s x (a++l)=((ku s (ku s x a).1 l).1,(ku s x a).2.1++(ku s (ku s x a).1 l).2.1,(ku s x a).2.2++(ku s (ku s x a).1 l).2.2)
 | [],l,x=>rfl
 | q::a,l,x=>by
   rw[List.cons_append,ku,vpa a l]
   rfl
theorem Q8a{s:Setup}{x:Ch}{l:List Cm}{n:Nat}(a:n<l.length):ku s x (l.take (n+1))=((doC s (ku s x (l.take n)).1 l[n]).1,(ku s x (l.take n)).2.1++[(doC s (ku s x (l.take n)).1 l[n]).2.1],(ku s x (l.take n)).2.2++[(doC s (ku s x (l.take n)).1 l[n]).2.2]):=by
 rw[show l.take (n+1)=l.take n++[l[n]] from(zE a).symm,vpa]
 rfl
theorem vqa{s:Setup}:∀(l:List Cm) {x:Ch},(ku s x l).2.1.length=l.length/\(ku s x l).2.2.length=l.length
 | [],_=>⟨rfl,rfl⟩
 | q::l,x=>by
   have:=vqa (s:=s) l (x:=(doC s x q).1)
   exact⟨by show(_::_).length=_;rw[List.length_cons,this.1,List.length_cons],by show(_::_).length=_;rw[List.length_cons,this.2,List.length_cons]⟩
theorem jma{s:Setup}(a:z6 s=true)(e:Ev):(yj s e).length<=2:=by
 obtain⟨⟨g,d⟩,f,b⟩:=jU a
 unfold yj Jp
 rw[zb,zb,jz]
 have h:(yh s e.at_).2<=(yh s e.at_).1+1:=by
  unfold yh
  extract_lets n k
  have c:0<=n/\n<=32054399:=by
   show 0<=qI _ _/\qI _ _<=_
   unfold qI;omega
  have i:k=s.unit+s.cap:=by
   show wr (qI s.unit 604800+qI s.cap 604800)=_
   unfold qI
   rw[qq (by unfold Fit;omega)]
   omega
  show xS (wr (n+k))<=xS (wr (n - k))+1
  rw[qq (n:=n+k) (by unfold Fit;omega),qq (n:=n - k) (by unfold Fit;omega)]
  unfold xS ofI qI
  have a0:0<=min (max (n+k) 0) 32054399/\min (max (n+k) 0) 32054399<=32054399:=by omega
  have b0:0<=min (max (n - k) 0) 32054399/\min (max (n - k) 0) 32054399<=32054399:=by omega
  rw[Int.tdiv_eq_ediv_of_nonneg a0.1,Int.tdiv_eq_ediv_of_nonneg b0.1,qq (by unfold Fit;omega),qq (by unfold Fit;omega)]
  omega
 omega
theorem Vw{s:Setup}(a:z6 s=true)(l:List Ev)(x:Fx):(jp s l x).length<=4:=by
 have j:=QT (b:=ZR s l x) (z1a (ZR s l x)) λk h=>ZS.1 h
 have d:=jma a (Qa l x.ev.id).1
 have g:=jma a x.ev
 unfold jp
 have i:(ZR s l x).length<=4:=by
  have z:∀(c:Prop) [Decidable c] (e:Ev),(yj s e).length<=2->(if c then yj s e else []).length<=2:=λc _ e f=>by
   split
   ·exact f
   ·exact Nat.zero_le _
  unfold ZR
  rw[zg]
  have n:=z ((Qa l x.ev.id).2 && xb x) _ d
  have m:=z (xU x=true) _ g
  omega
 omega
structure KeysOk (s:Setup) (x:Ch) (q:Cm) (y:Ch) (w:An) (new:List Ky):Prop where
 err:new≠[]->w.err=0
 is:∀k∈new,isH y.rows k=true
 fix:q.kind=1∨q.kind=2->∀k∈new,isH x.rows k=true/\k∈jp s x.bk.evs (wy q)
 ask:¬ (q.kind=1∨q.kind=2)->∀k∈new,isH x.rows k=false/\((q.kind=3/\k=(q.worker,q.week))∨(q.kind=7/\k.2=q.week))
 four:z6 s=true->q.kind=1∨q.kind=2->new.length<=4
 keep:∀r∈x.rows,isH y.rows (qY r)=true/\(qY r∉new->QU y.rows (qY r)=r)
 len:y.rows.length=x.rows.length+(new.filter λk=> !isH x.rows k).length
theorem Vx{s:Setup}{x:Ch}(i:ChI s x){r:RW}(a:r∈x.rows):isH x.rows (qY r)=true/\QU x.rows (qY r)=r:=⟨wo.2 ⟨r,a,rfl⟩,Ya i.srt a⟩
theorem Wl{s:Setup}{x:Ch}(i:ChI s x)(q:Cm)(b:Bk)(w:An):KeysOk s x q ⟨b,x.rows⟩ w []:=
 ⟨λh=>absurd rfl h,λ_ h=>(by cases h),λ_ _ h=>(by cases h),λ_ _ h=>(by cases h),λ_ _=>Nat.zero_le _,λr a=>⟨(Vx i a).1,λ_=>(Vx i a).2⟩,rfl⟩
theorem j8b{s:Setup}{x:Ch}(i:ChI s x)(q:Cm)(m:z6 s=true)(f:SFit s):KeysOk s x q (doC s x q).1 (doC s x q).2.1 (doC s x q).2.2:=by
 by_cases h:q.kind=3∨q.kind=7
 ·have p:=(qab m f i q).2
  have e:doC s x q=vd s x q:=by unfold doC;rw[if_pos h]
  rw[e] at p⊢
  rcases xka i h with⟨_,e⟩|⟨_,_,e⟩|⟨w,b,z,j,new,o,u,n,_,e⟩
  ·rw[e];exact Wl i q _ _
  ·rw[e];exact Wl i q _ _
  ·have t:(vd s x q).2.1.err=0:=by
    rw[e]
    show ite _ _ _=(0:Int)
    split
    ·rename_i c
     have v:=Zga m f i.bk (QQ.1 b)
     have d:(va s q).map (λk=>qi s x.bk.evs k.1 k.2)=xf s x.bk q.week:=by
      unfold va xf
      rw[if_pos c,xH]
      rfl
     rw[d]
     exact v
    ·rfl
   rw[e] at t⊢
   have a:∀k∈new,k∈va s q/\isH x.rows k=false:=λk b=>by
    rw[o.keys] at b
    have:=zL.1 b
    exact⟨this.1,by simpa using this.2⟩
   refine⟨λ_=>t,λk b=>n k (a k b).1,λg=>by omega,λ_ k b=>⟨(a k b).2,?_⟩,λ_ g=>by omega,λr d=>?_,?_⟩
   ·have:=(a k b).1
    unfold va at this
    split at this
    ·rename_i c
     exact .inr ⟨c,(xja h w (a k b).1).2⟩
    ·rename_i c
     exact .inl ⟨by omega,by simpa using this⟩
   ·have g:=(Vx i d).1
    constructor
    ·show isH j (qY r)=true
     rw[o.held,g];rfl
    ·intro b
     exact Ya o.srt (o.old r d b)
   ·show j.length=_
    rw[o.len,List.filter_eq_self.2 λk b=>by rw[(a k b).2];rfl]
    rfl
 ·by_cases l:(doP s x.bk q).2.err=0/\(q.kind=1∨q.kind=2)
  ·obtain⟨j,new,o,u,_,e⟩:=Vv i l.2 l.1
   rw[e]
   have a:∀k∈new,k∈jp s x.bk.evs (wy q)/\isH x.rows k=true:=λk b=>by
    rw[o.keys] at b
    have:=zL.1 b
    exact⟨this.1,by simpa using this.2⟩
   refine⟨λ_=>l.1,λk b=>?_,λ_ k b=>⟨(a k b).2,(a k b).1⟩,λg=>absurd l.2 g,λm _=>?_,λr d=>?_,?_⟩
   ·show isH j k=true
    rw[o.held,(a k b).2];rfl
   ·rw[o.keys]
    exact Nat.le_trans (qh _ _) (Vw m _ _)
   ·have g:=(Vx i d).1
    constructor
    ·show isH j (qY r)=true
     rw[o.held,g];rfl
    ·intro b
     exact Ya o.srt (o.old r d b)
   ·show j.length=_
    rw[o.len,List.filter_eq_nil_iff.2 λk b=>by rw[(a k b).2];decide]
    rfl
  ·obtain⟨e,y⟩:=XL h l
   rw[e]
   exact Wl i q _ _
end Go.Proofs.YtigdlmpjijhpaaaGreat.Ax
namespace Go.Proofs.YtigdlmpjijhpaaaGreat.Ax
open Go Go.RowKit
def FrzTo(h L:List Ob)(x x':AV):Prop:=∀(B:Nat) (w:World) (g:Gh) (a:List Ob),a.length=h.length->HOk B w g (a++L)->∀u,AR (ctx w g (a++L)) x u->AR (ctx w g a) x' u
def FrzL(h L:List Ob)(l l':List AV):Prop:=∀(B:Nat) (w:World) (g:Gh) (a:List Ob),a.length=h.length->HOk B w g (a++L)->∀us,ARs (ctx w g (a++L)) l us->ARs (ctx w g a) l' us
theorem FrzTo.lt{h L:List Ob}{x:AV}(b:x.lt h.length=true):FrzTo h L x x:=λB w g a e d u c=>AR.less (vB w g a L) _ _ (by rw[e];exact b) c
theorem FrzTo.new{h L:List Ob}{x:AV}{e:Nat}{rows:List (List AV)}(c:0<e)(f:qO h.length rows=true)(n:New h e x rows L):FrzTo h L x (.sl e rows):=λB w g i a d u b=>
 J6 d c b (n _ a) (λid hid=>by rw[a];exact n.root id hid) (by rw[a];exact f)
theorem FrzL.nil{h L:List Ob}:FrzL h L [] []:=λ_ _ _ _ _ _ _ h=>h
theorem FrzL.cons{h L:List Ob}{x x':AV}{l l':List AV}(k:FrzTo h L x x')(q:FrzL h L l l'):FrzL h L (x::l) (x'::l'):=λB w g a e b us ⟨v,r,f,d,c⟩=>⟨v,r,f,k B w g a e b v d,q B w g a e b r c⟩
theorem FrzL.pre{h L:List Ob}{l l':List AV}:∀ {a:List AV},qy h.length a=true->FrzL h L l l'->FrzL h L (a++l) (a++l')
 | [],_,q=>q
 | x::a,b,q=>by
   rw[qy,zq] at b
   exact .cons (.lt b.1) (FrzL.pre b.2 q)
theorem FrzTo.ag{h L:List Ob}{l l':List AV}(k:FrzL h L l l'):FrzTo h L (.ag l) (.ag l'):=λB w g a e c u ⟨vs,b,d⟩=>⟨vs,b,k B w g a e c _ d⟩
theorem FrzTo.tup{h L:List Ob}{l l':List AV}(k:FrzL h L l l'):FrzTo h L (.tup l) (.tup l'):=λB w g a e c u ⟨vs,b,d⟩=>⟨vs,b,k B w g a e c _ d⟩
theorem X5{P:Program}{f:FuncId}{ar:List AV}{h:List Ob}{i:AV}(c:ACalls P f ar h λr h'=>∃L,h'=h++L/\NoRes L/\FrzTo h L r i):ACalls P f ar h λr h'=>r=i/\h'=h:=by
 refine⟨c.1,⟨_,_,⟨rfl,rfl⟩,.refl⟩,λφ e B w g vs k hB a=>?_⟩
 refine(c.2.2 φ e B w g vs k hB a).mono λn w' ⟨v,r,h',g',m,⟨L,l,_,n1⟩,_,d,j⟩=>?_
 subst l
 rw[xc e] at d j
 have b:(fill φ h).length=h.length:=ju
 exact⟨_,_,h,g',m,⟨rfl,rfl⟩,.refl,d.drop rfl (by have:=k.ids;exact this),n1 B w' g' _ b d.ok _ j⟩
