import Derived.Test.YtigdlmpjijhpaaaGreatKA
import Derived.Test.YtigdlmpjijhpaaaGreatK46
import Derived.Test.YtigdlmpjijhpaaaGreatK44
import Derived.Test.YtigdlmpjijhpaaaGreatK43
set_option linter.all false
namespace Go.Proofs.YtigdlmpjijhpaaaGreat.Ax
open Go Go.Proofs
set_option maxRecDepth 100000
theorem ChI.fl{s:Setup}(f:SFit s){x:Ch}(i:ChI s x):FlR x.rows:=λr a=>by
 rw[i.val r a]
 exact y9a f (by have:=i.bk.few;omega)
theorem KXa(n:Nat):((List.range n).flatMap λw=>(List.range 53).map λk=>(((w:Nat):Int),((k:Nat):Int))).length=n*53:=by
 induction n with
 | zero=>rfl
 | succ n a=>
   rw[List.range_succ (n:=n),List.flatMap_append,zg,a]
   simp
   omega
theorem ChI.len{s:Setup}{x:Ch}(i:ChI s x):x.rows.length<=s.rates.length*53:=by
 have a:(x.rows.map qY).Nodup:=by
  rw[List.Nodup,List.pairwise_map]
  exact i.srt.imp λh=>ZU h
 have:=QT (b:=(List.range s.rates.length).flatMap λw=>(List.range 53).map λk=>(((w:Nat):Int),((k:Nat):Int))) a λk d=>by
  obtain⟨r,c,rfl⟩:=zt.1 d
  obtain⟨⟨j,e⟩,g,f⟩:=i.rng r c
  rw[List.mem_flatMap]
  refine⟨(qY r).1.toNat,by rw[qW];omega,?_⟩
  rw[zt]
  exact⟨(qY r).2.toNat,by rw[qW];omega,Prod.ext (by simp only;omega) (by simp only;omega)⟩
 rw[zb,KXa] at this
 exact this
section
variable {h0 H:List Ob} {d:Nat} {s:Setup} {b:Bk} {R:List RW} {ks:List Ky}
theorem j9b(i:ShI h0 H d s b R ks)(c:Nat)(n:H[c]? =some (.box 158 [.ptr d 0]))(m:yJ R)(q:R.length<1099511627776)(o:FlR R)(k:Ky):
  ACalls Tryz.prog 89 [.ag (jl k),.ptr c 0] H λr h'=>r=bl (isH R k)/\h'=H:=by
 obtain⟨h,t,u,j,l⟩:=i.box
 have v:=(frM s H).ones
 have e:=j.rows.one
 have g:=l.rows.one
 have a:∀M,(H++M)[d]? =some (xG s b h t):=λM=>ze u
 have f:∀M,(H++M)[c]? =some (.box 158 [.ptr d 0]):=λM=>ze n
 refine zj Tryz.f89 [.tmp 3] 16 rfl rfl rfl rfl rfl rfl (by decide) (⟨_,_,⟨rfl,rfl⟩,.refl⟩) λB=>?_
 simp only[go_sem,jl]
 refine zQ rfl [.res] 1 [(0,0,[]),(1,0,[]),(2,0,[]),(3,0,[]),(4,0,[]),(5,0,[]),(6,0,[]),(7,0,[]),(8,0,[]),(9,0,[]),(10,0,[]),(11,0,[])] rfl (by decide) (by decide) ?_
 simp only[go_sem,a,f,v,e,g,jl]
 refine zh (KGa _ s (frA s) (frM s _) (BX b) (BC b) h rfl rfl R k (j.app _).rows m q o) ?_
 rintro _ w ⟨rfl,p⟩
 rw[p]
 simp only[go_sem,je,vf,List.cons_append,List.nil_append]
 refine zn ?_<;>(simp only[go_sem]<;>try rfl)
theorem kab(i:ShI h0 H d s b R ks)(a e:Nat)(h:H[a]? =some (.box 158 [.ptr d 0]))(n:H[e]? =some (.box 162 [.fn (.func 89) [] [.ptr a 0]]))(g:yJ R)(m:R.length<1099511627776)(j:FlR R)(k:Ky):
  ACalls Tryz.prog 90 [.ag (jl k),.ptr e 0] H λr h'=>r=bl (isH R k==false)/\h'=H:=by
 have c:∀M,(H++M)[e]? =some (.box 162 [.fn (.func 89) [] [.ptr a 0]]):=λM=>ze n
 refine zj Tryz.f90 [.tmp 3] 8 rfl rfl rfl rfl rfl rfl (by decide) (⟨_,_,⟨rfl,rfl⟩,.refl⟩) λB=>?_
 simp only[go_sem,jl]
 simp only[go_sem,c]
 refine zh (j9b (i.app (zD rfl)) a (ze h) g m j k) ?_
 rintro _ o ⟨rfl,l⟩
 rw[l]
 have f:(!isH R k)=(isH R k==false):=by cases isH R k<;>rfl
 simp only[go_sem,f]
 refine zn ?_<;>(simp only[go_sem]<;>try rfl)
end
theorem ShI.ext{h0 H H2:List Ob}{d:Nat}{s:Setup}{b:Bk}{R:List RW}{ks:List Ky}(i:ShI h0 H d s b R ks)(p:Pre H H2):ShI h0 H2 d s b R ks:=by
 obtain⟨L,rfl,a⟩:=p
 exact i.app a
theorem Pre.get{H H2:List Ob}(p:Pre H H2){j:Nat}{o:Ob}(h:H[j]? =some o):H2[j]? =some o:=by
 obtain⟨L,rfl,_⟩:=p
 exact ze h
theorem OwnS.set2{h0 h:List Ob}{ty e:Nat}{x:AV}{rows:List (List AV)}(k:OwnS h0 h ty e x rows){i j t1 t2:Nat}{d b:List AV}(hi:h[i]? =some (.box t1 d))(c:h[j]? =some (.box t2 b))(a:i≠j)(o p:Ob):OwnS h0 ((h.set i o).set j p) ty e x rows:=
 OwnS.setB (k.setB hi) (by rw[zc a];exact c)
theorem Zha{h0 h a:List Ob}{ty e:Nat}{x:AV}{rows:List (List AV)}(k:OwnS h0 h ty e x rows)(p:Pre h a):OwnS h0 a ty e x rows:=by
 obtain⟨L,rfl,_⟩:=p
 exact k.app L
theorem Q9a{s:Setup}{q:Cm}(a:q.kind=7){n:Nat}(h:n<s.rates.length):((va s q).take (n+1)).map jl=((va s q).take n).map jl++[[i64 n,i64 q.week]]:=by
 have b:n<(va s q).length:=by unfold va;rw[if_pos a,zb,jz];exact h
 rw[show(va s q).take (n+1)=(va s q).take n++[(va s q)[n]] from(zE b).symm,zw]
 congr 1
 unfold va
 simp[a,jl]
theorem WZa{s:Setup}{q:Cm}:(va s q).length=if q.kind=7 then s.rates.length else 1:=by
 unfold va
 split
 ·rw[zb,jz]
 ·rfl
set_option maxHeartbeats 8000000 in
theorem kbb(h0 H:List Ob)(d j7 U:Nat)(s:Setup)(f:SFit s)(x:Ch)(xi:ChI s x)(i:ShI h0 H d s x.bk x.rows [])(h7:H[j7]? =some (.box 158 [.ptr d 0]))(h8:H[U]? =some (.box 162 [.fn (.func 89) [] [.ptr j7 0]]))(d7:j7≠d)(d8:U≠d)
  (q:Cm) (hk:q.kind=3∨q.kind=7) (hrl:s.rates.length<4096):
  ACalls Tryz.prog 91 [.ptr d 0,.ag (ZT q),.fn (.func 90) [] [.ptr U 0]] H λr H'=>∃R A zv kv,r= .tup [.ag (jK s (frA s) (BX x.bk) (BC x.bk) R),.ag [i64 (vd s x q).2.1.err,A,nl,zv],kv]/\Pre h0 H'/\
   OwnS h0 H' 45 27 R ((vd s x q).1.rows.map je)/\OwnS h0 H' 45 27 A ((vd s x q).2.1.rows.map je)/\SlN zv 1 ((vd s x q).2.1.bytes.map xA)/\OwnS h0 H' 90 2 kv ((vd s x q).2.2.map jl)/\BoxD d H H':=by
 have hex:∃r H',(∃R A zv kv,r=AV.tup [.ag (jK s (frA s) (BX x.bk) (BC x.bk) R),.ag [i64 (vd s x q).2.1.err,A,nl,zv],kv]/\Pre h0 H'/\
   OwnS h0 H' 45 27 R ((vd s x q).1.rows.map je)/\OwnS h0 H' 45 27 A ((vd s x q).2.1.rows.map je)/\SlN zv 1 ((vd s x q).2.1.bytes.map xA)/\OwnS h0 H' 90 2 kv ((vd s x q).2.2.map jl)/\BoxD d H H')/\ResK H H':=by
  have hl:=i.pre.len
  refine⟨_,H++[.row 45 27 ((vd s x q).1.rows.map je) 0,.row 45 27 ((vd s x q).2.1.rows.map je) 0,.row 90 2 ((vd s x q).2.2.map jl) 0],⟨.tl H.length 0,.tl (H.length+1) 0,_,.tl (H.length+2) 0,rfl,i.pre.app (zl rfl (zl rfl (zD rfl))),.inr ⟨_,_,hl,rfl,by rw[zK rfl];rfl⟩,.inr ⟨_,_,by omega,rfl,by rw[zG (k:=1) rfl];rfl⟩,.inl rfl,.inr ⟨_,_,by omega,rfl,by rw[zG (k:=2) rfl];rfl⟩,BoxD.refl.app _⟩,resK_app⟩
 obtain⟨R,kv,q1,q2,q3⟩:=i.box
 have G:=i.pre
 have hdl:=i.dl
 have hd:=(zd.1 q1).1
 have ho:=(frM s H).ones
 have V:=q2.rows.one
 have hko:=q3.rows.one
 have hbM:∀M,(H++M)[d]? =some (xG s x.bk R kv):=λM=>ze q1
 have hrr:∀M,qc (H++M) (frA s).r=some (s.rates.map qz):=λM=>(frM s (H++M)).r.rows
 have υ:=xka xi hk
 refine jM (N:=150) (rs:=[.cell 6 83,.cell 7 71,.tmp 8]) (fn:=Tryz.f91) rfl rfl rfl rfl (qp rfl) rfl (hex) λB=>?_
 refine qG (by decide) ?_
 simp only[go_sem]
 obtain⟨Y,l⟩:∃Y,Y=H++[Ob.box 79 (ZT q),.box 83 (jK zS zA jF jF jF),.box 71 [i64 0,nl,nl,nl]]:=⟨_,rfl⟩
 have S:Y[H.length]? =some (.box 79 (ZT q)):=by rw[l,zK rfl];rfl
 have c6:Y[H.length+1]? =some (.box 83 (jK zS zA jF jF jF)):=by rw[l,zG (k:=1) rfl];rfl
 have c7:Y[H.length+2]? =some (.box 71 [i64 0,nl,nl,nl]):=by rw[l,zG (k:=2) rfl];rfl
 have cd:Y[d]? =some (xG s x.bk R kv):=by rw[l];exact hbM _
 have i1:ShI h0 Y d s x.bk x.rows []:=by rw[l];exact i.app (zl rfl (zl rfl (zD rfl)))
 have b7:Y[j7]? =some (.box 158 [.ptr d 0]):=by rw[l];exact ze h7
 have b8:Y[U]? =some (.box 162 [.fn (.func 89) [] [.ptr j7 0]]):=by rw[l];exact ze h8
 have r1:qc Y (frA s).r=some (s.rates.map qz):=(frM s Y).r.rows
 have o2:OwnS h0 Y 45 27 R (x.rows.map je):=by rw[l];exact q2.app _
 have hHH:=l
 simp only[zS,zA,jF] at hHH c6
 rw[<-hHH]
 clear hHH
 refine jR (xo (λT D=>D=Y/\T 0= .ptr d 0/\T 2= .fn (.func 90) [] [.ptr U 0]/\T 4= .ptr H.length 0/\T 6= .ptr (H.length+1) 0/\T 7= .ptr (H.length+2) 0/\T 9=bl (kr q)) (by decide) ?_ ?_)
 ·cases g1:decide (q.week≥0)
  ·simp only[go_sem,S,g1,qv]
   rw[kr,g1];rfl
  ·simp only[go_sem,S,g1,qv]
   rw[kr,g1];rfl
 rintro T D ⟨rfl,t0,t2,t4,t6,b,t9⟩
 have c:H.length+1≠H.length+2:=by omega
 have p1:=i1.pre
 have hlen1:D.length=H.length+3:=by rw[l,zg];rfl
 refine xo (λa j=>j=D/\a 0= .ptr d 0/\a 2= .fn (.func 90) [] [.ptr U 0]/\a 4= .ptr H.length 0/\a 6= .ptr (H.length+1) 0/\a 7= .ptr (H.length+2) 0/\a 9=bl (kr q)/\¬ (q.kind=3/\jc s q=false)) (by decide) ?_ ?_
 ·refine w8 (λa j=>j=D/\a 0= .ptr d 0/\a 2= .fn (.func 90) [] [.ptr U 0]/\a 4= .ptr H.length 0/\a 6= .ptr (H.length+1) 0/\a 7= .ptr (H.length+2) 0/\a 9=bl (kr q)/\a 45=bl (q.kind==3 && !jc s q)) ?_ ?_
  ·simp only[go_sem]
   refine zQ rfl [] 0 [(0,0,[]),(1,0,[]),(2,0,[]),(3,0,[]),(4,0,[]),(5,0,[]),(6,0,[]),(7,0,[]),(8,0,[]),(10,0,[]),(11,0,[]),(12,0,[]),(13,0,[]),(14,0,[]),(15,0,[]),(9,0,[]),(16,0,[]),(17,0,[]),(18,0,[]),(19,0,[]),(20,0,[])] rfl (by decide) (by decide) ?_
   cases g3:q.kind==3
   ·simp only[go_sem,t0,t2,t4,t6,b,t9,S,cd,g3,qv]
   ·cases g1:decide (q.worker<0)
    ·have C:jc s q= !decide (q.worker≥(s.rates.length:Int)):=by
      rw[decide_eq_false_iff_not] at g1
      unfold jc
      rw[decide_eq_true (show q.worker≥0 by omega),Bool.true_and, <-decide_not]
      exact decide_eq_decide.2 (by omega)
     simp only[go_sem,t0,t2,t4,t6,b,t9,S,cd,g3,g1,r1,ho,qv,zb]
     rw[C];simp
    ·have C:jc s q=false:=by
      rw[decide_eq_true_eq] at g1
      unfold jc
      rw[decide_eq_false (show ¬ q.worker≥0 by omega)]
      rfl
     simp only[go_sem,t0,t2,t4,t6,b,t9,S,cd,g3,g1,r1,ho,qv,zb]
     rw[C];rfl
  clear t0 t2 t4 t6 b t9
  rintro T j ⟨rfl,t0,t2,t4,t6,b,t9,t45⟩
  cases C:(q.kind==3 && !jc s q)
  ·simp only[go_sem,t45,C,qv]
   refine⟨t0,t2,t4,t6,b,t9,λ⟨z1,z2⟩=>?_⟩
   rw[z1,z2] at C
   cases C
  ·have hc:q.kind=3/\jc s q=false:=by
    rw[zq,beq_iff_eq,Bool.not_eq_true'] at C
    exact C
   have he:vd s x q=(x,wt 80,[]):=by unfold vd;rw[if_pos hc]
   rw[he]
   have ε:∀o,(j.set (H.length+1) o)[H.length+2]? =some (.box 71 [i64 0,nl,nl,nl]):=λo=>by rw[zc c];exact c7
   simp only[go_sem,t45,C,qv,t0,t6,b,cd,c6,c7,ε,ho,V,hko]
   have g6:∀o p,((j.set (H.length+1) o).set (H.length+2) p)[H.length+1]? =some o:=λo p=>by rw[zc c.symm];exact zm c6
   have I:∀o p,((j.set (H.length+1) o).set (H.length+2) p)[H.length+2]? =some p:=λo p=>zm (ε o)
   refine⟨.tup [.ag (jK s (frA s) (BX x.bk) (BC x.bk) R),.ag [i64 80,nl,nl,nl],nl],by simp only[go_sem,t6,b,g6,I,ho,V],.inl ⟨R,nl,nl,nl,rfl,(p1.set (by have:=G.len;omega) rfl).set (by have:=G.len;omega) rfl,o2.set2 c6 c7 c _ _,.inl ⟨rfl,rfl⟩,.inr ⟨rfl,rfl⟩,.inl ⟨rfl,rfl⟩,by rw[l];exact((BoxD.refl.app _).setNew (by omega) _).setNew (by omega) _⟩⟩
 clear t0 t2 t4 t6 b t9
 rintro T D ⟨rfl,t0,t2,t4,t6,b,t9,hw3⟩
 refine xo (λa j=>j=D/\a 0= .ptr d 0/\a 2= .fn (.func 90) [] [.ptr U 0]/\a 4= .ptr H.length 0/\a 6= .ptr (H.length+1) 0/\a 7= .ptr (H.length+2) 0/\¬ (kr q=false∨(q.kind=7/\jt x.bk.shut q.week=false))) (by decide) ?_ ?_
 ·refine w8 (λa j=>j=D/\a 0= .ptr d 0/\a 2= .fn (.func 90) [] [.ptr U 0]/\a 4= .ptr H.length 0/\a 6= .ptr (H.length+1) 0/\a 7= .ptr (H.length+2) 0/\a 69=bl (!kr q || (q.kind==7 && !jt x.bk.shut q.week))) ?_ ?_
  ·simp only[go_sem]
   refine zQ rfl [] 0 [(0,0,[]),(1,0,[]),(2,0,[]),(3,0,[]),(4,0,[]),(5,0,[]),(6,0,[]),(7,0,[]),(8,0,[]),(9,0,[]),(10,0,[]),(11,0,[]),(13,0,[]),(12,0,[]),(14,0,[]),(15,0,[]),(16,0,[]),(17,0,[]),(18,0,[])] rfl (by decide) (by decide) ?_
   cases g9:kr q
   ·rw[g9] at t9
    simp only[go_sem,t0,t4,t6,b,t9,S,cd,qv]
    exact t2
   ·rw[g9] at t9
    cases g3:q.kind==7
    ·simp only[go_sem,t0,t4,t6,b,t9,S,cd,g3,qv]
     exact t2
    ·simp only[go_sem,t0,t4,t6,b,t9,S,cd,g3,qv,ho,V,hko]
     refine zh (q1a _ (BC x.bk) x.bk.shut q.week ⟨rfl,λ_=>rfl⟩ (by have:=zWa xi.bk;omega)) ?_
     rintro _ h3 ⟨rfl,e3⟩
     rw[e3]
     clear e3
     simp only[go_sem,t0,t4,t6,b,t9,S,cd,g3,qv,ho,V,hko]
     exact⟨t2,rfl⟩
  clear t0 t2 t4 t6 b t9
  rintro T j ⟨rfl,t0,t2,t4,t6,b,t69⟩
  cases C:(!kr q || (q.kind==7 && !jt x.bk.shut q.week))
  ·simp only[go_sem,t69,C,qv]
   refine⟨t0,t2,t4,t6,b,λz=>?_⟩
   rw[zY] at C
   rcases z with z|⟨z1,z2⟩
   ·rw[z] at C;cases C.1
   ·rw[z1,z2] at C;cases C.2
  ·have hc:kr q=false∨(q.kind=7/\jt x.bk.shut q.week=false):=by
    rw[Bool.or_eq_true,Bool.not_eq_true',zq,beq_iff_eq,Bool.not_eq_true'] at C
    exact C
   have he:vd s x q=(x,wt 212,[]):=by unfold vd;rw[if_neg hw3,if_pos hc]
   rw[he]
   have ε:∀o,(j.set (H.length+1) o)[H.length+2]? =some (.box 71 [i64 0,nl,nl,nl]):=λo=>by rw[zc c];exact c7
   simp only[go_sem,t69,C,qv,t0,t6,b,cd,c6,c7,ε,ho,V,hko]
   have g6:∀o p,((j.set (H.length+1) o).set (H.length+2) p)[H.length+1]? =some o:=λo p=>by rw[zc c.symm];exact zm c6
   have I:∀o p,((j.set (H.length+1) o).set (H.length+2) p)[H.length+2]? =some p:=λo p=>zm (ε o)
   refine⟨.tup [.ag (jK s (frA s) (BX x.bk) (BC x.bk) R),.ag [i64 212,nl,nl,nl],nl],by simp only[go_sem,t6,b,g6,I,ho,V],.inl ⟨R,nl,nl,nl,rfl,(p1.set (by have:=G.len;omega) rfl).set (by have:=G.len;omega) rfl,o2.set2 c6 c7 c _ _,.inl ⟨rfl,rfl⟩,.inr ⟨rfl,rfl⟩,.inl ⟨rfl,rfl⟩,by rw[l];exact((BoxD.refl.app _).setNew (by omega) _).setNew (by omega) _⟩⟩
 clear t0 t2 t4 t6 b t9
 rintro T H1' ⟨rfl,t0,t2,t4,t6,b,hw7⟩
 obtain⟨R',new,so,ci',hin,hsk,hask⟩:∃R' new,SomeOk s x.bk.evs false x.rows (va s q) R' new/\ChI s ⟨x.bk,R'⟩/\(∀k∈va s q,isH R' k=true)/\kZ s x.bk.evs false (x.rows,[]) (va s q)=(R',new)/\
   vd s x q=(⟨x.bk,R'⟩,⟨if q.kind=7 then(jY ((va s q).map λk=>qi s x.bk.evs k.1 k.2)).2 else 0,(va s q).map λk=>qi s x.bk.evs k.1 k.2,[],if q.kind=7 then(jY ((va s q).map λk=>qi s x.bk.evs k.1 k.2)).1 else []⟩,new):=by
  rcases υ with⟨z,_⟩|⟨_,z,_⟩|⟨_,_,_,R',new,z1,z2,z3,z4,z5⟩
  ·exact absurd z hw3
  ·exact absurd z hw7
  ·exact⟨R',new,z1,z2,z3,z4,z5⟩
 clear υ
 rw[hask]
 clear hask
 have ζ:=WZa (s:=s) (q:=q)
 obtain⟨K,hK⟩:∃K,K=va s q:=⟨_,rfl⟩
 have hKl:K.length<4096:=by rw[hK,ζ];split<;>omega
 obtain⟨D,hh1⟩:∃D,D=H1':=⟨_,rfl⟩
 rw[<-hh1] at S c6 c7 cd i1 b7 b8 r1 o2 p1 hlen1 l⊢
 clear hh1
 refine qG (by decide) ?_
 simp only[go_sem,t4,S]
 have c4M:∀M,(D++M)[H.length]? =some (.box 79 (ZT q)):=λM=>ze S
 refine jR (xo (λa j=>Pre D j/\a 0= .ptr d 0/\a 2= .fn (.func 90) [] [.ptr U 0]/\a 4= .ptr H.length 0/\a 6= .ptr (H.length+1) 0/\a 7= .ptr (H.length+2) 0/\OwnS D j 90 2 (a 10) (K.map jl)) (by decide) ?_ ?_)
 ·cases I:q.kind==7
  ·have hn7:¬ q.kind=7:=by simpa using I
   have hKe:K=[(q.worker,q.week)]:=by rw[hK];unfold va;rw[if_neg hn7]
   simp only[go_sem,t4,c4M,I,qv]
   exact⟨⟨_,rfl,zD rfl⟩,t0,t2,t6,b,.inr ⟨D.length,0,zp _,rfl,by rw[zK rfl,hKe];rfl⟩⟩
  ·have θ:q.kind=7:=by simpa using I
   have hKe:K.length=s.rates.length:=by rw[hK,ζ,if_pos θ]
   have hKt:∀ {n:Nat},n<s.rates.length->(K.take (n+1)).map jl=(K.take n).map jl++[[i64 n,i64 q.week]]:=λh=>by rw[hK];exact Q9a θ h
   obtain⟨M0,hM0⟩:∃M0,M0=[Ob.row 90 2 [[i64 q.worker,i64 q.week]] 0]:=⟨_,rfl⟩
   have hM0N:NoRes M0:=by rw[hM0];exact zD rfl
   have cdM:(D++M0)[d]? =some (xG s x.bk R kv):=ze cd
   have rM:=(frM s (D++M0)).r.rows
   simp only[go_sem,t4,c4M,I,qv]
   rw[<-hM0]
   simp only[go_sem,t0,cdM,rM,ho,zb]
   refine zO (by decide) (λm a j=>∃(n:Nat) (y:AV),n<=s.rates.length/\Pre D j/\OwnS D j 90 2 y ((K.take n).map jl)/\a 0= .ptr d 0/\a 2= .fn (.func 90) [] [.ptr U 0]/\a 4= .ptr H.length 0/\a 6= .ptr (H.length+1) 0/\a 7= .ptr (H.length+2) 0/\a 10=y/\a 91=i64 s.rates.length/\a 92=i64 n/\m=s.rates.length - n) s.rates.length
    ⟨0,nl,by omega,⟨M0,rfl,hM0N⟩,.inl ⟨rfl,rfl⟩,by simp only[go_sem,t0],by simp only[go_sem,t2],by simp only[go_sem,t4],by simp only[go_sem,t6],by simp only[go_sem,b],by(simp only[go_sem]<;>rfl),by(simp only[go_sem]<;>rfl),by(simp only[go_sem]<;>rfl),rfl⟩ ?_
   clear t0 t2 t4 t6 b
   rintro m a j ⟨n,y,hn,g,ow,t0,t2,t4,t6,b,t10,t91,t92,rfl⟩
   have κ:=g.get S
   simp only[go_sem,t91,t92]
   refine ways (λe=>?_) (λe=>?_)
   ·have Z:=dlt e
    have hnx:=hKt Z
    rcases ow with⟨rfl,F⟩|⟨id,st,u1,rfl,u3⟩
    ·simp only[go_sem,t4,t10,t92,κ]
     refine⟨s.rates.length - (n+1),by omega,n+1,_,by omega,g.app (zl rfl (zD rfl)),.inr ⟨j.length+1,0,by have:=g.len;omega,rfl,?_⟩,t0,t2,t6,b,rfl,t91,qn (by omega) rfl,rfl⟩
     rw[hnx,F,zG (k:=1) rfl];rfl
    ·have hg2:∀M,(j++M)[id]? =some (.row 90 2 ((K.take n).map jl) st):=λM=>ze u3
     have ο:(((K.take n).map jl).length+1)*17<=140737488355328:=by
      rw[zb,zH]
      omega
     simp only[go_sem,t4,t10,t92,κ,hg2,ο]
     refine⟨s.rates.length - (n+1),by omega,n+1,_,by omega,(g.app (zD rfl)).set u1 rfl,.inr ⟨id,st+1,u1,rfl,?_⟩,t0,t2,t6,b,rfl,t91,qn (by omega) rfl,rfl⟩
     rw[hnx]
     exact zm (hg2 _)
   ·have hge:=xr e
    have hn2:n=s.rates.length:=by omega
    subst hn2
    simp only[go_sem]
    rw[<-hKe,zV] at ow
    exact⟨g,t0,t2,t4,t6,b,by rw[t10];exact ow⟩
 clear t0 t2 t4 t6 b
 rintro T j ⟨g,t0,t2,t4,t6,b,ow⟩
 refine YS (λa j=>Pre D j/\a 0= .ptr d 0/\a 2= .fn (.func 90) [] [.ptr U 0]/\a 4= .ptr H.length 0/\a 6= .ptr (H.length+1) 0/\a 7= .ptr (H.length+2) 0/\∀H,SlOf H (a 10) 2 (K.map jl)) (λnx=>?_) ?_
 ·rcases ow with⟨e10,F⟩|⟨id,st,u1,e10,u3⟩
  ·exact nx _ _ ⟨g,t0,t2,t4,t6,b,λH=>by rw[e10,F];exact⟨rfl,λh=>absurd rfl h⟩⟩
  ·refine Yv 10 e10 u3 (nx _ _ ⟨g.set u1 rfl,?_,?_,?_,?_,?_,λH=>?_⟩)
   ·rw[VG,if_neg (by decide)];exact t0
   ·rw[VG,if_neg (by decide)];exact t2
   ·rw[VG,if_neg (by decide)];exact t4
   ·rw[VG,if_neg (by decide)];exact t6
   ·rw[VG,if_neg (by decide)];exact b
   ·rw[VG,if_pos rfl];exact⟨rfl,λ_=>rfl⟩
 clear t0 t2 t4 t6 b ow g T j
 rintro T j ⟨g,t0,t2,t4,t6,b,Q⟩
 obtain⟨y,t10⟩:∃y,T 10=y:=⟨_,rfl⟩
 rw[t10] at Q
 have i2:=i1.ext g
 have b7':=g.get b7
 have b8':=g.get b8
 have xlen:=xi.len
 have xlen2:x.rows.length<900000:=by
  have:s.rates.length*53<=4096*53:=Nat.mul_le_mul_right _ (by omega)
  omega
 refine jR (qG (by decide) ?_)
 simp only[go_sem,t0,t2,t10]
 refine zh (Yza h0 j y d s f x.bk x.rows [] K false _ _ Q i2 xi.srt (λk hk=>by rw[hK] at hk;exact(xja (by omega) hw3 hk).1.1) (by have:=xi.bk.few;omega) xlen2 (by decide) (by omega) (xi.fl f) (λH5 R5 ks5 i5 bk5 s5 l5 f5 k5 hk5=>kab i5 j7 U (bk5 j7 _ _ d7 b7') (bk5 U _ _ d8 b8') s5 (by omega) f5 k5)) ?_
 rintro _ H3 ⟨rfl,i3,bk3⟩
 rw[hK,hsk] at i3
 simp only at i3
 have dH:d<H.length:=hd
 have e4:=bk3 _ _ _ (by omega) (g.get S)
 have e6:=bk3 _ _ _ (by omega) (g.get c6)
 have e7:=bk3 _ _ _ (by omega) (g.get c7)
 obtain⟨J,ι,ed,or3,ok3⟩:=i3.box
 have ξ:=or3.rows.one
 have μ:=ok3.rows.one
 have p3:=i3.pre
 have srt3:=ci'.srt
 have fl3:=ci'.fl f
 have len3:R'.length<1099511627776:=by
  have:R'.length<=s.rates.length*53:=ci'.len
  have:s.rates.length*53<=4096*53:=Nat.mul_le_mul_right _ (by omega)
  omega
 simp only[go_sem]
 refine jR (qG (by decide) ?_)
 simp only[go_sem]
 have σ:=λM=>(Q M).rows
 have hKw:∀k∈K,QU R' k=qi s x.bk.evs k.1 k.2:=λk hk=>ci'.get (hin k (by rw[<-hK];exact hk))
 obtain⟨wf,hwf⟩:∃wf:Ky->List AV,wf=λk=>je (qi s x.bk.evs k.1 k.2):=⟨_,rfl⟩
 have hwfk:∀k,wf k=je (qi s x.bk.evs k.1 k.2):=λk=>by rw[hwf]
 refine jR (xo (λa u=>∃A,Pre H3 u/\u[H3.length]? =some (.box 71 [i64 0,A,nl,nl])/\OwnS H3 u 45 27 A (K.map wf)/\a 0= .ptr d 0/\a 4= .ptr H.length 0/\a 6= .ptr (H.length+1) 0/\a 7= .ptr (H.length+2) 0/\a 12= .ptr H3.length 0) (by decide) ?_ ?_)
 ·simp only[go_sem,t10,σ,zb]
  refine zO (by decide) (λm a u=>∃(n:Nat) (A:AV),n<=K.length/\Pre H3 u/\u[H3.length]? =some (.box 71 [i64 0,A,nl,nl])/\OwnS H3 u 45 27 A ((K.take n).map wf)/\a 0= .ptr d 0/\a 4= .ptr H.length 0/\a 6= .ptr (H.length+1) 0/\a 7= .ptr (H.length+2) 0/\a 12= .ptr H3.length 0/\a 108=y/\a 109=i64 K.length/\a 110=i64 n/\m=K.length - n) K.length
   ⟨0,nl,by omega,⟨_,rfl,zD rfl⟩,by rw[zK rfl];rfl,.inl ⟨rfl,rfl⟩,by simp only[go_sem,t0],by simp only[go_sem,t4],by simp only[go_sem,t6],by simp only[go_sem,b],by simp only[go_sem],by simp only[go_sem],by(simp only[go_sem]<;>rfl),by(simp only[go_sem]<;>rfl),rfl⟩ ?_
  clear t0 t2 t4 t6 b t10
  rintro m a u ⟨n,A,hn,P,a5,t,t0,t4,t6,b,v,ν,ρ,L,rfl⟩
  have ed5:=P.get ed
  have edM:∀M,(u++M)[d]? =some (xG s x.bk J ι):=λM=>ze ed5
  have a5M:∀M,(u++M)[H3.length]? =some (.box 71 [i64 0,A,nl,nl]):=λM=>ze a5
  have or5:∀M,SlOf (u++M) J 27 (R'.map je):=λM=>(P.sl or3.rows).app M
  have η:=t.rows.one
  simp only[go_sem,ρ,L]
  refine ways (λe=>?_) (λe=>?_)
  ·have Z:=dlt e
   have hrow:=KKa Z
   have hkl:(n:Int)<K.length:=by omega
   have hxe:=λM=>(Q M).at (i:=n) (by simpa using Z)
   have hkw:=hKw _ (zx Z)
   have htk:(K.take (n+1)).map wf=(K.take n).map wf++[je (qi s x.bk.evs (K[n]).1 (K[n]).2)]:=by
    rw[show K.take (n+1)=K.take n++[K[n]] from(zE Z).symm,zw,List.map_cons,hwfk];rfl
   obtain⟨k,hk'⟩:∃k,k=K[n]:=⟨_,rfl⟩
   rw[<-hk'] at hrow hkw htk
   have hkA:(K.map jl)[n]? =some [i64 k.1,i64 k.2]:=hrow
   simp only[go_sem,ν,L,σ,hxe,hkA,hkl,zb,Int.toNat_natCast,zf]
   refine zQ rfl [.res] 1 [(0,0,[]),(1,0,[]),(2,0,[]),(3,0,[]),(4,0,[]),(5,0,[]),(6,0,[]),(7,0,[]),(8,0,[]),(9,0,[]),(10,0,[]),(11,0,[])] rfl (by decide) (by decide) ?_
   have hkM:∀M,(u++(Ob.box 90 (jl k)::M))[u.length]? =some (.box 90 (jl k)):=λM=>by rw[zK rfl];rfl
   simp only[go_sem,t0,edM,ho,ξ,μ,jl]
   refine zh (KGa _ s (frA s) (frM s _) (BX x.bk) (BC x.bk) J rfl rfl R' k (or5 _) srt3 len3 fl3) ?_
   rintro _ O ⟨rfl,E⟩
   rw[E,hkw]
   clear E
   obtain⟨w,hw⟩:∃w,w=qi s x.bk.evs k.1 k.2:=⟨_,rfl⟩
   rw[<-hw] at htk⊢
   rcases t with⟨rfl,F⟩|⟨jd,su,u1,rfl,u3⟩
   ·simp only[go_sem,v,L,a5M,je,vf,List.cons_append,List.nil_append]
    refine⟨K.length - (n+1),by omega,n+1,.tl (u.length+3) 0,by omega,(P.app (zl rfl (zl rfl (zl rfl (zD rfl))))).set (zp _) rfl,zm (a5M _),.inr ⟨u.length+3,0,by have:=P.len;omega,rfl,?_⟩,t0,t4,t6,b,ν,ρ,qn (by omega) rfl,rfl⟩
    have:=(zd.1 a5).1
    rw[zc (by omega),zG (k:=3) rfl,htk,F];rfl
   ·have hg:∀M,(u++M)[jd]? =some (.row 45 27 ((K.take n).map wf) su):=λM=>ze u3
    have ο:(((K.take n).map wf).length+1)*233<=140737488355328:=by rw[zb,zH];omega
    have hbS:∀M o',((u++M).set jd o')[H3.length]? =some (.box 71 [i64 0,.tl jd su,nl,nl]):=λM o'=>kQ (h0:=u) (a5M M) (hg M)
    simp only[go_sem,v,L,a5M,hg,ο,hbS,je,vf,List.cons_append,List.nil_append]
    refine⟨K.length - (n+1),by omega,n+1,.tl jd (su+1),by omega,((P.app (zl rfl (zl rfl (zD rfl)))).set u1 rfl).set (zp _) rfl,zm (hbS _ _),.inr ⟨jd,su+1,u1,rfl,?_⟩,t0,t4,t6,b,ν,ρ,qn (by omega) rfl,rfl⟩
    have hj:H3.length≠jd:=λe=>by rw[e,u3] at a5;cases a5
    rw[zc hj,htk]
    exact zm (hg _)
  ·have hge:=xr e
   have hn2:n=K.length:=by omega
   subst hn2
   rw[zV] at t
   simp only[go_sem]
   exact⟨A,P,a5,t,t0,t4,t6,b,v⟩
 clear t0 t2 t4 t6 b t10
 rintro T u ⟨A,P,a5,t,t0,t4,t6,b,v⟩
 have κ:=P.get e4
 have i5:=i3.ext P
 have ed5:=P.get ed
 have E:=P.get e6
 have X:=P.get e7
 obtain⟨W,hW⟩:∃W,W=K.map λk=>qi s x.bk.evs k.1 k.2:=⟨_,rfl⟩
 have hKW:K.map wf=W.map je:=by rw[hW,hwf,xH];rfl
 rw[hKW] at t
 refine xo (λa O=>∃zv e,Pre H3 O/\O[H3.length]? =some (.box 71 [i64 e,A,nl,zv])/\OwnS H3 O 45 27 A (W.map je)/\a 0= .ptr d 0/\a 6= .ptr (H.length+1) 0/\a 7= .ptr (H.length+2) 0/\a 12= .ptr H3.length 0/\e=(if q.kind=7 then(jY W).2 else 0)/\SlN zv 1 ((if q.kind=7 then(jY W).1 else []).map xA)) (by decide) ?_ ?_
 ·cases I:q.kind==7
  ·have hn7:¬ q.kind=7:=by simpa using I
   rw[if_neg hn7,if_neg hn7]
   simp only[go_sem,t4,κ,I,qv]
   exact⟨nl,0,P,a5,t,t0,t6,b,v,rfl,.inr ⟨rfl,rfl⟩⟩
  ·have θ:q.kind=7:=by simpa using I
   rw[if_pos θ,if_pos θ]
   have η:=t.rows.one
   have hrw:W.map je=(W.map λp:RowV × List Flg=>(⟨p.1,.sl 2 (p.2.map xW),p.2⟩:RwA)).map λq=>vA q.1 q.2.1:=by rw[xH];rfl
   have hpure:kJ (W.map λp:RowV × List Flg=>(⟨p.1,.sl 2 (p.2.map xW),p.2⟩:RwA))=W:=by rw[kJ,xH];exact List.map_id _
   simp only[go_sem,t4,v,κ,a5,I,qv]
   refine zh (Kha u A _ (by rw[<-hrw];exact t.rows) (λp hp=>by
    obtain⟨r,hr,rfl⟩:=zt.1 hp
    rw[hW] at hr
    obtain⟨w,_,rfl⟩:=zt.1 hr
    have:=zVa f x.bk.evs w.1 w.2 (by have:=xi.bk.few;omega)
    exact⟨⟨rfl,λ_=>rfl⟩,this.1,this.2⟩) (by rw[zb,hW,zb];omega)) ?_
   rintro _ O ⟨rfl,e9⟩
   rw[e9,hpure]
   clear e9
   have a5s:∀o,(u.set H3.length o)[H3.length]? =some o:=λo=>zm a5
   simp only[go_sem,v,a5,a5s,η]
   exact⟨.sl 1 ((jY W).1.map xA),(jY W).2,(P.set (zp _) rfl).set (zp _) rfl,zm (a5s _),OwnS.setB (t.setB a5) (a5s _),t0,t6,b,rfl,.inl rfl⟩
 clear t0 t4 t6 b v a5 t
 rintro T O ⟨zv,e,p6,a6,ow6,t0,t6,b,v,he,hz⟩
 have ed6:=p6.get ed
 have E:=p6.get e6
 have X:=p6.get e7
 have η:=ow6.rows.one
 have hzo:AV.one zv=true:=by rcases hz with rfl|⟨rfl,_⟩<;>rfl
 have e7s:∀o,(O.set (H.length+1) o)[H.length+2]? =some (.box 71 [i64 0,nl,nl,nl]):=λo=>by rw[zc c];exact X
 have hlH3:H.length+2<H3.length:=(zd.1 e7).1
 have a6s:∀o,(O.set (H.length+1) o)[H3.length]? =some (.box 71 [i64 e,A,nl,zv]):=λo=>by rw[zc (by omega)];exact a6
 have ed6s:∀o,(O.set (H.length+1) o)[d]? =some (xG s x.bk J ι):=λo=>by rw[zc (by omega)];exact ed6
 have ed7s:∀o p,((O.set (H.length+1) o).set (H.length+2) p)[d]? =some (xG s x.bk J ι):=λo p=>by rw[zc (by omega)];exact ed6s o
 refine qG (by decide) ?_
 simp only[go_sem]
 refine zQ rfl [] 0 [(0,0,[]),(1,0,[]),(2,0,[]),(5,0,[]),(6,0,[]),(7,0,[]),(3,0,[]),(4,0,[]),(8,0,[]),(9,0,[4,8]),(10,0,[8]),(11,0,[])] rfl (by decide) (by decide) ?_
 simp only[go_sem,t0,t6,b,v,ed6,a6,a6s,ed6s,ed7s,E,X,e7s,ho,ξ,μ,η,hzo]
 have g6:∀o p,((O.set (H.length+1) o).set (H.length+2) p)[H.length+1]? =some o:=λo p=>by rw[zc c.symm];exact zm E
 have I:∀o p,((O.set (H.length+1) o).set (H.length+2) p)[H.length+2]? =some p:=λo p=>zm (e7s o)
 have l0:=G.len
 have p3':Pre h0 O:=p3.trans p6
 refine jR (jya ⟨.tup [.ag (jK s (frA s) (BX x.bk) (BC x.bk) J),.ag [i64 e,A,nl,zv],ι],by simp only[go_sem,t6,b,g6,I,ho,ξ,μ,η,hzo],.inl ⟨J,A,zv,ι,?_,(p3'.set (by omega) rfl).set (by omega) rfl,?_,?_,?_,?_,?_⟩⟩)
 ·rw[he,hW,hK]
 ·exact(Zha or3 p6).set2 E X c _ _
 ·rw[<-hK, <-hW]
  refine OwnS.set2 ?_ E X c _ _
  rcases ow6 with⟨z1,z2⟩|⟨jd,su,u1,z1,z2⟩
  ·exact .inl ⟨z1,z2⟩
  ·exact .inr ⟨jd,su,by have:=p3.len;omega,z1,z2⟩
 ·rw[<-hK, <-hW];exact hz
 ·exact(Zha ok3 p6).set2 E X c _ _
 ·have b1:BoxD d H j:=by
   obtain⟨M,hM,_⟩:=g
   rw[hM,l,zr]
   exact BoxD.refl.app _
  have b2:BoxD d H O:=by
   obtain⟨M,hM,_⟩:=p6
   rw[hM]
   exact(b1.trans bk3).app _
  exact(b2.setNew (by omega) _).setNew (by omega) _
abbrev RX(x:Ch):AV:= .sl 27 (x.rows.map je)
abbrev CV(s:Setup)(x:Ch):AV:= .ag (jK s (frA s) (BX x.bk) (BC x.bk) (RX x))
abbrev KV(ks:List Ky):AV:= .sl 2 (ks.map jl)
theorem Jaa(h:List Ob)(x:AV)(rows:List (List AV))(b:SlOf h x 27 rows)(o:rows.length<1048576)(k:(rows.all λr=>r.length==27 && r.all AV.one)=true):
  ACalls Tryz.prog 88 [x] h λr h'=>(rows=[]/\h'=h/\r= .v (.slice none 0 0))∨(h'=h++[.row 45 27 rows 1]/\r= .tl h.length 1):=by
 refine jM (N:=8) (rs:=[.tmp 2]) (fn:=Tryz.f88) rfl rfl rfl rfl (qp rfl) rfl (⟨_,_,.inr ⟨rfl,rfl⟩,resK_app⟩) λB=>?_
 cases rows with
 | nil=>
   refine Zk 0 rfl b.rows (λm=>?_) ?_
   ·refine qD _ (by decide) ?_;simp only[go_sem]
    exact⟨.v (.slice none 0 0),by simp only[go_sem],.inl (.inl ⟨rfl,rfl⟩)⟩
   ·refine qD _ (by decide) ?_;simp only[go_sem]
    exact⟨.tl h.length 1,by simp only[go_sem],.inl (.inr ⟨rfl,rfl⟩)⟩
 | cons y l=>
   have j:=b.at (i:=0) (by simp)
   have g:=b.rows
   have d:xV x=false:=by
    rcases w9 g with⟨e,xs,rfl⟩|⟨i,s,rfl⟩|⟨a,e,i,n,rfl⟩<;>rfl
   unfold xV at d
   have c:∀L,qc (h++L) x=some (y::l):=λL=>(b.app L).rows
   have f:(y::l).length*233<=140737488355328:=by omega
   rw[List.length_cons] at f
   refine qD _ (by decide) ?_;simp only[go_sem,g,j,d,c,k,f,Bool.or_true,decide_true]
   exact⟨.tl h.length 1,by simp only[go_sem],.inl (.inr ⟨rfl,rfl⟩)⟩
theorem Zia{n:Nat}:∀l:List Ky,qO n (l.map jl)=true
 | []=>rfl
 | k::l=>by
   rw[List.map_cons,qO,Zia l]
   rfl
theorem W0a{n:Nat}{s:Setup}{b:Bk}:qy n ((jK s (frA s) (BX b) (BC b) nl).take 25)=true:=by
 simp only[List.take_succ_cons,List.take_zero,frA,AV.lt,qy,Jn,Jo,ZQ,yD,wj,Bool.and_self]
theorem KYa{n:Nat}{s:Setup}{x:Ch}:(CV s x).lt n=true:=by
 simp only[frA,AV.lt,qy,Jn,Jo,ZQ,yD,wj,Zp,Bool.and_self]
theorem YAa{n:Nat}{w:An}:(AV.ag (wQ w)).lt n=true:=by
 simp only[AV.lt,qy,Zp,zAa,Qc,Bool.and_self]
theorem YBa{n:Nat}{ks:List Ky}:(KV ks).lt n=true:=by
 simp only[AV.lt,Zia]
theorem Zja{n:Nat}{a b c:AV}(d:a.lt n=true)(f:b.lt n=true)(e:c.lt n=true):(AV.tup [a,b,c]).lt n=true:=by
 show(a.lt n && (b.lt n && (c.lt n && true)))=true
 rw[d,f,e]
 rfl
theorem FrzTo.own{h L:List Ob}{ty e:Nat}{v:AV}{rows:List (List AV)}(k:OwnS h (h++L) ty e v rows)(b:0<e)(a:qO h.length rows=true):FrzTo h L v (.sl e rows):= .new b a (k.new (zp _))
theorem FrzTo.nil{h L:List Ob}(e:Nat):FrzTo h L nl (.sl e []):=λB w g a d c u b=>WeakV.nil e _ u (FrzTo.lt (h:=h) (L:=L) (x:=nl) rfl B w g a d c u b)
theorem FrzTo.sln{h L:List Ob}{z:AV}{e:Nat}{rows:List (List AV)}(k:SlN z e rows)(a:qO h.length rows=true):FrzTo h L z (.sl e rows):=by
 rcases k with rfl|⟨rfl,rfl⟩
 ·exact .lt a
 ·exact .nil e
theorem KZa{h L:List Ob}{s:Setup}{b:Bk}{R:List RW}{c:AV}(k:OwnS h (h++L) 45 27 c (R.map je)):FrzTo h L (.ag (jK s (frA s) (BX b) (BC b) c)) (CV s ⟨b,R⟩):=
 .ag (FrzL.pre (a:=(jK s (frA s) (BX b) (BC b) nl).take 25) W0a (.cons (.own k (by decide) (Zp _)) .nil))
theorem ShI.book{h0 H:List Ob}{d:Nat}{s:Setup}{b b':Bk}{R:List RW}{ks:List Ky}{a c:AV}(e:H[d]? =some (xG s b a c))(i:ShI h0 H d s b R ks)(g:OwnS h0 H 45 27 a (R.map je))(f:OwnS h0 H 90 2 c (ks.map jl)):ShI h0 (H.set d (xG s b' a c)) d s b' R ks:=
 ⟨i.pre.set i.dl rfl,i.dl,a,c,zm e,g.setB e,f.setB e⟩
theorem yba{s:Setup}{b:Bk}{x:Fx}(i:BkI s b)(h:QO s b x=0):∀k∈jp s b.evs x,0<=k.1:=λk a=>by
 obtain⟨m,_,_⟩:=Wd.1 h
 obtain⟨_,_,l,g⟩:=QP m
 have d:∀e:Ev,vI s e=true->0<=e.worker:=λe f=>(wM (yA f)).2.2.1
 have a:=ZS.1 a
 unfold ZR at a
 rcases zI.1 a with a|a
 ·split at a
  ·rename_i c
   rw[zq] at c
   rcases g with⟨j,_⟩|⟨_,A,y,R,n,o,_⟩
   ·rw[j] at c;cases c.2
   ·rw[o] at a
    rw[(Wb.1 a).1]
    exact d y (i.ok y (by rw[n];simp))
  ·cases a
 ·split at a
  ·rename_i c
   rw[(Wb.1 a).1]
   exact d _ (l c)
  ·cases a
theorem W1a{s:Setup}(a:z6 s=true){l:List Ev}{x:Fx}:(jp s l x).length<100000:=by
 have:=Vw a l x
 omega
set_option maxHeartbeats 8000000 in
theorem xab(h:List Ob)(s:Setup)(f:SFit s)(hok:z6 s=true)(x:Ch)(xi:ChI s x)(q:Cm)(hrl:s.rates.length<4096):
  ACalls Tryz.prog 36 [CV s x,.ag (ZT q)] h λr h'=>∃L,h'=h++L/\NoRes L/\FrzTo h L r (.tup [CV s (doC s x q).1,.ag (wQ (doC s x q).2.1),KV (doC s x q).2.2]):=by
 have hex:∃r h',(∃L,h'=h++L/\NoRes L/\FrzTo h L r (.tup [CV s (doC s x q).1,.ag (wQ (doC s x q).2.1),KV (doC s x q).2.2]))/\ResK h h':=
  ⟨_,h,⟨[],by simp,jm,.lt (Zja KYa YAa YBa)⟩,.refl⟩
 have O:=(frM s h).ones
 have xlen:=xi.len
 have xlen1:s.rates.length*53<=4096*53:=Nat.mul_le_mul_right _ (by omega)
 have xfew:=xi.bk.few
 have sfew:=zWa xi.bk
 refine jM (N:=97) (rs:=[.cell 4 83,.cell 5 71,.tmp 6]) (fn:=Tryz.f36) rfl rfl rfl rfl (qp rfl) rfl (hex) λB=>?_
 refine qG (by decide) ?_
 simp only[go_sem,O]
 obtain⟨J,D⟩:∃J,J=h++[Ob.box 83 (jK s (frA s) (BX x.bk) (BC x.bk) (RX x)),.box 79 (ZT q),.box 83 (jK zS zA jF jF jF),.box 71 [i64 0,nl,nl,nl]]:=⟨_,rfl⟩
 have U:J[h.length]? =some (.box 83 (jK s (frA s) (BX x.bk) (BC x.bk) (RX x))):=by rw[D,zK rfl];rfl
 have t:J[h.length+1]? =some (.box 79 (ZT q)):=by rw[D,zG (k:=1) rfl];rfl
 have v:J[h.length+2]? =some (.box 83 (jK zS zA jF jF jF)):=by rw[D,zG (k:=2) rfl];rfl
 have C:J[h.length+3]? =some (.box 71 [i64 0,nl,nl,nl]):=by rw[D,zG (k:=3) rfl];rfl
 have hp1:Pre h J:=⟨_,D,zl rfl (zl rfl (zl rfl (zD rfl)))⟩
 have hl1:J.length=h.length+4:=by rw[D,zg];rfl
 have ν:=D
 simp only[zS,zA,jF] at ν v
 rw[<-ν]
 clear ν D
 refine jR (xo (λT m=>∃d,Pre J m/\ShI h m d s x.bk x.rows []/\h.length+4<=d/\m[d+1]? =some (.box 158 [.ptr d 0])/\T 2= .ptr h.length 0/\T 3= .ptr (h.length+1) 0/\T 4= .ptr (h.length+2) 0/\T 5= .ptr (h.length+3) 0/\T 6=nl/\T 7= .ptr (d+1) 0) (by decide) ?_ ?_)
 ·simp only[go_sem]
  refine zQ rfl [.res,.res] 2 [(0,0,[]),(2,0,[]),(1,0,[]),(3,0,[]),(4,0,[1]),(5,0,[]),(6,0,[]),(7,0,[]),(8,1,[]),(9,0,[])] rfl (by decide) (by decide) ?_
  have β:∀M,(J++M)[h.length]? =some (.box 83 (jK s (frA s) (BX x.bk) (BC x.bk) (RX x))):=λM=>ze U
  simp only[go_sem,β,O]
  refine zh (Jaa _ (RX x) _ ⟨rfl,λ_=>rfl⟩ (by rw[zb];omega) (Kva _)) ?_
  rintro r m hr
  rcases hr with⟨g1,rfl,rfl⟩|⟨rfl,rfl⟩
  ·simp only[go_sem,β,O]
   refine⟨J.length,⟨_,rfl,zl rfl (zD rfl)⟩,⟨hp1.app (zl rfl (zD rfl)),by omega,nl,nl,by rw[zK rfl];rfl,.inl ⟨rfl,g1⟩,.inl ⟨rfl,rfl⟩⟩,by omega,by rw[zG (k:=1) rfl];rfl,rfl⟩
  ·simp only[go_sem,β,O]
   refine⟨J.length,⟨_,rfl,zl rfl (zl rfl (zD rfl))⟩,⟨hp1.app (zl rfl (zl rfl (zD rfl))),by omega,.tl (J.length+2) 1,nl,by rw[zK rfl];rfl,.inr ⟨J.length+2,1,by omega,rfl,by rw[zG (k:=2) rfl];rfl⟩,.inl ⟨rfl,rfl⟩⟩,by omega,by rw[zG (k:=1) rfl];rfl,rfl⟩
 rintro T m ⟨d,R,i2,hd4,u,t2,t3,t4,t5,t6,c⟩
 have hl2:=R.len
 have U:=R.get U
 have t:=R.get t
 have v:=R.get v
 have C:=R.get C
 clear R
 have hd2:d+1<m.length:=(zd.1 u).1
 refine qG (by decide) ?_
 simp only[go_sem,c]
 refine jR (qG (by decide) ?_)
 simp only[go_sem]
 obtain⟨H3,P⟩:∃H3,H3=m++[Ob.box 162 [.fn (.func 89) [] [.ptr (d+1) 0]]]:=⟨_,rfl⟩
 have hl3:H3.length=m.length+1:=by rw[P,zg];rfl
 have e8:H3[m.length]? =some (.box 162 [.fn (.func 89) [] [.ptr (d+1) 0]]):=by rw[P,zK rfl];rfl
 have up:∀ {j:Nat} {o:Ob},m[j]? =some o->H3[j]? =some o:=λhj=>by rw[P];exact ze hj
 have u:=up u
 have U:=up U
 have t:=up t
 have v:=up v
 have C:=up C
 have i3:ShI h H3 d s x.bk x.rows []:=by rw[P];exact i2.app (zD rfl)
 rw[<-P]
 clear P up i2
 have hw0:d<H3.length:=by omega
 refine jR (xo (λa K=>K=H3/\a 2= .ptr h.length 0/\a 3= .ptr (h.length+1) 0/\a 4= .ptr (h.length+2) 0/\a 5= .ptr (h.length+3) 0/\a 6=nl/\a 7= .ptr (d+1) 0/\a 8= .ptr m.length 0/\¬ (q.kind=3∨q.kind=7)) (by decide) ?_ ?_)
 ·refine w8 (λa K=>K=H3/\a 2= .ptr h.length 0/\a 3= .ptr (h.length+1) 0/\a 4= .ptr (h.length+2) 0/\a 5= .ptr (h.length+3) 0/\a 6=nl/\a 7= .ptr (d+1) 0/\a 8= .ptr m.length 0/\a 9= .fn (.func 90) [] [.ptr m.length 0]/\a 31=bl (q.kind==3 || q.kind==7)) ?_ ?_
  ·cases g3:q.kind==3
   ·simp only[go_sem,t3,t,g3,qv]
    exact⟨t2,t4,t5,t6,c⟩
   ·simp only[go_sem,t3,t,g3,qv]
    exact⟨t2,t4,t5,t6,c⟩
  clear t2 t3 t4 t5 t6 c
  rintro T K ⟨rfl,t2,t3,t4,t5,t6,c,t8,t9,t31⟩
  cases y:(q.kind==3 || q.kind==7)
  ·simp only[go_sem,t31,y,qv]
   refine⟨t2,t3,t4,t5,t6,c,t8,λz=>?_⟩
   rw[zY] at y
   rcases z with z|z
   ·rw[z] at y;cases y.1
   ·rw[z] at y;cases y.2
  ·have hk:q.kind=3∨q.kind=7:=by
    rw[Bool.or_eq_true,beq_iff_eq,beq_iff_eq] at y
    exact y
   have S:doC s x q=vd s x q:=by unfold doC;rw[if_pos hk]
   rw[S]
   have ο:(vd s x q).1.bk=x.bk:=by
    unfold vd
    split
    ·rfl
    ·split<;>rfl
   have asg:(vd s x q).2.1.segs=[]:=by
    unfold vd
    split
    ·rfl
    ·split<;>rfl
   simp only[go_sem,t31,y,t3,c,t9,t,u,qv]
   refine zh (kbb h K d (d+1) m.length s f x xi i3 u e8 (by omega) (by omega) q hk hrl) ?_
   rintro _ g ⟨E,av,zv,kv,rfl,p5,o5,oa5,sz5,ok5,bd5⟩
   have f4:=bd5 _ _ _ (by omega) v
   have f5:=bd5 _ _ _ (by omega) C
   have A:=o5.rows.one
   have hao:=oa5.rows.one
   have F:=ok5.rows.one
   have hzo:AV.one zv=true:=by rcases sz5 with rfl|⟨rfl,_⟩<;>rfl
   have f5s:∀o,(g.set (h.length+2) o)[h.length+3]? =some (.box 71 [i64 0,nl,nl,nl]):=λo=>by rw[zc (by omega)];exact f5
   have g4:∀o p,((g.set (h.length+2) o).set (h.length+3) p)[h.length+2]? =some o:=λo p=>by rw[zc (by omega)];exact zm f4
   have g5:∀o p,((g.set (h.length+2) o).set (h.length+3) p)[h.length+3]? =some p:=λo p=>zm (f5s o)
   simp only[go_sem,t4,t5,f4,f5,f5s,O,A,hao,F,hzo]
   obtain⟨L,hL,hN⟩:=(p5.set (i:=h.length+2) (by omega) (o:= .box 83 (jK s (frA s) (BX x.bk) (BC x.bk) E)) rfl).set (i:=h.length+3) (by omega) (o:= .box 71 [i64 (vd s x q).2.1.err,av,nl,zv]) rfl
   have o6:=o5.set2 f4 f5 (by omega) (.box 83 (jK s (frA s) (BX x.bk) (BC x.bk) E)) (.box 71 [i64 (vd s x q).2.1.err,av,nl,zv])
   have oa6:=oa5.set2 f4 f5 (by omega) (.box 83 (jK s (frA s) (BX x.bk) (BC x.bk) E)) (.box 71 [i64 (vd s x q).2.1.err,av,nl,zv])
   have Y:=ok5.set2 f4 f5 (by omega) (.box 83 (jK s (frA s) (BX x.bk) (BC x.bk) E)) (.box 71 [i64 (vd s x q).2.1.err,av,nl,zv])
   rw[hL] at o6 oa6 Y
   refine⟨.tup [.ag (jK s (frA s) (BX x.bk) (BC x.bk) E),.ag [i64 (vd s x q).2.1.err,av,nl,zv],kv],by simp only[go_sem,t4,t5,g4,g5,O,A,hao,F,hzo],.inl ⟨L,hL,hN,?_⟩⟩
   have Z:=KZa (s:=s) (b:=x.bk) o6
   rw[<-ο] at Z
   rw[ο] at Z
   refine .tup (.cons ?_ (.cons (.ag (.cons (.lt rfl) (.cons (.own oa6 (by decide) (Zp _)) (.cons ?_ (.cons (.sln sz5 (Qc _)) .nil))))) (.cons (.own Y (by decide) (Zia _)) .nil)))
   ·have hx:CV s (vd s x q).1=CV s ⟨x.bk,(vd s x q).1.rows⟩:=by rw[<-ο]
    rw[hx]
    exact Z
   ·rw[asg]
    exact .nil 5
 clear t2 t3 t4 t5 t6 c
 rintro T K ⟨rfl,t2,t3,t4,t5,t6,c,t8,hk⟩
 refine qG (by decide) ?_
 simp only[go_sem,t3,t]
 obtain⟨H5,n⟩:∃H5,H5=K++[Ob.box 77 (fxC (wy q))]:=⟨_,rfl⟩
 refine jR (xo (λa g=>g=H5/\a 2= .ptr h.length 0/\a 3= .ptr (h.length+1) 0/\a 4= .ptr (h.length+2) 0/\a 5= .ptr (h.length+3) 0/\a 7= .ptr (d+1) 0/\a 8= .ptr m.length 0/\a 10= .ptr K.length 0) (by decide) ?_ ?_)
 ·have θ:∀M,(K++M)[h.length+1]? =some (.box 79 (ZT q)):=λM=>ze t
  cases g1:q.kind==1
  ·have hn:¬ q.kind=1:=by simpa using g1
   have hf:wy q=q.fx:=by unfold wy;rw[if_neg hn]
   rw[hf] at n
   rw[n]
   simp only[go_sem,t3,θ,g1,qv]
   exact⟨t2,t4,t5,c,t8⟩
  ·have hn:q.kind=1:=by simpa using g1
   have hf:wy q=⟨1,q.fx.ev⟩:=by unfold wy;rw[if_pos hn]
   rw[hf] at n
   rw[n]
   simp only[go_sem,t3,θ,g1,qv]
   exact⟨t2,t4,t5,c,t8⟩
 clear t2 t3 t4 t5 t6 c t8
 rintro T g ⟨rfl,t2,t3,t4,t5,c,t8,t10⟩
 have hl5:g.length=K.length+1:=by rw[n,zg];rfl
 have ξ:g[K.length]? =some (.box 77 (fxC (wy q))):=by rw[n,zK rfl];rfl
 have up:∀ {j:Nat} {o:Ob},K[j]? =some o->g[j]? =some o:=λhj=>by rw[n];exact ze hj
 have u:=up u
 have e8:=up e8
 have U:=up U
 have t:=up t
 have v:=up v
 have C:=up C
 have i5:ShI h g d s x.bk x.rows []:=by rw[n];exact i3.app (zD rfl)
 clear n up i3
 refine qG (by decide) ?_
 have β:∀M,(g++M)[h.length]? =some (.box 83 (jK s (frA s) (BX x.bk) (BC x.bk) (RX x))):=λM=>ze U
 have θ:∀M,(g++M)[h.length+1]? =some (.box 79 (ZT q)):=λM=>ze t
 simp only[go_sem,t2,t3,U,t,O]
 refine zh (cDo _ s f x.bk xi.bk q hrl) ?_
 rintro _ h6 ⟨rfl,e6⟩
 rw[e6]
 clear e6
 have κ:=j8a q xi.bk
 obtain⟨b',μ⟩:∃b',b'=(doP s x.bk q).1:=⟨_,rfl⟩
 obtain⟨w,hw⟩:∃w,w=(doP s x.bk q).2:=⟨_,rfl⟩
 have X:=XL (s:=s) (x:=x) hk
 have α:=λh1 m=>Vv (q:=q) xi h1 m
 rw[<-μ, <-hw] at X α
 rw[<-μ] at κ
 rw[<-μ, <-hw]
 simp only[go_sem,O]
 obtain⟨H7,I⟩:∃H7,H7=g++[Ob.box 63 (Qe s (frA s) (BX b') (BC b')),Ob.box 71 (wQ w)]:=⟨_,rfl⟩
 have hl7:H7.length=g.length+2:=by rw[I,zg];rfl
 have ζ:H7[g.length]? =some (.box 63 (Qe s (frA s) (BX b') (BC b'))):=by rw[I,zK rfl];rfl
 have l:H7[g.length+1]? =some (.box 71 (wQ w)):=by rw[I,zG (k:=1) rfl];rfl
 have up:∀ {j:Nat} {o:Ob},g[j]? =some o->H7[j]? =some o:=λhj=>by rw[I];exact ze hj
 have u:=up u
 have e8:=up e8
 have U:=up U
 have t:=up t
 have v:=up v
 have C:=up C
 have ξ:=up ξ
 have i7:ShI h H7 d s x.bk x.rows []:=by rw[I];exact i5.app (zl rfl (zD rfl))
 rw[<-I]
 clear I up i5 β θ
 refine jR (xo (λa W=>∃b0 R' new,ShI h W d s b0 R' new/\BoxD d H7 W/\a 4= .ptr (h.length+2) 0/\a 5= .ptr (h.length+3) 0/\a 7= .ptr (d+1) 0/\a 11= .ptr g.length 0/\a 12= .ptr (g.length+1) 0/\doC s x q=(⟨b',R'⟩,w,new)) (by decide) ?_ ?_)
 ·refine w8 (λa W=>W=H7/\a 2= .ptr h.length 0/\a 4= .ptr (h.length+2) 0/\a 5= .ptr (h.length+3) 0/\a 7= .ptr (d+1) 0/\a 8= .ptr m.length 0/\a 10= .ptr K.length 0/\a 11= .ptr g.length 0/\a 12= .ptr (g.length+1) 0/\a 64=bl (w.err==0 && (q.kind==1 || q.kind==2))) ?_ ?_
  ·cases z0:w.err==0
   ·simp only[go_sem,t3,t,l,z0,qv]
    exact⟨t2,t4,t5,c,t8,t10⟩
   ·cases z1:q.kind==1
    ·simp only[go_sem,t3,t,l,z0,z1,qv]
     exact⟨t2,t4,t5,c,t8,t10⟩
    ·simp only[go_sem,t3,t,l,z0,z1,qv]
     exact⟨t2,t4,t5,c,t8,t10⟩
  clear t2 t3 t4 t5 c t8 t10
  rintro T W ⟨rfl,t2,t4,t5,c,t8,t10,V,ε,t64⟩
  cases y:(w.err==0 && (q.kind==1 || q.kind==2))
  ·simp only[go_sem,t64,y,qv]
   refine⟨x.bk,x.rows,[],i7,.refl,t4,t5,c,V,ε,(X λ⟨z1,z2⟩=>?_).1⟩
   rw[z1] at y
   rcases z2 with z2|z2<;>(rw[z2] at y;cases y)
  ·have hz:w.err=0/\(q.kind=1∨q.kind=2):=by
    rw[zq,Bool.or_eq_true,beq_iff_eq,beq_iff_eq,beq_iff_eq] at y
    exact y
   obtain⟨R',new,so,ci',hsk,S⟩:=α hz.2 hz.1
   have hfx:QO s x.bk (wy q)=0:=by
    have:=hz.1
    rw[hw,xna hz.2,KVa] at this
    exact this
   obtain⟨E,kv,q1,q2,q3⟩:=i7.box
   have A:=q2.rows.one
   have F:=q3.rows.one
   have i8:=ShI.book (b':=b') q1 i7 q2 q3
   simp only[go_sem,t64,y,qv,t2,t10,U,ξ,O]
   refine zh (k8a _ s (frA s) (frM s _) (BX x.bk) x.bk.evs (wy q) ⟨rfl,λ_=>rfl⟩ (by omega)) ?_
   rintro _ h9 ⟨rfl,e9⟩
   rw[e9]
   clear e9
   have hd7:∀o,(W.set d o)[d+1]? =some (.box 158 [.ptr d 0]):=λo=>by rw[zc (by omega)];exact u
   have hd8:∀o,(W.set d o)[m.length]? =some (.box 162 [.fn (.func 89) [] [.ptr (d+1) 0]]):=λo=>by rw[zc (by omega)];exact e8
   simp only[go_sem,c,t8,V,u,e8,ζ,q1,hd7,hd8,O,A,F]
   refine zh (Yza h (W.set d (xG s b' E kv)) _ d s f b' x.rows [] (jp s x.bk.evs (wy q)) true _ _ (λ_=>⟨rfl,λ_=>rfl⟩) i8 xi.srt (yba xi.bk hfx) (by have:=κ.few;omega) (by omega) (by decide) (W1a hok) (xi.fl f) (λH5 R5 ks5 i5 bk5 s5 l5 f5 k5 hk5=>(j9b i5 (d+1) (bk5 _ _ _ (by omega) (hd7 _)) s5 (by omega) f5 k5).mono λr h' ⟨z1,z2⟩=>⟨by rw[z1];cases isH R5 k5<;>rfl,z2⟩)) ?_
   rintro _ G ⟨rfl,i9,bd9⟩
   rw[hsk] at i9
   simp only[go_sem]
   exact⟨b',R',new,i9,(BoxD.refl.setD _).trans bd9,t4,t5,c,V,ε,S⟩
 clear t2 t3 t4 t5 c t8 t10
 rintro T W ⟨b0,R',new,i8,Q,t4,t5,c,V,ε,S⟩
 rw[S]
 clear S X α
 have u:=Q _ _ _ (by omega) u
 have v:=Q _ _ _ (by omega) v
 have C:=Q _ _ _ (by omega) C
 have ζ:=Q _ _ _ (by omega) ζ
 have l:=Q _ _ _ (by omega) l
 obtain⟨E,kv,q1,q2,q3⟩:=i8.box
 have A:=q2.rows.one
 have F:=q3.rows.one
 have i9:=ShI.book (b':=b') q1 i8 q2 q3
 refine qG (by decide) ?_
 simp only[go_sem,c,V,u,ζ,q1,O,A,F]
 obtain⟨G,H⟩:∃G,G=W.set d (xG s b' E kv):=⟨_,rfl⟩
 have up:∀ {j:Nat} {o:Ob},j≠d->W[j]? =some o->G[j]? =some o:=λhj hh=>by rw[H,zc (λe=>hj e.symm)];exact hh
 have u:=up (by omega) u
 have v:=up (by omega) v
 have C:=up (by omega) C
 have l:=up (by omega) l
 have q1':G[d]? =some (xG s b' E kv):=by rw[H];exact zm q1
 have q2':OwnS h G 45 27 E (R'.map je):=by rw[H];exact q2.setB q1
 have q3':OwnS h G 90 2 kv (new.map jl):=by rw[H];exact q3.setB q1
 have p9:Pre h G:=by rw[H];exact i9.pre
 rw[<-H]
 clear H up i9 i8 q1 q2 q3 Q
 have s5:∀o,(G.set (h.length+2) o)[h.length+3]? =some (.box 71 [i64 0,nl,nl,nl]):=λo=>by rw[zc (by omega)];exact C
 have s12:∀o,(G.set (h.length+2) o)[g.length+1]? =some (.box 71 (wQ w)):=λo=>by rw[zc (by omega)];exact l
 have s7:∀o,(G.set (h.length+2) o)[d+1]? =some (.box 158 [.ptr d 0]):=λo=>by rw[zc (by omega)];exact u
 have sd:∀o,(G.set (h.length+2) o)[d]? =some (xG s b' E kv):=λo=>by rw[zc (by omega)];exact q1'
 have u7:∀o p,((G.set (h.length+2) o).set (h.length+3) p)[d+1]? =some (.box 158 [.ptr d 0]):=λo p=>by rw[zc (by omega)];exact s7 o
 have ud:∀o p,((G.set (h.length+2) o).set (h.length+3) p)[d]? =some (xG s b' E kv):=λo p=>by rw[zc (by omega)];exact sd o
 have g4:∀o p,((G.set (h.length+2) o).set (h.length+3) p)[h.length+2]? =some o:=λo p=>by rw[zc (by omega)];exact zm v
 have g5:∀o p,((G.set (h.length+2) o).set (h.length+3) p)[h.length+3]? =some p:=λo p=>zm (s5 o)
 refine jR (qG (by decide) ?_)
 simp only[go_sem]
 refine zQ rfl [] 0 [(0,0,[]),(1,0,[]),(2,0,[]),(3,0,[]),(4,0,[]),(5,0,[]),(6,0,[]),(7,0,[]),(8,0,[]),(9,0,[4,5,8]),(10,0,[5,8]),(11,0,[])] rfl (by decide) (by decide) ?_
 simp only[go_sem,t4,t5,c,ε,u,v,C,l,q1',s5,s12,s7,sd,u7,ud,O,A,F]
 obtain⟨L,hL,hN⟩:=(p9.set (i:=h.length+2) (by omega) (o:= .box 83 (jK s (frA s) (BX b') (BC b') E)) rfl).set (i:=h.length+3) (by omega) (o:= .box 71 (wQ w)) rfl
 have o6:=q2'.set2 v C (by omega) (.box 83 (jK s (frA s) (BX b') (BC b') E)) (.box 71 (wQ w))
 have Y:=q3'.set2 v C (by omega) (.box 83 (jK s (frA s) (BX b') (BC b') E)) (.box 71 (wQ w))
 rw[hL] at o6 Y
 refine jR (jya ⟨.tup [.ag (jK s (frA s) (BX b') (BC b') E),.ag (wQ w),kv],by simp only[go_sem,t4,t5,g4,g5,O,A,F],.inl ⟨L,hL,hN,?_⟩⟩)
 exact .tup (.cons (KZa o6) (.cons (.lt YAa) (.cons (.own Y (by decide) (Zia _)) .nil)))
theorem kcb(h:List Ob)(s:Setup)(f:SFit s)(b:z6 s=true)(x:Ch)(c:ChI s x)(q:Cm)(a:s.rates.length<4096):
  ACalls Tryz.prog 36 [CV s x,.ag (ZT q)] h λr h'=>r= .tup [CV s (doC s x q).1,.ag (wQ (doC s x q).2.1),KV (doC s x q).2.2]/\h'=h:=
 X5 (xab h s f b x c q a)
def kvr(ks:List Ky):List AV:=[KV ks]
abbrev zC:Ob:= .box 83 (jK zS zA jF jF jF)
abbrev Qo(s:Setup)(x:Ch):Ob:= .box 83 (jK s (frA s) (BX x.bk) (BC x.bk) (RX x))
def TwoS(h h':List Ob)(y z:AV)(rows ks:List (List AV)):Prop:=(y=nl/\z=nl/\rows=[]/\ks=[])∨∃i st j a,h.length<=i/\h.length<=j/\y= .tl i st/\z= .tl j a/\h'[i]? =some (.row 71 4 rows st)/\h'[j]? =some (.row 92 1 ks a)
structure AllCI (h h':List Ob) (s:Setup) (x:Ch) (y z:AV) (rows ks:List (List AV)):Prop where
 pre:Pre h h'
 b0:h'[h.length]? =some (Qo s x)
 b1:h'[h.length+1]? =some zC
 two:TwoS h h' y z rows ks
theorem yca{n:Nat}:∀l:List (List Ky),qO n (l.map kvr)=true
 | []=>rfl
 | k::l=>by
   rw[List.map_cons,qO,yca l]
   simp only[kvr,qy,YBa,Bool.and_self]
theorem TwoS.frz{h L:List Ob}{y z:AV}{rows ks:List (List AV)}(k:TwoS h (h++L) y z rows ks)(b:qO h.length rows=true)(f:qO h.length ks=true):FrzTo h L y (.sl 4 rows)/\FrzTo h L z (.sl 1 ks):=by
 rcases k with⟨rfl,rfl,rfl,rfl⟩|⟨i,st,j,g,e,a,rfl,rfl,d,c⟩
 ·exact⟨.nil 4,.nil 1⟩
 ·exact⟨.own (.inr ⟨i,st,e,rfl,d⟩) (by decide) b,.own (.inr ⟨j,g,a,rfl,c⟩) (by decide) f⟩
set_option maxHeartbeats 4000000 in
theorem qbb(h:List Ob)(s:Setup)(f:SFit s)(hok:z6 s=true)(x:Ch)(xi:ChI s x)(c:AV)(l:List Cm)(hx:SlOf h c 16 (l.map ZT))(hl:l.length<1048576)(φ:s.rates.length<4096):
  ACalls Tryz.prog 34 [CV s x,c] h λr h'=>∃L,h'=h++L/\NoRes L/\FrzTo h L r (.tup [CV s (ku s x l).1,.sl 4 ((ku s x l).2.1.map wQ),.sl 1 ((ku s x l).2.2.map kvr)]):=by
 have hex:∃r h',(∃L,h'=h++L/\NoRes L/\FrzTo h L r (.tup [CV s (ku s x l).1,.sl 4 ((ku s x l).2.1.map wQ),.sl 1 ((ku s x l).2.2.map kvr)]))/\ResK h h':=
  ⟨_,h,⟨[],by simp,jm,.lt (Zja KYa (w1a _) (yca _))⟩,.refl⟩
 have P:=(frM s h).ones
 have ψ:∀M,qc (h++M) c=some (l.map ZT):=λM=>(hx.app M).rows
 refine zj Tryz.f34 [.cell 4 83,.tmp 5,.tmp 6] 40 rfl rfl rfl rfl rfl rfl (by decide) (hex) λB=>?_
 simp only[go_sem,P,ψ,zb]
 refine zO (by decide) (λm T H=>∃(n:Nat) (y z:AV),n<=l.length/\AllCI h H s (ku s x (l.take n)).1 y z ((ku s x (l.take n)).2.1.map wQ) ((ku s x (l.take n)).2.2.map kvr)/\T 2= .ptr h.length 0/\T 4= .ptr (h.length+1) 0/\T 7=y/\T 8=z/\T 14=c/\T 15=i64 l.length/\T 16=i64 n/\m=l.length - n) l.length
  ⟨0,nl,nl,by omega,⟨⟨_,rfl,zl rfl (zD rfl)⟩,by rw[zK rfl];rfl,by rw[zG (k:=1) rfl];rfl,.inl ⟨rfl,rfl,rfl,rfl⟩⟩,by simp only[go_sem],by simp only[go_sem],by(simp only[go_sem]<;>rfl),by(simp only[go_sem]<;>rfl),by simp only[go_sem],by(simp only[go_sem]<;>rfl),by(simp only[go_sem]<;>rfl),rfl⟩ ?_
 rintro m T H ⟨n,y,z,hn,v,t2,t4,t7,t8,V,R,G,rfl⟩
 have ν:=v.pre.sl hx
 simp only[go_sem,R,G]
 refine ways (λe=>?_) (λe=>?_)
 ·have Q:=dlt e
  have N:=WHa Q
  have ω:(n:Int)<l.length:=by omega
  have g:=Q8a (s:=s) (x:=x) Q
  have hrx:=ν.rows
  have α:=ν.at (i:=n) (by simpa using Q)
  have δ:=z5a (l.take n) xi
  have χ:=vqa (s:=s) (l.take n) (x:=x)
  have htl:(l.take n).length<=n:=by rw[zH];omega
  obtain⟨x',β⟩:∃x',x'=(ku s x (l.take n)).1:=⟨_,rfl⟩
  obtain⟨A,hA⟩:∃A,A=(ku s x (l.take n)).2.1:=⟨_,rfl⟩
  obtain⟨K,hK⟩:∃K,K=(ku s x (l.take n)).2.2:=⟨_,rfl⟩
  rw[<-β, <-hA, <-hK] at g
  rw[<-β] at δ v
  rw[<-hA, <-hK] at v χ
  obtain⟨q,hq⟩:∃q,q=l[n]:=⟨_,rfl⟩
  rw[<-hq] at N g
  have F:=v.b0
  have d:∀M,(H++M)[h.length]? =some (Qo s x'):=λM=>ze F
  simp only[go_sem,t2,V,G,N,ω,hrx,α,d,P,zb,Int.toNat_natCast,zf]
  refine zh (kcb _ s f hok x' δ q φ) ?_
  rintro _ h1 ⟨rfl,e1⟩
  rw[e1]
  obtain⟨x2,hx2⟩:∃x2,x2=(doC s x' q).1:=⟨_,rfl⟩
  obtain⟨w,hw⟩:∃w,w=(doC s x' q).2.1:=⟨_,rfl⟩
  obtain⟨k,hk⟩:∃k,k=(doC s x' q).2.2:=⟨_,rfl⟩
  rw[<-hx2, <-hw, <-hk] at g⊢
  simp only[go_sem,t2,P,d]
  refine zQ rfl [.res,.res] 2 [(1,0,[]),(5,0,[]),(6,0,[]),(0,0,[]),(2,0,[]),(3,0,[]),(4,0,[0]),(7,1,[]),(8,0,[0]),(9,0,[]),(10,0,[]),(11,0,[])] rfl (by decide) (by decide) ?_
  rcases v.two with⟨rfl,rfl,g1,g2⟩|⟨i,st,j,S,u1,u2,rfl,rfl,E,I⟩
  ·simp only[go_sem,t2,t7,t8,G,P,d]
   have p0:Pre h (H++[Ob.box 79 (ZT q),Qo s x2,.box 71 (wQ w),.row 71 4 [wQ w] 0,.row 92 1 [kvr k] 0,.row 71 4 [wQ w] 0,.row 92 1 [kvr k] 0]):=v.pre.app (zl rfl (zl rfl (zl rfl (zl rfl (zl rfl (zl rfl (zD rfl)))))))
   have hlH:=v.pre.len
   have a:=v.b1
   have hl1:=(zd.1 a).1
   refine⟨l.length - (n+1),by omega,n+1,.tl (H.length+5) 0,.tl (H.length+6) 0,by omega,⟨p0.set (zp _) rfl,?_,?_,.inr ⟨H.length+5,0,H.length+6,0,by omega,by omega,rfl,rfl,?_,?_⟩⟩,t4,rfl,rfl,V,R,qn (by omega) rfl,rfl⟩
   ·rw[g];exact zm (d _)
   ·rw[zc (by omega)];exact ze a
   ·rw[zc (by omega),g,zw,g1,zG (k:=5) rfl];rfl
   ·rw[zc (by omega),g,zw,g2,zG (k:=6) rfl];rfl
  ·have J:∀M,(H++M)[i]? =some (.row 71 4 (A.map wQ) st):=λM=>ze E
   have μ:∀M,(H++M)[j]? =some (.row 92 1 (K.map kvr) S):=λM=>ze I
   have γ:i≠j:=λe=>by rw[e,I] at E;injection E with E;injection E with z;exact absurd z (by decide)
   have D:∀M o,((H++M).set i o)[j]? =some (.row 92 1 (K.map kvr) S):=λM o=>by rw[zc γ];exact μ M
   have ξ:∀M o p,(((H++M).set i o).set j p)[h.length]? =some (Qo s x'):=λM o p=>by
    have z1:((H++M).set i o)[h.length]? =some (Qo s x'):=kQ (h0:=H) (d M) (J M)
    exact kQ (h0:=H) z1 (D M o)
   have ζ:((A.map wQ).length+1)*81<=140737488355328:=by rw[zb];omega
   have U:((K.map kvr).length+1)*25<=140737488355328:=by rw[zb];omega
   have hil:=(zd.1 E).1
   have hjl:=(zd.1 I).1
   have κ:∀(C t u:Ob) M o',((H++(C::t::u::M)).set i o')[H.length+1]? =some t:=λC t u M o'=>by rw[zc (by omega),zG (k:=1) rfl];rfl
   have hs2:∀(C t u:Ob) M o',((H++(C::t::u::M)).set i o')[H.length+2]? =some u:=λC t u M o'=>by rw[zc (by omega),zG (k:=2) rfl];rfl
   have hs4:∀(C t u Y X:Ob) M o',((H++(C::t::u::Y::X::M)).set i o')[H.length+4]? =some X:=λC t u Y X M o'=>by rw[zc (by omega),zG (k:=4) rfl];rfl
   have W:∀(C t u Y X o' p:Ob),((H++[C,t,u,Y,X]).set i o').set (H.length+4) p=(H++[C,t,u,Y,p]).set i o':=λC t u Y X o' p=>by
    rw[List.set_comm _ _ (by omega),zT _ _ (by omega),show H.length+4 - H.length=4 by omega];rfl
   have hj1:∀(C t u:Ob) M o' Z,(((H++(C::t::u::M)).set i o').set j Z)[H.length+1]? =some t:=λC t u M o' Z=>by rw[zc (by omega),κ]
   simp only[go_sem,t2,t7,t8,G,P,d,J,μ,D,ξ,ζ,U,κ,hs2,hs4,W,hj1]
   have p0:Pre h (H++[Ob.box 79 (ZT q),Qo s x2,.box 71 (wQ w),.row 71 4 [wQ w] 0,.row 92 1 [kvr k] 0]):=v.pre.app (zl rfl (zl rfl (zl rfl (zl rfl (zD rfl)))))
   have a:=v.b1
   have θ:∀M o,((H++M).set i o)[h.length+1]? =some zC:=λM o=>kQ (h0:=H) (ze a) (J M)
   have ι:∀M o p,(((H++M).set i o).set j p)[h.length+1]? =some zC:=λM o p=>kQ (h0:=H) (θ M o) (D M o)
   have hih:i≠h.length:=λe=>by rw[e,F] at E;cases E
   have hjh:j≠h.length:=λe=>by rw[e,F] at I;cases I
   refine⟨l.length - (n+1),by omega,n+1,.tl i (st+1),.tl j (S+1),by omega,⟨((p0.set u1 rfl).set u2 rfl).set (zp _) rfl,?_,?_,.inr ⟨i,st+1,j,S+1,u1,u2,rfl,rfl,?_,?_⟩⟩,t4,rfl,rfl,V,R,qn (by omega) rfl,rfl⟩
   ·rw[g];exact zm (ξ _ _ _)
   ·rw[zc (by omega)];exact ι _ _ _
   ·rw[zc (λe=>hih e.symm),zc (λe=>γ e.symm),g,zw];exact zm (J _)
   ·rw[zc (λe=>hjh e.symm),g,zw];exact zm (D _ _)
 ·have hge:=xr e
  have ρ:n=l.length:=by omega
  subst ρ
  rw[zV] at v
  have F:=v.b0
  have a:=v.b1
  simp only[go_sem,t2,t4,t7,t8,F,a,P]
  obtain⟨L,hL,hN⟩:=v.pre.set (i:=h.length+1) (by omega) (o:=Qo s (ku s x l).1) rfl
  have hg:=zm (b:=Qo s (ku s x l).1) a
  have τ:TwoS h (h++L) y z ((ku s x l).2.1.map wQ) ((ku s x l).2.2.map kvr):=by
   rw[<-hL]
   rcases v.two with z1|⟨i,st,j,S,u1,u2,e1,e2,E,I⟩
   ·exact .inl z1
   ·refine .inr ⟨i,st,j,S,u1,u2,e1,e2,?_,?_⟩
    ·rw[zc (λe=>by rw[e,E] at a;cases a)];exact E
    ·rw[zc (λe=>by rw[e,I] at a;cases a)];exact I
  have O:AV.one y=true/\AV.one z=true:=by
   rcases v.two with⟨rfl,rfl,_⟩|⟨i,st,j,S,u1,u2,rfl,rfl,E,I⟩<;>exact⟨rfl,rfl⟩
  obtain⟨f1,f2⟩:=τ.frz (w1a _) (yca _)
  refine⟨.tup [CV s (ku s x l).1,y,z],by simp only[go_sem,hg,t4,P,O.1,O.2],.inl ⟨L,hL,hN,?_⟩⟩
  exact .tup (.cons (.lt KYa) (.cons f1 (.cons f2 .nil)))
theorem xbb(h:List Ob)(s:Setup)(f:SFit s)(b:z6 s=true)(x:Ch)(e:ChI s x)(c:AV)(l:List Cm)(d:SlOf h c 16 (l.map ZT))(g:l.length<1048576)(a:s.rates.length<4096):
  ACalls Tryz.prog 34 [CV s x,c] h λr h'=>r= .tup [CV s (ku s x l).1,.sl 4 ((ku s x l).2.1.map wQ),.sl 1 ((ku s x l).2.2.map kvr)]/\h'=h:=
 X5 (qbb h s f b x e c l d g a)
def W2a:AV:= .ag (jK zS zA jF jF jF)
theorem YCa(h:List Ob)(s:Setup)(a:SA)(k:SIn h s a)(f:SFit s):
  ACalls Tryz.prog 32 [jg s a] h λr h'=>r= .tup [if z6 s then CV s zZa else W2a,i64 (if z6 s then 0 else 70)]/\h'=h:=by
 refine wN (R:=λr h'=>r= .tup [if z6 s then .ag (jK s (frA s) (BX Kx) (BC Kx) nl) else W2a,i64 (if z6 s then 0 else 70)]/\h'=h) ?_ ?_
 ·refine zj Tryz.f32 [.cell 2 83,.tmp 3] 14 rfl rfl rfl rfl rfl rfl (by decide) (⟨_,_,⟨rfl,rfl⟩,.refl⟩) λB=>?_
  simp only[go_sem,k.ones]
  refine zh (jWb _ s a (k.app _) f) ?_
  rintro _ e ⟨rfl,b⟩
  rw[b]
  have c:=(frM s h).ones
  cases d:z6 s
  ·simp only[go_sem,jVb,zA,jF]
   refine zn ?_<;>(simp only[go_sem,W2a,zA,jF]<;>try rfl)
  ·simp only[go_sem,c]
   refine Xq ?_ ?_
   ·simp only[go_sem,c]
   ·simp only[frA,AV.lt,qy,Jn,Jo,ZQ,yD,wj,if_true,Bool.and_self]
 ·rintro r h' ⟨rfl,b⟩
  refine⟨_,⟨rfl,b⟩,?_⟩
  cases z6 s
  ·exact .refl _
  ·refine .two (.ag ?_) (.refl _)
   exact WeakL.app ((jK s (frA s) (BX Kx) (BC Kx) nl).take 25) (.cons (.nil 27) (.refl []))
theorem qcb(h:List Ob)(l:List Ky)(y:AV)(f:SlOf h y 2 (l.map jl))(n:l.length<1099511627776):
  ACalls Tryz.prog 169 [KV l,y] h λr h'=>r=bl true/\h'=h:=by
 have b:=f.rows
 have j:=f.one
 refine zj Tryz.f169 [.tmp 4] 26 rfl rfl rfl rfl rfl rfl (by decide) (⟨_,_,⟨rfl,rfl⟩,.refl⟩) λB=>?_
 simp only[go_sem,b,j,zb,bne_self_eq_false]
 refine zO (by decide) (λm T h'=>h'=h/\∃k:Nat,k<=l.length/\T 0=KV l/\T 1=y/\T 5=i64 k/\m=l.length - k) l.length
  ⟨rfl,0,by omega,by simp only[go_sem],by simp only[go_sem],by(simp only[go_sem]<;>rfl),rfl⟩ ?_
 rintro m T h' ⟨rfl,k,o,t0,t1,t5,rfl⟩
 simp only[go_sem,t5,t0,zb]
 refine ways (λe=>?_) (λe=>?_)
 ·have a:=dlt e
  have c:=Zq jl a
  have d:=f.at (i:=k) (by simpa using a)
  have g:(k:Int)<l.length:=by omega
  simp only[go_sem]
  refine zQ rfl [] 0 [(0,0,[]),(1,0,[]),(4,0,[]),(5,0,[]),(2,0,[]),(3,0,[]),(6,0,[]),(7,0,[]),(8,0,[])] rfl (by decide) (by decide) ?_
  simp only[go_sem,t5,t0,t1,c,g,d,b,jl,zb,Int.toNat_natCast,zf,beq_self_eq_true,Bool.and_self,Bool.not_true,qv,bne_self_eq_false]
  exact⟨l.length - (k+1),by omega,k+1,by omega,qn (by omega) rfl,rfl⟩
 ·simp only[go_sem]
  refine zn ?_<;>(simp only[go_sem]<;>try rfl)
theorem W3a(h:List Ob)(ks:List (List Ky))(ys:List AV)(y:AV)(q:SlOf h y 1 (ys.map λv=>[v]))(t:ys.length=ks.length)(z:∀(i:Nat) (x:i<ks.length) (E:i<ys.length),SlOf h ys[i] 2 (ks[i].map jl))(A:∀l∈ks,l.length<1099511627776)(D:ks.length<1099511627776):
  ACalls Tryz.prog 87 [.sl 1 (ks.map kvr),y] h λr h'=>r=bl true/\h'=h:=by
 have g:=q.rows
 have p:=q.one
 refine zj Tryz.f87 [.tmp 4] 29 rfl rfl rfl rfl rfl rfl (by decide) (⟨_,_,⟨rfl,rfl⟩,.refl⟩) λB=>?_
 simp only[go_sem,g,p,t,zb,bne_self_eq_false]
 refine zO (by decide) (λm T h'=>h'=h/\∃k:Nat,k<=ks.length/\T 0= .sl 1 (ks.map kvr)/\T 1=y/\T 5=i64 k/\m=ks.length - k) ks.length
  ⟨rfl,0,by omega,by simp only[go_sem],by simp only[go_sem],by(simp only[go_sem]<;>rfl),rfl⟩ ?_
 rintro m T h' ⟨rfl,k,C,t0,t1,t5,rfl⟩
 simp only[go_sem,t5,t0,zb]
 refine ways (λe=>?_) (λe=>?_)
 ·have f:=dlt e
  have b:k<ys.length:=by omega
  have d:=Zq kvr f
  have a:=Zq (λv:AV=>[v]) b
  have s:=q.at (i:=k) (by simpa using b)
  have n:(k:Int)<ks.length:=by omega
  have c:=z k f b
  have j:=A _ (zx f)
  obtain⟨L,w⟩:∃L,L=ks[k]:=⟨_,rfl⟩
  obtain⟨v,u⟩:∃v,v=ys[k]:=⟨_,rfl⟩
  rw[<-w] at d c j
  rw[<-u] at a c
  have o:=c.one
  simp only[go_sem]
  refine zQ rfl [] 0 [(0,0,[]),(1,0,[]),(4,0,[]),(5,0,[]),(2,0,[]),(3,0,[]),(6,0,[]),(7,0,[]),(8,0,[]),(9,0,[])] rfl (by decide) (by decide) ?_
  simp only[go_sem,t5,t0,t1,d,a,t,n,s,g,o,kvr,zb,Int.toNat_natCast,zf]
  refine zh (qcb _ L v c j) ?_
  rintro _ x ⟨rfl,rfl⟩
  simp only[go_sem,t5]
  exact⟨ks.length - (k+1),by omega,k+1,by omega,t0,t1,qn (by omega) rfl,rfl⟩
 ·simp only[go_sem]
  refine zn ?_<;>(simp only[go_sem]<;>try rfl)
theorem W4a:SFit s3:=⟨by simp[Fit,s3],by simp[jq,Fit,s3],by simp[jq,Fit,s3],by simp[jq,Fit,s3],by simp[jq,Fit,s3],by simp[jq,Fit,s3],by simp[s3],by simp[s3],by simp[s3],by simp[s3],by simp[s3],by simp[s3]⟩
def H3(n:Nat):List Ob:=[.box 30 (qg s3 (a2 n)),.box 24 (jS (1,1)),.row 183 4 (s3.elements.map XM) 0,.row 24 2 (s3.classes.map jS) 0,.row 24 2 (s3.gears.map jS) 0,.row 3 1 (s3.rates.map qz) 0]
theorem pl3(h:List Ob):ACalls Tryz.prog 86 [] h λr h'=>r=jg s3 (a2 h.length)/\h'=h++H3 h.length:=by
 refine zj Tryz.f86 [.cell 0 30] 14 rfl rfl rfl rfl rfl rfl (by decide) (⟨_,_,⟨rfl,rfl⟩,resK_app⟩) λB=>?_
 simp only[go_sem]
 exact⟨jg s3 (a2 h.length),by(simp only[go_sem]<;>rfl),.inl ⟨rfl,rfl⟩⟩
theorem kdb(h:List Ob):SIn (h++H3 h.length) s3 (a2 h.length):=
 ⟨ZP,ZO (by rw[zG (k:=2) rfl];rfl),ZO (by rw[zG (k:=3) rfl];rfl),ZO (by rw[zG (k:=4) rfl];rfl),ZO (by rw[zG (k:=5) rfl];rfl),ZP⟩
theorem xi3:ChI s3 ⟨⟨[qla],[0]⟩,[rB3,rC3]⟩:=by
 have:=z5a l3 (z0a s3)
 rw[Jt] at this
 exact this
theorem xcb:∃(c RB a:RW) (b:List Int) (A:List An),ku s3 zZa l3=(⟨⟨[qla],[0]⟩,[RB,a]⟩,A,ks3)/\A.map wQ=[[i64 0,.sl 27 [je c],.sl 5 [],.sl 1 []],[i64 0,.sl 27 [je c],.sl 5 [],.sl 1 []],wQ (wt 0),[i64 0,.sl 27 [je RB],.sl 5 [],.sl 1 []],wQ (wt 0),[i64 0,.sl 27 [je RB,je a],.sl 5 [],.sl 1 (b.map xA)]]/\RB.1.total=1500/\a.1.worker=1/\QU [RB,a] (1,0)=a/\isH [RB,a] (1,0)=true/\isH [RB,a] (1,1)=false/\ChI s3 ⟨⟨[qla],[0]⟩,[RB,a]⟩:=
 ⟨rA3,rB3,rC3,j1b,an3,Jt,rfl,zXb,j2b,x7b,is3,x8b,xi3⟩
theorem ChI.len3{s:Setup}{x:Ch}(i:ChI s x)(a:s.rates.length<4096):x.rows.length<300000:=by
 have:=i.len
 have:s.rates.length*53<=4096*53:=Nat.mul_le_mul_right _ (by omega)
 omega
theorem YDa{s:Setup}(f:SFit s)(a:s.rates.length<4096){x:Ch}(i:ChI s x)(h:List Ob)(k:Ky):ACalls Tryz.prog 38 [CV s x,.ag (jl k)] h λr h'=>r= .tup [.ag (je (QU x.rows k)),bl (isH x.rows k)]/\h'=h:=
 KGa h s (frA s) (frM s h) (BX x.bk) (BC x.bk) (RX x) rfl rfl x.rows k ⟨rfl,λ_=>rfl⟩ i.srt (by have:=i.len3 a;omega) (i.fl f)
set_option maxHeartbeats 4000000 in
theorem kib:xy Tryz.prog 31 [] (bl true):=λh=>by
 refine zj Tryz.f31 [.tmp 0] 131 rfl rfl rfl rfl rfl rfl (by decide) (⟨_,_,⟨rfl,rfl⟩,.refl⟩) λB=>?_
 simp only[go_sem]
 refine zh (pl3 _) ?_
 rintro _ g ⟨rfl,r⟩
 have k:=kdb h
 rw[<-r] at k
 have p:Pre h g:=⟨_,r,λo c=>by
  simp only[H3,zy,List.not_mem_nil,or_false] at c
  rcases c with rfl|rfl|rfl|rfl|rfl|rfl<;>rfl⟩
 have C:∀M,SIn (g++M) s3 (a2 h.length):=λM=>k.app M
 simp only[go_sem]
 refine zh (YCa _ s3 (a2 h.length) k W4a) ?_
 rintro _ b ⟨rfl,a⟩
 rw[a,if_pos ok3,if_pos ok3]
 clear a b
 have c:=(Jm (h:=h) s3).ones
 obtain⟨z,RB,w,x,A,n,f,d,e,m,q,j,s⟩:=xcb
 simp only[go_sem,c]
 refine zh (xbb _ s3 W4a ok3 zZa (z0a s3) _ l3 (ZO (ty:=79) (st:=0) (by rw[zG (k:=3) rfl];rfl)) (by decide) (by decide)) ?_
 rintro _ b ⟨rfl,a⟩
 rw[a,n,f]
 clear a b
 simp only[go_sem,c]
 refine zh (YCa _ zS zA (x5b _) x6b) ?_
 rintro _ b ⟨rfl,a⟩
 rw[a,okz]
 clear a b
 simp only[go_sem,c,W2a,zA,jF]
 refine zh (YDa W4a (by decide) s _ (1,0)) ?_
 rintro _ b ⟨rfl,a⟩
 rw[a,show isH _ _=true from q,show QU _ _=w from m]
 clear a b
 simp only[go_sem,c,je,vf,List.cons_append,List.nil_append]
 refine zh (YDa W4a (by decide) s _ (1,1)) ?_
 rintro _ b ⟨rfl,a⟩
 rw[a,show isH _ _=false from j]
 clear a b
 simp only[go_sem,c,je,vf,List.cons_append,List.nil_append,wQ,wt,List.map_nil,List.map_cons,d,e,bne_self_eq_false,beq_self_eq_true,qv,Bool.not_false,Bool.not_true]
 rw[show(((List.map kvr ks3).length:Int) != 6)=false from rfl]
 simp only[go_sem,c,je,vf,List.cons_append,List.nil_append,wQ,wt,List.map_nil,List.map_cons,d,e,bne_self_eq_false,beq_self_eq_true,qv,Bool.not_false,Bool.not_true]
 refine zh (W3a _ ks3 [.tl (g.length+7) 0,nl,.tl (g.length+7) 0,nl,nl,.tl (g.length+8) 0] _ (ZO (ty:=92) (st:=0) (by rw[zG (k:=9) rfl];rfl)) rfl (λi t y=>?_) (λl u=>?_) (by decide)) ?_
 ·have t:i<6:=t
  match i with
  | 0=>exact ZO (ty:=90) (st:=0) (by rw[zG (k:=7) rfl];rfl)
  | 1=>exact ZP
  | 2=>exact ZO (ty:=90) (st:=0) (by rw[zG (k:=7) rfl];rfl)
  | 3=>exact ZP
  | 4=>exact ZP
  | 5=>exact ZO (ty:=90) (st:=0) (by rw[zG (k:=8) rfl];rfl)
 ·simp only[ks3,zy,List.not_mem_nil,or_false] at u
  rcases u with rfl|rfl|rfl|rfl|rfl|rfl<;>decide
 rintro _ b ⟨rfl,a⟩
 rw[a]
 clear a b
 simp only[go_sem,c,je,vf,List.cons_append,List.nil_append,List.map_nil,List.map_cons,d,e,bne_self_eq_false,beq_self_eq_true,qv,Bool.not_false,Bool.not_true]
 obtain⟨L,v,_⟩:=p
 rw[v,zr]
 refine zn ?_<;>(simp only[go_sem]<;>try rfl)
theorem keb(h:List Ob)(s:Setup)(a:SA)(k:SIn h s a)(x:AV)(l:List Cm)(f:SlOf h x 16 (l.map ZT)):ACalls Tryz.prog 33 [jg s a,x] h λr h'=>r=bl (jYa s && decide (l.length<=40))/\h'=h:=by
 refine zj Tryz.f33 [.tmp 4] 12 rfl rfl rfl rfl rfl rfl (by decide) (⟨_,_,⟨rfl,rfl⟩,.refl⟩) λB=>?_
 simp only[go_sem,k.w.one,k.e.one,k.c.one,k.g.one,k.r.one,k.t.one]
 refine zh (c25 _ s a (k.app _)) ?_
 rintro _ m ⟨rfl,i⟩
 subst i
 have j:∀M,qc (h++M) x=_:=λM=>(f.app M).rows
 have d:decide ((l.length:Int)<=40)=decide (l.length<=40):=decide_eq_decide.2 (by omega)
 cases b:jYa s with
 | false=>
   simp only[go_sem,b,qv]
   refine zn ?_<;>(simp only[go_sem,b,Bool.false_and]<;>try rfl)
 | true=>
   simp only[go_sem,b,qv,j,zb,d]
   refine zn ?_<;>(simp only[go_sem,b,Bool.true_and]<;>try rfl)
def eqK(z k:Ky):Bool:=z.1==k.1 && z.2==k.2
theorem W5a{l:List Ky}{k:Ky}(h:k∈l):(l.any λz=>eqK z k)=true:=by
 rw[List.any_eq_true]
 exact⟨k,h,by simp[eqK]⟩
theorem xdb{α:Type}(p:α->Bool){l:List α}{n:Nat}(h:n<l.length):(l.take (n+1)).any p=((l.take n).any p || p l[n]):=by
 rw[<-zE h,List.any_append]
 simp
theorem KeysOk.few{s:Setup}{x:Ch}{q:Cm}{y:Ch}{w:An}{new:List Ky}(k:KeysOk s x q y w new)(a:z6 s=true):new.length<=y.rows.length+4:=by
 by_cases b:q.kind=1∨q.kind=2
 ·have:=k.four a b
  omega
 ·have c:=k.len
  rw[List.filter_eq_self.2 λz d=>by rw[(k.ask b z d).1];rfl] at c
  omega
theorem xeb{q:Cm}(h:(q.kind==1)=true):wy q=⟨1,q.fx.ev⟩:=by
 unfold wy
 rw[if_pos (by simpa using h)]
theorem xfb{q:Cm}(h:(q.kind==1)=false):wy q=q.fx:=by
 unfold wy
 rw[if_neg (by simpa using h)]
theorem kfb(k:Int):((k==1)=true/\(k==2)=false)∨((k==1)=false/\(k==2)=true)∨((k==1)=false/\(k==2)=false):=by
 by_cases h:k=1
 ·subst h
  exact .inl ⟨rfl,rfl⟩
 ·by_cases g:k=2
  ·subst g
   exact .inr (.inl ⟨rfl,rfl⟩)
  ·exact .inr (.inr ⟨beq_eq_false_iff_ne.2 h,beq_eq_false_iff_ne.2 g⟩)
structure LpC (h H:List Ob) (s:Setup) (a:SA) (x:Ch):Prop where
 pre:Pre h H
 st:H[h.length]? =some (.box 30 (qg s a))
 ch:H[h.length+1]? =some (Qo s x)
theorem LpC.app{h H M:List Ob}{s:Setup}{a:SA}{x:Ch}(k:LpC h H s a x)(b:NoRes M):LpC h (H++M) s a x:=⟨k.pre.app b,ze k.st,ze k.ch⟩
theorem LpC.pres{h H b:List Ob}{s:Setup}{a:SA}{x:Ch}(k:LpC h H s a x)(p:Pre H b):LpC h b s a x:=⟨k.pre.trans p,p.get k.st,p.get k.ch⟩
theorem LpC.put{h H:List Ob}{s:Setup}{a:SA}{x:Ch}(k:LpC h H s a x)(y:Ch):LpC h (H.set (h.length+1) (Qo s y)) s a y:=
 ⟨k.pre.set (by omega) rfl,by rw[zc (by omega)];exact k.st,zm k.ch⟩
theorem xgb{l:List Ky}{k:Ky}(h:(l.any λz=>eqK z k)=false):k∉l:=λa=>by rw[W5a a] at h;cases h
theorem YEa{α:Type}(p:α->Bool){l:List α}{n:Nat}(h:n<l.length):((l.take (n+1)).filter p).length=((l.take n).filter p).length+if p l[n] then 1 else 0:=by
 rw[<-zE h,qo,zg]
 cases a:p l[n]<;>simp[a]
