/-
  Joined.
-/
import Derived.Test.YtfmldcilgbbimaaGreatK35
import Derived.Lib.AppendZerosOnto
import Derived.Lib.Walk
import Derived.Lib.SliceRun
import Derived.Lib.Hide
import Derived.Test.YtfmldcilgbbimaaGreatK31
import Derived.Test.YtfmldcilgbbimaaGreatK23
import Derived.Test.YtfmldcilgbbimaaGreatK34
set_option linter.unusedSimpArgs false
set_option linter.unusedVariables false
namespace Go.Proofs.YtfmldcilgbbimaaGreat.Ax
open Go Go.Proofs Go.RowKit
set_option maxRecDepth 100000
attribute [go_sem] XOa Kba V9a Waa VEa XAa VFa VGa VHa VIa VJa VKa XBa XCa XDa XEa XFa XGa VLa VMa VNa VOa VPa VQa VRa VSa ypa yqa XHa VTa VUa VVa VWa XIa VXa VYa Yna yra VZa V0a V1a XJa XKa QNa V2a V3a ysa XLa QOa QPa V4a yoa vHa V5a QQa V6a XMa V7a XNa ty3 Vya V8a QRa Yoa Ypa Kaa ty4 Yqa Vza Yra ty5 VAa VBa Ysa Yta Yua Yva QSa Ywa Yxa Yya Yza VCa ty9 VDa YAa
theorem YK (z:Array Value) (k:Nat):(Builtin.zeroCells z k).size=k*z.size:=by
 simp[Builtin.zeroCells]
theorem Jva:∃i z,Tryz.prog.info? 134=some i/\i.zero=some z/\i.size=2/\i.bytes=16/\z.cells.size=2:=by
 have h:(Tryz.prog.info? 134).map (λi=>(i.zero,i.size,i.bytes))=some (some (.agg #[.int .i64 0,.int .i64 0]),2,16):=by kernel_rfl
 cases a:Tryz.prog.info? 134 with
 | none=>rw[a] at h;cases h
 | some i=>
   rw[a] at h
   injection h with h
   injection h with h1 h2
   injection h2 with h2 h3
   exact ⟨i,_,rfl,h1,h2,h3,rfl⟩
set_option maxHeartbeats 1000000 in
theorem ZAa (n:Nat) (w:World) (u:n<=1000000000000):Calls Tryz.prog 223 #[.slice none 0 0,.int .i64 (n:Int)] w λe w'=>∃v,e= .returned v/\Below w.heap.size w w'/\w'.ownsRow w.heap.size 134 2 v 0 []/\∀b,v.ownBlock=some b->w.heap.size<=b:=by
 by_cases h0:n=0
 ·subst h0
  go_enter Tryz.func223,Tryz.ntmps223
  go_wp2
  go_ret
  exact ⟨_,rfl,Below.refl _ _,World.ownsRow_nil _ _ _ _,λb c=>by cases c⟩
 ·obtain ⟨i,z,m,l,t,c,g⟩:=Jva
  have d:∀ty,(Builtin.append_ #[55,3] ty #[.slice none 0 0,.int .i64 (n:Int)]).run Tryz.prog w=
    .ok (.slice (some ⟨w.heap.size,0,none⟩) n (grownCap w n 0 134)) (w.drew.alloc (.cells (#[]++Builtin.zeroCells z.cells n++Builtin.zeroCells z.cells (grownCap w n 0 134 - n)) 134)):=λty=>by
   have h:=Lib.run_append_grow_zeros w 55 3 ty 134 i z .i64 .i64 Tryz.underlying55 Tryz.underlying3 m l none 0 0 [] (run_firstCells_none w.drew i.size 0 0 0) n (by omega) (by omega) (by omega) (by omega)
    (by rw[c];omega) (by rw[Nat.zero_add];exact growslice_fits (by omega) (by rw[c];omega))
   rw[Nat.zero_add] at h
   exact h
  have k:n<=grownCap w n 0 134:=grownCap_ge w _ _ _
  have a:=grownCap_le_maxLen w n 0 134 (by unfold maxLen;omega)
  obtain ⟨G,p⟩:∃G,G=grownCap w n 0 134:=⟨_,rfl⟩
  rw[<-p] at d k a
  obtain ⟨cs,f⟩:∃cs,cs=(#[]++Builtin.zeroCells z.cells n++Builtin.zeroCells z.cells (G - n):Array Value):=⟨_,rfl⟩
  rw[<-f] at d
  have j:cs.size=G*2:=by rw[f];simp only[Array.size_append,YK,g];simp;omega
  have o:G<=9223372036854775807:=by unfold maxLen at a;omega
  have q:(0:Int)<(n:Int):=by omega
  have s:=Lib.hid (show (w.drew.alloc (.cells cs 134)).ownsRow w.heap.size 134 2 (.slice (some ⟨w.heap.size,0,none⟩) 0 G) 0 [] from
   ⟨rfl,.inr ⟨w.heap.size,G,cs,rfl,Nat.le_refl _,heap_alloc_new w.drew _,Nat.zero_le _,a,j,by simp⟩⟩)
  have r:=Lib.hid (show Below w.heap.size w (w.drew.alloc (.cells cs 134)) from (show Below w.heap.size w w.drew from ⟨rfl,rfl,rfl,Nat.le_refl _,λ_ _=>rfl⟩).alloc (Nat.le_refl _) _)
  clear p f t c l m j a g
  go_enter Tryz.func223,Tryz.ntmps223
  go_wp2_with (at_builtin;refine Lib.wpList_append_run _ rfl _ _ _ _ rfl _ _ rfl rfl _ _ (d _) ?_)
  go_ret
  exact ⟨_,rfl,r.out,s.out,λb c=>by injection c with c;subst c;exact Nat.le_refl _⟩
theorem Wxa (h:List Ob) (n:Nat) (u:n<=1000000000000):ACalls Tryz.prog 223 [.v (.slice none 0 0),i64 n] h λr h'=>r= .tl h.length 0/\h'=h++[.row 134 2 [] 0]:=by
 refine ⟨rfl,⟨_,_,⟨rfl,rfl⟩,zR⟩,λφ k B w g vs z hB a=>?_⟩
 obtain ⟨t,A,rfl,b,j,p,rfl,c,d⟩:=a
 have b:t= .slice none 0 0:=b
 have c:j= .int .i64 (n:Int):=c
 have d:p=[]:=d
 subst b c d
 refine (ZAa n w u).mono λe w' ⟨v,m,o,i,s⟩=>?_
 obtain ⟨k1,k2⟩:=ZW z hB (ty:=134) (e:=2) (by decide) (xs:=[]) (λx l=>by cases l) 0 o ⟨i.1,i.2.imp id λ⟨g,cap,cur,q,y,r⟩=>⟨g,cap,cur,q,Nat.le_trans hB y,r⟩⟩ rfl s
 rw[qm] at k1 k2
 have f:fill φ (h++[.row 134 2 [] 0])=fill φ h++[.row 134 2 [] 0]:=qR k
 rw[<-f] at k1 k2
 exact ⟨v,_,_,_,m,⟨rfl,rfl⟩,zR,k1,k2⟩
theorem zIa (l:List Spn):((l.map zH).all λr=>r.length==2 && r.all AV.one)=true:=by
 rw[List.all_eq_true]
 intro r a
 obtain ⟨s,_,rfl⟩:=List.mem_map.1 a
 rfl
def ww (xs:List (AV × List Spn)):List Spn:=xs.flatMap (·.2)
theorem YL {xs:List (AV × List Spn)} {k:Nat} (h:k<xs.length):ww (xs.take (k+1))=ww (xs.take k)++xs[k].2:=by
 unfold ww
 rw[<-List.take_append_getElem h,List.flatMap_append];simp
theorem k5a (xs:List (AV × List Spn)) (k:Nat):(ww (xs.take k)).length<=(ww xs).length:=by
 conv=>rhs;rw[<-List.take_append_drop k xs]
 simp only[ww,List.flatMap_append,List.length_append]
 omega
theorem ZBa (h:List Ob) (p:AV) (xs:List (AV × List Spn)) (y:SlOf h p 1 (xs.map λq=>[q.1])) (G:∀q∈xs,SlOf h q.1 2 (q.2.map zH)) (K:xs.length<1048576) (M:(ww xs).length<1073741824):
  ACalls Tryz.prog 170 [p] h λr h'=>∃L,h'=h++L/\NoRes L/\New h 2 r ((ww xs).map zH) L:=by
 have hex:∃r h',(∃L,h'=h++L/\NoRes L/\New h 2 r ((ww xs).map zH) L)/\ResK h h':=
  ⟨.sl 2 _,_,⟨[],rfl,qh,λ_ _=>⟨rfl,λ_=>rfl⟩⟩,zR⟩
 have z:=y.rows
 refine zf Tryz.f170 [.tmp 2] 36 rfl rfl rfl rfl rfl rfl (by decide) (hex) λB=>?_
 simp only[go_sem,z,List.length_map]
 refine zj (by decide) (λm T h'=>∃i:Nat,i<=xs.length/\h'=h/\T 0=p/\T 3=i64 (ww (xs.take i)).length/\T 9=p/\T 10=i64 xs.length/\T 11=i64 i/\m=xs.length - i) xs.length
  ⟨0,by omega,rfl,by simp only[go_sem],by (simp only[go_sem]<;>rfl),by simp only[go_sem],by (simp only[go_sem]<;>rfl),by (simp only[go_sem]<;>rfl),rfl⟩ ?_
 rintro m T h' ⟨i,J,rfl,t0,t3,t9,t10,d,rfl⟩
 simp only[go_sem,t10,d]
 refine ways (λe=>?_) (λe=>?_)
 ·have b:=dlt e
  have c:(xs.map λq=>[q.1])[i]? =some [xs[i].1]:=by rw[List.getElem?_map,List.getElem?_eq_getElem b];rfl
  have l:(i:Int)<xs.length:=by omega
  have o:=G _ (List.getElem_mem b)
  have a:=YL b
  have k:=k5a xs (i+1)
  obtain ⟨q,g⟩:∃q,q=xs[i]:=⟨_,rfl⟩
  rw[<-g] at c o a
  have f:=o.rows
  have j:=y.at (i:=i) (by rw[List.length_map];exact b)
  have t:=o.cells
  rw[a,List.length_append] at k
  have H:IntKind.wrap .i64 (((ww (xs.take i)).length:Int)+(q.2.length:Int))=((ww (xs.take (i+1))).length:Int):=by
   rw[a,List.length_append]
   exact (zI (n:=((ww (xs.take i)).length:Int)+(q.2.length:Int)) (by unfold Fit;omega)).trans (by omega)
  simp only[go_sem,t3,t9,d,j,c,z,l,t,f,H,List.length_map,Int.toNat_natCast,Int.natCast_nonneg]
  have I:decide (((ww (xs.take (i+1))).length:Int)<0)=false:=by rw[decide_eq_false_iff_not];omega
  simp only[go_sem,I,d]
  exact ⟨xs.length - (i+1),by omega,i+1,by omega,t0,rfl,t9,t10,zx (by omega) rfl,rfl⟩
 ·have F:=qU e
  have u:i=xs.length:=by omega
  subst u
  rw[List.take_length] at t3
  simp only[go_sem,t3]
  refine zc (Wxa _ (ww xs).length (by omega)) ?_
  rintro _ E ⟨rfl,rfl⟩
  have C:=(y.app [.row 134 2 [] 0]).rows
  simp only[go_sem,t0,C,List.length_map]
  refine zj (by decide) (λm T E=>∃(i st:Nat),i<=xs.length/\E=h'++[.row 134 2 ((ww (xs.take i)).map zH) st]/\T 6= .tl h'.length st/\T 25=p/\T 26=i64 xs.length/\T 27=i64 i/\m=xs.length - i) xs.length
   ⟨0,0,by omega,rfl,by simp only[go_sem],by simp only[go_sem],by (simp only[go_sem]<;>rfl),by (simp only[go_sem]<;>rfl),rfl⟩ ?_
  clear t0 t9 t10 t3 d
  rintro m T E ⟨i,st,J,rfl,t6,t25,w,v,rfl⟩
  simp only[go_sem,w,v]
  refine ways (λe=>?_) (λe=>?_)
  ·have b:=dlt e
   have c:(xs.map λq=>[q.1])[i]? =some [xs[i].1]:=by rw[List.getElem?_map,List.getElem?_eq_getElem b];rfl
   have l:(i:Int)<xs.length:=by omega
   have o:=G _ (List.getElem_mem b)
   have a:=YL b
   have k:=k5a xs (i+1)
   obtain ⟨q,g⟩:∃q,q=xs[i]:=⟨_,rfl⟩
   rw[<-g] at c o a
   have A:=(y.app [.row 134 2 ((ww (xs.take i)).map zH) st]).rows
   have f:=(o.app [.row 134 2 ((ww (xs.take i)).map zH) st]).rows
   have t:=o.cells
   have j:=(y.app [.row 134 2 ((ww (xs.take i)).map zH) st]).at (i:=i) (by rw[List.length_map];exact b)
   have x:=zIa q.2
   rw[a,List.length_append] at k
   have D:((ww (xs.take i)).length+q.2.length)*17<=140737488355328:=by omega
   have s:(h'++[.row 134 2 ((ww (xs.take i)).map zH) st])[h'.length]? =some (.row 134 2 ((ww (xs.take i)).map zH) st):=by rw[zo rfl];rfl
   simp only[go_sem,t6,t25,v,j,x,c,A,l,t,f,D,s,List.length_map,Int.toNat_natCast,Int.natCast_nonneg]
   exact ⟨xs.length - (i+1),by omega,i+1,st+1,by omega,by rw[a,List.map_append],rfl,w,zx (by omega) rfl,rfl⟩
  ·have F:=qU e
   have u:i=xs.length:=by omega
   subst u
   simp only[go_sem,t6]
   exact ⟨_,rfl,.inl ⟨_,rfl,zi rfl,OwnS.new (h0:=h') (ty:=134) (.inr ⟨h'.length,st,Nat.le_refl _,rfl,by rw[List.take_length,zo rfl];rfl⟩) (Nat.le_refl _)⟩⟩
end Go.Proofs.YtfmldcilgbbimaaGreat.Ax
namespace Go.Proofs.YtfmldcilgbbimaaGreat.Ax
open Go Go.Proofs
set_option maxRecDepth 100000
theorem SIn.ones {h:List Ob} {s:Setup} {a:SA} (k:SIn h s a):AV.one a.w=true/\AV.one a.e=true/\AV.one a.c=true/\AV.one a.g=true/\AV.one a.r=true/\AV.one a.t=true:=⟨k.w.one,k.e.one,k.c.one,k.g.one,k.r.one,k.t.one⟩
structure Times (s:Setup):Prop where
 unit:1<=s.unit/\s.unit<=3600
 cap:60<=s.cap/\s.cap<=57600
 paidBreak:0<=s.paidBreak/\s.paidBreak<=86400
 autoAfter:0<=s.autoAfter/\s.autoAfter<=86400
 autoBreak:0<=s.autoBreak/\s.autoBreak<=86400
 nightFrom:0<=s.nightFrom/\s.nightFrom<=86400
 nightTo:0<=s.nightTo/\s.nightTo<=86400
 dayOver:0<=s.dayOver/\s.dayOver<=86400
 dayReg:0<=s.dayReg/\s.dayReg<=s.dayOver
 weekReg:0<=s.weekReg/\s.weekReg<=604800
theorem XZ {s:Setup} (h:zw s=true):Times s:=by
 have h0:=qO h
 simp only[zw,kZ,Bool.and_eq_true] at h
 have a:=h.1.2.1.1.2
 exact ⟨h0.1,h0.2,wS a (by simp),wS a (by simp),wS a (by simp),wS a (by simp),wS a (by simp),wS a (by simp),Qa h.1.2.1.2,Qa h.1.2.2⟩
def JA (s:Setup):List Spn:=if s.nightTo<s.nightFrom then [⟨0,s.nightTo⟩,⟨s.nightFrom,86400⟩] else [⟨s.nightFrom,s.nightTo⟩]
theorem JCa {s:Setup} (t:Times s) {w:Spn} (h:w∈JA s):(0<=w.from_/\w.from_<=86400)/\0<=w.to_/\w.to_<=86400:=by
 have a:=t.nightFrom
 have b:=t.nightTo
 unfold JA at h
 split at h
 ·rcases List.mem_cons.1 h with rfl | h
  ·simp only;omega
  ·rw[List.mem_singleton] at h;subst h;simp only;omega
 ·rw[List.mem_singleton] at h;subst h;simp only;omega
theorem jda (s:Setup):(JA s).length<=2:=by unfold JA;split<;>simp
theorem ZLa (h:List Ob) (s:Setup) (a:SA) (k:SIn h s a):
  ACalls Tryz.prog 173 [z6 s a] h λr h'=>r=spv (JA s)/\h'=h:=qK (by decide) (Zr _) <| by
 have hex:∃r h',(∃L,h'=h++L/\NoRes L/\New h 2 r ((JA s).map zH) L)/\ResK h h':=
  ⟨.sl 2 _,_,⟨[],rfl,qh,λ_ _=>⟨rfl,λ_=>rfl⟩⟩,zR⟩
 refine zf Tryz.f173 [.tmp 2] 21 rfl rfl rfl rfl rfl rfl (by decide) (hex) λB=>?_
 simp only[go_sem,k.ones]
 refine ways (λe=>?_) (λe=>?_)
 ·have b:JA s=[⟨0,s.nightTo⟩,⟨s.nightFrom,86400⟩]:=by unfold JA;rw[if_pos (of_decide_eq_true e)]
  rw[b]
  simp only[go_sem,k.ones]
  exact Xk (ty:=134) (x:= .tl (h.length+1) 0) (by simp only[go_sem]) ⟨_,rfl,zg rfl (zi rfl)⟩ (.inr ⟨_,_,by omega,rfl,by rw[zm (k:=1) rfl];rfl⟩)
 ·have b:JA s=[⟨s.nightFrom,s.nightTo⟩]:=by unfold JA;rw[if_neg (of_decide_eq_false e)]
  rw[b]
  simp only[go_sem,k.ones]
  exact Xk (ty:=134) (x:= .tl (h.length+1) 0) (by simp only[go_sem]) ⟨_,rfl,zg rfl (zi rfl)⟩ (.inr ⟨_,_,by omega,rfl,by rw[zm (k:=1) rfl];rfl⟩)
def Qo (s:Setup) (d:Int):List Spn:=((JA s).filter λw=>decide (w.from_<w.to_)).map λw=>⟨d*86400+w.from_,d*86400+w.to_⟩
def wT (d:Int) (o:List Spn) (w:Spn):List Spn:=if w.from_<w.to_ then o++[⟨d*86400+w.from_,d*86400+w.to_⟩] else o
theorem KE (d:Int):∀(l o:List Spn),l.foldl (wT d) o=o++(l.filter λw=>decide (w.from_<w.to_)).map λw=>⟨d*86400+w.from_,d*86400+w.to_⟩
 | [],o=>by simp
 | w::l,o=>by
   rw[List.foldl_cons,KE d l,List.filter_cons]
   unfold wT
   by_cases h:w.from_<w.to_<;>simp[h]
theorem JDa (F:List (Nat × Ob)) (h0 h:List Ob) (b:List Spn) (i j:Nat) (s:Setup) (a:SA) (k:LIn F h0 h i 55 134 2 (b.map zH)) (ks:SIn h s a) (t:Times s) (Z:(j,Ob.box 30 (zr s a))∈F) (hl:b.length<1099511627776) (d:Int) (hd:0<=d/\d<371):
  ACalls Tryz.prog 172 [i64 d,.ptr j 0,.ptr i 0] h λr h'=>r= .tup []/\LIn F h0 h' i 55 134 2 ((b++Qo s d).map zH):=by
 have hex:∃r h',(r=AV.tup []/\LIn F h0 h' i 55 134 2 ((b++Qo s d).map zH))/\ResK h h':=by
  obtain ⟨h',X,Y⟩:=k.any ((b++Qo s d).map zH)
  exact ⟨_,h',⟨rfl,X⟩,Y⟩
 have O:h[j]? =some (.box 30 (zr s a)):=k.keep Z
 refine zf Tryz.f172 [] 33 rfl rfl rfl rfl rfl rfl (by decide) (hex) λB=>?_
 simp only[go_sem,O,ks.ones]
 refine zc (ZLa _ s a ks) ?_
 rintro _ h4 ⟨rfl,rfl⟩
 have D:b++Qo s d=((JA s).take (JA s).length).foldl (wT d) b:=by rw[List.take_length,KE];rfl
 rw[D]
 have I:=jda s
 have g:= @JCa s t
 obtain ⟨v,hv⟩:∃v,v=JA s:=⟨_,rfl⟩
 rw[<-hv] at I g⊢
 obtain ⟨W,V⟩:∃W,W=(v.take v.length).foldl (wT d) b:=⟨_,rfl⟩
 rw[<-V]
 simp only[go_sem,List.length_map]
 refine zj (by decide) (λm T h'=>∃(n:Nat) (o:List Spn),n<=v.length/\o=(v.take n).foldl (wT d) b/\o.length<=b.length+n/\LIn F h0 h' i 55 134 2 (o.map zH)/\T 0=i64 d/\T 2= .ptr i 0/\T 7=spv v/\T 8=i64 v.length/\T 9=i64 n/\m=v.length - n) v.length
  ⟨0,b,by omega,rfl,by omega,k,by simp only[go_sem],by simp only[go_sem],by simp only[go_sem],by (simp only[go_sem]<;>rfl),by (simp only[go_sem]<;>rfl),rfl⟩ ?_
 rintro m T h' ⟨n,o,hn,H,γ,k',t0,t2,E,t8,t9,rfl⟩
 simp only[go_sem,t8,t9]
 refine ways (λe=>?_) (λe=>?_)
 ·have l:=dlt e
  have f:=Zs l
  have K:(n:Int)<v.length:=by omega
  have hb:=g (List.getElem_mem l)
  have c:(v.take (n+1)).foldl (wT d) b=wT d o v[n]:=by rw[<-List.take_append_getElem l,List.foldl_append, <-H];rfl
  obtain ⟨z,hz⟩:∃z,z=v[n]:=⟨_,rfl⟩
  rw[<-hz] at f c hb
  have Q:IntKind.wrap .i64 (d*86400)=d*86400:=zI (n:=d*86400) (by unfold Fit;omega)
  have S:IntKind.wrap .i64 (d*86400+z.from_)=d*86400+z.from_:=zI (n:=d*86400+z.from_) (by unfold Fit;omega)
  have R:IntKind.wrap .i64 (d*86400+z.to_)=d*86400+z.to_:=zI (n:=d*86400+z.to_) (by unfold Fit;omega)
  simp only[go_sem,E,t9,f,K,List.length_map,Int.toNat_natCast,Int.natCast_nonneg]
  refine ways (λp=>?_) (λp=>?_)
  ·have p:=of_decide_eq_true p
   have w:wT d o z=o++[⟨d*86400+z.from_,d*86400+z.to_⟩]:=by unfold wT;rw[if_pos p]
   obtain ⟨x,U,J⟩:=k'.at_
   have u:∀M,(h'++M)[i]? =some (.box 55 [x]):=λM=>zb U
   have C:(o.length+1)*17<=140737488355328:=by omega
   rcases J with ⟨rfl,A⟩ | ⟨id,st,u1,rfl,G⟩
   ·simp only[go_sem,t0,t2,t9,u,Q,S,R]
    refine ⟨v.length - (n+1),by omega,n+1,_,by omega,c.symm,by rw[w];simp;omega,?_,E,t8,zx (by omega) rfl,rfl⟩
    rw[w,List.map_append,A]
    exact k'.push_nil (zg rfl (zg rfl (zi rfl))) (by omega) (by rw[zm (k:=2) rfl];rfl)
   ·have N:∀M,(h'++M)[id]? =some (.row 134 2 (o.map zH) st):=λM=>zb G
    have L:id≠i:=λq=>by rw[q,U] at G;cases G
    have y:∀M o',((h'++M).set id o')[i]? =some (.box 55 [.tl id st]):=λM o'=>by
     rw[List.getElem?_set_ne L];exact u M
    simp only[go_sem,t0,t2,t9,u,N,y,C,Q,S,R,List.length_map]
    refine ⟨v.length - (n+1),by omega,n+1,_,by omega,c.symm,by rw[w];simp;omega,?_,E,t8,zx (by omega) rfl,rfl⟩
    rw[w,List.map_append]
    exact k'.push_own (zg rfl (zi rfl)) u1 G
  ·have p:=of_decide_eq_false p
   have w:wT d o z=o:=by unfold wT;rw[if_neg p]
   simp only[go_sem,t9]
   exact ⟨v.length - (n+1),by omega,n+1,_,by omega,c.symm,by rw[w];omega,by rw[w];exact k'.app (zi rfl),t0,t2,E,t8,zx (by omega) rfl,rfl⟩
 ·have ζ:=qU e
  have P:n=v.length:=by omega
  subst P
  rw[<-V] at H
  subst H
  simp only[go_sem]
  exact ⟨_,rfl,.inl ⟨rfl,k'⟩⟩
theorem ZMa {o:List Int} {d:Int} (f:o.Pairwise (· < ·)) (h:∀x∈o,0<=x/\x<371) (g:0<=d/\d<371):(Zt o d).Pairwise (· < ·)/\∀x∈Zt o d,0<=x/\x<371:=by
 unfold Zt
 cases j:o.getLast? with
 | none=>
   refine ⟨by simp,λx c=>?_⟩
   have c:x=d:=by simpa using c
   subst c;exact g
 | some z=>
   simp only
   split
   ·rename_i l
    obtain ⟨q,rfl⟩:∃q,o=q++[z]:=by
     obtain ⟨q,k⟩:=List.getLast?_eq_some_iff.1 j
     exact ⟨q,k⟩
    refine ⟨?_,λx c=>?_⟩
    ·rw[List.pairwise_append]
     refine ⟨f,by simp,λa e b i=>?_⟩
     rw[List.mem_singleton] at i
     subst i
     rw[List.pairwise_append] at f
     rcases List.mem_append.1 e with e | e
     ·have:=f.2.2 a e z (by simp);omega
     ·rw[List.mem_singleton] at e;omega
    ·rcases List.mem_append.1 c with c | c
     ·exact h x c
     ·rw[List.mem_singleton] at c;subst c;exact g
   ·exact ⟨f,h⟩
theorem jea {o:List Int} {a:Int} (b:o.Pairwise (· < ·)) (c:∀x∈o,0<=x/\x<371) (d:0<=a):∀k:Nat,a+k<=371->(Jy o a k).Pairwise (· < ·)/\∀x∈Jy o a k,0<=x/\x<371
 | 0,_=>⟨b,c⟩
 | k+1,h=>by
   obtain ⟨f,e⟩:=jea b c d k (by omega)
   exact ZMa f e (by omega)
theorem xz (l:List Spn):(zQ l).Pairwise (· < ·)/\∀x∈zQ l,0<=x/\x<371:=by
 have key:∀(v:List Spn) (o:List Int),o.Pairwise (· < ·)->(∀x∈o,0<=x/\x<371)->(v.foldl jR o).Pairwise (· < ·)/\∀x∈v.foldl jR o,0<=x/\x<371:=λv=>by
  induction v with
  | nil=>exact λo b a=>⟨b,a⟩
  | cons s v c=>
    intro o b a
    rw[List.foldl_cons]
    have d:=vv s.from_
    have e:=vv (s.to_ - 1)
    have:=jea b a d.1 (qL (s.to_ - 1) - qL s.from_+1).toNat (by omega)
    exact c _ this.1 this.2
 exact key _ [] .nil (by simp)
theorem JEa {o:List Int} (a:o.Pairwise (· < ·)) (c:∀x∈o,0<=x/\x<371):o.length<=371:=by
 have e:o.Nodup:=a.imp λh=>by omega
 have:=QS (b:=(List.range 371).map λ(k:Nat)=>(k:Int)) e λx d=>by
  have:=c x d
  exact List.mem_map.2 ⟨x.toNat,by rw[List.mem_range];omega,by omega⟩
 simpa using this
theorem vV (l:List Spn):(zQ l).length<=371:=JEa (xz l).1 (xz l).2
def kr (s:Setup) (l:List Int):List Spn:=l.flatMap (Qo s)
def q8 (s:Setup) (l:List Spn):List Spn:=if zw s then Xj l (kr s (zQ l)) else []
theorem x0a (s:Setup) (d:Int):(Qo s d).length<=2:=by
 unfold Qo
 rw[List.length_map]
 have a:=List.length_filter_le (λw:Spn=>decide (w.from_<w.to_)) (JA s)
 have b:=jda s
 omega
theorem Zw (s:Setup):∀l:List Int,(kr s l).length<=2*l.length
 | []=>by simp[kr]
 | d::l=>by
   have a:=Zw s l
   have b:=x0a s d
   unfold kr at a⊢
   rw[List.flatMap_cons,List.length_append,List.length_cons];omega
theorem QU {l:List Int} {i:Nat} (h:i<l.length):(l.map zz)[i]? =some [i64 l[i]]:=by rw[List.getElem?_map,List.getElem?_eq_getElem h];rfl
theorem JFa (h:List Ob) (s:Setup) (a:SA) (k:SIn h s a) (f:SFit s) (x:AV) (l:List Spn) (J:SlOf h x 2 (l.map zH)) (K:l.length<1048576):
  ACalls Tryz.prog 104 [z6 s a,x] h λr h'=>(r=spv (q8 s l)∨r= .v (.slice none 0 0)/\q8 s l=[])/\h'=h:=by
 have hex:∃r h',((r=spv (q8 s l)∨r=AV.v (.slice none 0 0)/\q8 s l=[])/\h'=h)/\ResK h h':=⟨_,_,⟨.inl rfl,rfl⟩,.refl⟩
 refine zf Tryz.f104 [.tmp 4] 30 rfl rfl rfl rfl rfl rfl (by decide) (hex) λB=>?_
 simp only[go_sem,k.ones]
 refine zc (c16 _ s a (k.app _) f) ?_
 rintro _ N ⟨rfl,M⟩
 rw[M]
 clear M N
 cases i:zw s
 ·have u:q8 s l=[]:=by unfold q8;rw[i];rfl
  simp only[go_sem,i,zJ,Bool.not_false]
  exact ⟨_,by simp only[go_sem],.inr ⟨h,_,rfl,rfl,rfl,.refl,.inr ⟨rfl,u⟩,rfl⟩⟩
 have u:q8 s l=Xj l (kr s (zQ l)):=by unfold q8;rw[if_pos i]
 have Q:=XZ i
 simp only[go_sem,i,zJ,Bool.not_true]
 refine zc (Zra _ x l (J.app _) K) ?_
 rintro _ N ⟨rfl,rfl⟩
 have w:=(xz l).2
 have G:=vV l
 have c:kr s (zQ l)=kr s ((zQ l).take (zQ l).length):=by rw[List.take_length]
 have t:=Zw s (zQ l)
 rw[c] at u
 rw[c] at t
 obtain ⟨v,W⟩:∃v,v=zQ l:=⟨_,rfl⟩
 rw[<-W] at w G u t⊢
 simp only[go_sem,List.length_map]
 obtain ⟨F,O⟩:∃F,F=[(h.length,Ob.box 30 (zr s a))]:=⟨_,rfl⟩
 have j:(h.length,Ob.box 30 (zr s a))∈F:=by rw[O];simp
 refine zj (by decide) (λm T h'=>∃n:Nat,n<=v.length/\LIn F h h' (h.length+1) 55 134 2 ((kr s (v.take n)).map zH)/\T 1=x/\T 5= .ptr (h.length+1) 0/\T 6= .fn (.func 172) [] [.ptr h.length 0,.ptr (h.length+1) 0]/\T 7= .sl 1 (v.map zz)/\T 16=i64 v.length/\T 17=i64 n/\m=v.length - n) v.length
  ⟨0,by omega,⟨⟨_,rfl,zg rfl (zi rfl)⟩,by omega,(λz y=>by rw[O,List.mem_singleton] at y;subst y;exact ⟨by simp,⟨_,_,rfl⟩,by rw[zo rfl];rfl⟩),_,by rw[zm (k:=1) rfl];rfl,.inl ⟨rfl,rfl⟩⟩,by simp only[go_sem],by simp only[go_sem],by simp only[go_sem],by simp only[go_sem],by (simp only[go_sem]<;>rfl),by (simp only[go_sem]<;>rfl),rfl⟩ ?_
 rintro m T h' ⟨n,V,p,t1,t5,t6,I,o,g,rfl⟩
 simp only[go_sem,o,g]
 refine ways (λe=>?_) (λe=>?_)
 ·have d:=dlt e
  have b:=QU d
  have E:(n:Int)<v.length:=by omega
  have P:=w _ (List.getElem_mem d)
  have q:kr s (v.take (n+1))=kr s (v.take n)++Qo s v[n]:=by unfold kr;rw[<-List.take_append_getElem d,List.flatMap_append];simp
  have A:=Zw s (v.take n)
  rw[List.length_take] at A
  obtain ⟨z,y⟩:∃z,z=v[n]:=⟨_,rfl⟩
  rw[<-y] at b q P
  simp only[go_sem,t6,I,g,b,E,List.length_map,Int.toNat_natCast,Int.natCast_nonneg]
  refine zc (JDa F h h' _ (h.length+1) h.length s a p (p.pre.sin k) Q j (by omega) z P) ?_
  rintro _ S ⟨rfl,k6⟩
  rw[<-q] at k6
  simp only[go_sem,g]
  exact ⟨v.length - (n+1),by omega,n+1,by omega,k6,t1,t5,t6,I,o,zx (by omega) rfl,rfl⟩
 ·have X:=qU e
  have D:n=v.length:=by omega
  subst D
  obtain ⟨R,H,C⟩:=p.at_
  simp only[go_sem,t1,t5,H]
  refine zc (Kya _ x R l _ (p.pre.sl J) C.rows K (by omega)) ?_
  rintro _ S ⟨rfl,rfl⟩
  rw[<-u]
  simp only[go_sem]
  obtain ⟨L,U,_⟩:=p.pre
  rw[U]
  exact ⟨_,by simp only[go_sem],.inr ⟨h,_,rfl,rfl,Qj _,.refl,.inl rfl,rfl⟩⟩
theorem KNa (h:List Ob) (s:Setup) (a:SA) (k:SIn h s a) (f:SFit s) (x:AV) (l:List Spn) (c:SlOf h x 2 (l.map zH)) (b:l.length<1048576):
  ACalls Tryz.prog 104 [z6 s a,x] h λr h'=>r=spv (q8 s l)/\h'=h:=
 Jx ((JFa h s a k f x l c b).mono λr h' ⟨q,e⟩=>⟨q.imp_right λq=>⟨q.1,by rw[q.2];rfl⟩,e⟩)
set_option maxRecDepth 100000
theorem Wn (h:List Ob) (id:Nat) (x y:AV) (a b:List Spn) (d:h[id]? =some (.row 55 1 [[x],[y]] 0)) (f:SlOf h x 2 (a.map zH)) (g:SlOf h y 2 (b.map zH)) (i:a.length<268435456) (j:b.length<268435456):
  ACalls Tryz.prog 170 [.tl id 0] h λr h'=>r=spv (a++b)/\h'=h:=by
 have e:ww [(x,a),(y,b)]=a++b:=by simp[ww]
 have q:=qK (by decide) (Zr _) (ZBa h (.tl id 0) [(x,a),(y,b)] ⟨by rw[zX,d];rfl,λ_=>by rw[qE,d];rfl⟩
  (λq c=>by rcases List.mem_cons.1 c with rfl | c;exact f;rw[List.mem_singleton] at c;subst c;exact g) (by show 2<1048576;decide) (by rw[e,List.length_append];omega))
 rw[e] at q
 exact q
theorem ZNa (h:List Ob) (x:AV) (l:List Seg) (b:SlOf h x 5 (l.map jo)) (a:l.length<1048576):
  ACalls Tryz.prog 24 [x] h λr h'=>r=spv (zV l)/\h'=h:=qK (by decide) (Zr _) (c31 h x l b a)
theorem WAa (h:List Ob) (x:AV) (l:List Seg) (k:Int) (b:SlOf h x 5 (l.map jo)) (a:l.length<1048576):
  ACalls Tryz.prog 221 [x,i64 k] h λr h'=>r=spv (j8 l k)/\h'=h:=qK (by decide) (Zr _) (c32 h x l k b a)
theorem Wo (l:List Spn) (n:Int):(Qh l n).length<=2*l.length+1:=by
 unfold Qh
 split
 ·simp
 ·have a:=jd l (zP l (qZ (zE l) - min n 32054400))
  have b:=zy l
  have d:=zy (zP l (qZ (zE l) - min n 32054400))
  have c:(zP l (qZ (zE l) - min n 32054400)).length<=(zE l).length:=jt _ _
  omega
def wU (s:Setup) (c b:List Spn):List Spn:=if s.autoAfter<=qZ (zE c)/\qZ (zE b)<s.autoBreak then Qh (qx c b) (s.autoBreak - qZ (zE b)) else []
def kF (s:Setup) (c b:List Spn):List Spn:=zE (qx b (zP b s.paidBreak)++wU s c b)
theorem JB (s:Setup) (c b:List Spn):(kF s c b).length<=2*c.length+4*b.length+4:=by
 have j:=jd b (zP b s.paidBreak)
 have d:=zy (zP b s.paidBreak)
 have a:=zy b
 have e:(zP b s.paidBreak).length<=(zE b).length:=jt _ _
 have i:(wU s c b).length<=2*(qx c b).length+1:=by
  unfold wU
  split
  ·exact Wo _ _
  ·simp
 have f:=jd c b
 have g:=zy c
 have h:=zy (qx b (zP b s.paidBreak)++wU s c b)
 rw[List.length_append] at h
 unfold kF
 omega
theorem JGa (h:List Ob) (s:Setup) (a:SA) (k:SIn h s a) (t:Times s) (x y:AV) (c b:List Spn) (u:SlOf h x 2 (c.map zH)) (j:SlOf h y 2 (b.map zH)) (L:c.length<65536) (K:b.length<65536):
  ACalls Tryz.prog 220 [z6 s a,x,y] h λr h'=>r=spv (kF s c b)/\h'=h:=by
 refine zf Tryz.f220 [.tmp 6] 41 rfl rfl rfl rfl rfl rfl (by decide) (⟨_,_,⟨rfl,rfl⟩,.refl⟩) λB=>?_
 simp only[go_sem,k.ones]
 have F:∀M,(h++[Ob.box 30 (zr s a)]++M)[h.length]? =some (.box 30 (zr s a)):=λM=>by rw[List.append_assoc,zo rfl];rfl
 refine zc (zGa _ y b _ (j.app _) (by omega) (by have:=t.paidBreak;unfold Fit;omega)) ?_
 rintro _ e ⟨rfl,rfl⟩
 simp only[go_sem]
 refine zc (Jz _ y _ b _ (j.app _) (qP _) (by omega) (by have:=jt (zE b) s.paidBreak;have:=zy b;unfold zP;omega)) ?_
 rintro _ e ⟨rfl,rfl⟩
 simp only[go_sem]
 refine zc (k0a _ y b (j.app _) (by omega)) ?_
 rintro _ e ⟨rfl,rfl⟩
 simp only[go_sem]
 refine zn rfl [] 0 [(0,0,[]),(2,0,[]),(3,0,[]),(1,0,[3]),(4,0,[]),(5,0,[]),(6,0,[]),(7,0,[]),(8,0,[]),(9,0,[]),(10,0,[])] rfl (by decide) (by decide) ?_
 simp only[go_sem]
 refine zc (k0a _ x c (u.app _) (by omega)) ?_
 rintro _ e ⟨rfl,rfl⟩
 have J:=jd b (zP b s.paidBreak)
 have p:=jt (zE b) s.paidBreak
 have z:=zy (zP b s.paidBreak)
 have E:=zy b
 have G:(zP b s.paidBreak).length<=(zE b).length:=p
 cases g:decide (qZ (zE c)≥s.autoAfter)
 ·have d:wU s c b=[]:=by unfold wU;rw[if_neg];exact λq=>(of_decide_eq_false g) q.1
  have f:kF s c b=zE (qx b (zP b s.paidBreak)):=by unfold kF;rw[d,List.append_nil]
  simp only[go_sem,g,zJ]
  refine zc (Qk _ _ (qx b (zP b s.paidBreak)) (qP _) (by omega)) ?_
  rintro _ e ⟨rfl,rfl⟩
  rw[<-f]
  simp only[go_sem]
  exact ⟨_,by simp only[go_sem],.inr ⟨h,_,rfl,rfl,Qj _,.refl,rfl,rfl⟩⟩
 ·have m:s.autoAfter<=qZ (zE c):=of_decide_eq_true g
  cases i:decide (qZ (zE b)<s.autoBreak)
  ·have d:wU s c b=[]:=by unfold wU;rw[if_neg];exact λq=>(of_decide_eq_false i) q.2
   have f:kF s c b=zE (qx b (zP b s.paidBreak)):=by unfold kF;rw[d,List.append_nil]
   simp only[go_sem,g,i,zJ]
   refine zc (Qk _ _ (qx b (zP b s.paidBreak)) (qP _) (by omega)) ?_
   rintro _ e ⟨rfl,rfl⟩
   rw[<-f]
   simp only[go_sem]
   exact ⟨_,by simp only[go_sem],.inr ⟨h,_,rfl,rfl,Qj _,.refl,rfl,rfl⟩⟩
  ·have o:qZ (zE b)<s.autoBreak:=of_decide_eq_true i
   have d:wU s c b=Qh (qx c b) (s.autoBreak - qZ (zE b)):=by unfold wU;rw[if_pos ⟨m,o⟩]
   simp only[go_sem,g,i,zJ]
   refine zn rfl [.res] 1 [(0,0,[]),(1,0,[]),(2,0,[]),(4,0,[]),(6,0,[]),(5,0,[]),(7,0,[]),(3,0,[5]),(8,0,[]),(9,0,[]),(10,0,[]),(11,0,[])] rfl (by decide) (by decide) ?_
   simp only[go_sem]
   refine zc (Jz _ x y c b (u.app _) (j.app _) (by omega) (by omega)) ?_
   rintro _ e ⟨rfl,rfl⟩
   have A:=jd c b
   have I:=zy c
   have C:=V5 (l:=zE b) (λs D=>jZ s D)
   have v:=t.autoBreak
   have w:IntKind.wrap .i64 (s.autoBreak - qZ (zE b))=s.autoBreak - qZ (zE b):=zI (n:=s.autoBreak - qZ (zE b)) (by unfold Fit;omega)
   simp only[go_sem,w]
   refine zc (Wwa _ _ (qx c b) (s.autoBreak - qZ (zE b)) (qP _) (by omega) (by unfold Fit;omega)) ?_
   rintro _ e ⟨rfl,rfl⟩
   rw[<-d]
   have H:(wU s c b).length<1048576:=by
    have:=Wo (qx c b) (s.autoBreak - qZ (zE b))
    rw[d];omega
   simp only[go_sem]
   refine zc (Wn _ (h.length+1) _ _ (qx b (zP b s.paidBreak)) (wU s c b) (by rw[zm (k:=1) rfl];rfl) (qP _) (qP _) (by omega) (by omega)) ?_
   rintro _ e ⟨rfl,rfl⟩
   simp only[go_sem]
   refine zc (Qk _ _ (qx b (zP b s.paidBreak)++wU s c b) (qP _) (by rw[List.length_append];omega)) ?_
   rintro _ e ⟨rfl,rfl⟩
   rw[show zE (qx b (zP b s.paidBreak)++wU s c b)=kF s c b from rfl]
   simp only[go_sem]
   exact ⟨_,by simp only[go_sem],.inr ⟨h,_,rfl,rfl,Qj _,.refl,rfl,rfl⟩⟩
theorem k9a {n:Nat} (a b:List Spn):(AV.tup [spv a,spv b]).lt n=true:=by
 simp only[AV.lt,zG,Qj,Bool.and_self]
theorem JHa {n:Nat} (a b c:List Spn):(AV.tup [spv a,spv b,spv c]).lt n=true:=by
 simp only[AV.lt,zG,Qj,Bool.and_self]
def jw (s:Setup) (l:List Seg) (d:Int):List Spn:=kF s (qY (zV l) d) (qY (j8 l 3) d)
def qM (s:Setup) (l:List Seg) (d:Int):List Spn:=qx (qY (zV l) d) (jw s l d)
theorem wz (l:List Seg):(zV l).length<=l.length:=by
 have:=zy (l.map spS)
 rw[List.length_map] at this
 exact this
theorem Xm (l:List Seg) (k:Int):(j8 l k).length<=l.length:=by
 have a:=zy ((l.filter λg=>g.kind==k).map spS)
 have b:=List.length_filter_le (λg:Seg=>g.kind==k) l
 rw[List.length_map] at a
 unfold j8;omega
theorem yT (l:List Spn) (d:Int):(qY l d).length<=l.length+1:=by
 have a:=yQ l d 86400
 have b:=zy l
 unfold qY;omega
theorem QV (s:Setup) (l:List Seg) (d:Int):(jw s l d).length<=6*l.length+10:=by
 have c:=JB s (qY (zV l) d) (qY (j8 l 3) d)
 have a:=yT (zV l) d
 have f:=yT (j8 l 3) d
 have b:=wz l
 have e:=Xm l 3
 unfold jw;omega
theorem KF (s:Setup) (l:List Seg) (d:Int):(qM s l d).length<=7*l.length+12:=by
 have c:=jd (qY (zV l) d) (jw s l d)
 have a:=yT (zV l) d
 have g:=QV s l d
 have b:=wz l
 have f:=zy (qY (zV l) d)
 have e:=zy (jw s l d)
 unfold qM;omega
theorem wza (h:List Ob) (s:Setup) (a:SA) (k:SIn h s a) (f:SFit s) (c:zw s=true) (x:AV) (l:List Seg) (d:Int) (e:SlOf h x 5 (l.map jo)) (j:l.length<32768):
  ACalls Tryz.prog 166 [z6 s a,x,i64 d] h λr h'=>r= .tup [spv (qM s l d),spv (jw s l d)]/\h'=h:=by
 have b:=wz l
 have g:=Xm l 3
 have n:=yT (zV l) d
 have i:=yT (j8 l 3) d
 have m:=QV s l d
 refine zf Tryz.f166 [.tmp 6,.tmp 7] 28 rfl rfl rfl rfl rfl rfl (by decide) (⟨_,_,⟨rfl,rfl⟩,.refl⟩) λB=>?_
 simp only[go_sem,k.ones]
 refine zc (c16 _ s a (k.app _) f) ?_
 rintro _ b ⟨rfl,rfl⟩
 simp only[go_sem,c,zJ,Bool.not_true]
 refine zc (ZNa _ x l (e.app _) (by omega)) ?_
 rintro _ b ⟨rfl,rfl⟩
 simp only[go_sem]
 refine zc (xUa _ _ (zV l) d (qP _) (by omega)) ?_
 rintro _ b ⟨rfl,rfl⟩
 simp only[go_sem]
 refine zn rfl [] 0 [(1,0,[]),(2,0,[]),(4,0,[]),(0,0,[]),(3,0,[0]),(5,0,[0]),(6,0,[]),(7,0,[])] rfl (by decide) (by decide) ?_
 simp only[go_sem,k.ones]
 refine zc (WAa _ x l 3 (e.app _) (by omega)) ?_
 rintro _ b ⟨rfl,rfl⟩
 simp only[go_sem]
 refine zc (xUa _ _ (j8 l 3) d (qP _) (by omega)) ?_
 rintro _ b ⟨rfl,rfl⟩
 simp only[go_sem]
 refine zc (JGa _ s a (k.app _) (XZ c) _ _ (qY (zV l) d) (qY (j8 l 3) d) (qP _) (qP _) (by omega) (by omega)) ?_
 rintro _ b ⟨rfl,rfl⟩
 rw[show kF s (qY (zV l) d) (qY (j8 l 3) d)=jw s l d from rfl]
 simp only[go_sem]
 refine zc (Jz _ _ _ (qY (zV l) d) (jw s l d) (qP _) (qP _) (by omega) (by omega)) ?_
 rintro _ b ⟨rfl,rfl⟩
 rw[show qx (qY (zV l) d) (jw s l d)=qM s l d from rfl]
 simp only[go_sem]
 exact ⟨_,by simp only[go_sem],.inr ⟨h,_,rfl,rfl,k9a _ _,.refl,rfl,rfl⟩⟩
structure L2 (F:List (Nat × Ob)) (h0 h:List Ob) (i j bty ty e:Nat) (r1 r2:List (List AV)):Prop where
 pre:Pre h0 h
 li:h0.length<=i
 lj:h0.length<=j
 ne:i≠j
 kept:∀z∈F,z.1≠i/\z.1≠j/\(∃t cs,z.2= .box t cs)/\h[z.1]? =some z.2
 at_:∃x y,h[i]? =some (.box bty [x])/\h[j]? =some (.box bty [y])/\OwnS h0 h ty e x r1/\OwnS h0 h ty e y r2/\∀a s b t,x= .tl a s->y= .tl b t->a≠b
def BoxK (i j:Nat) (h m:List Ob):Prop:=∀(z:Nat) (t:TypeId) (cs:List AV),z≠i->z≠j->h[z]? =some (.box t cs)->m[z]? =some (.box t cs)
theorem BoxK.app {i j:Nat} {h M:List Ob}:BoxK i j h (h++M):=λz t cs _ _ q=>zb q
theorem BoxK.trans {i j:Nat} {a b c:List Ob} (h:BoxK i j a b) (k:BoxK i j b c):BoxK i j a c:=λz t cs e d q=>k z t cs e d (h z t cs e d q)
theorem BoxK.setR {i j id:Nat} {a:List Ob} {o:Ob} {ty e:Nat} {rows:List (List AV)} {st:Nat} (b:a[id]? =some (.row ty e rows st)):BoxK i j a (a.set id o):=λz t cs _ _ q=>by
 have:id≠z:=λe=>by rw[e,q] at b;cases b
 rw[List.getElem?_set_ne this];exact q
theorem OwnS.setB {h0 h:List Ob} {ty e:Nat} {x:AV} {rows:List (List AV)} (k:OwnS h0 h ty e x rows) {i:Nat} {o:Ob} {t:TypeId} {cs:List AV} (b:h[i]? =some (.box t cs)):OwnS h0 (h.set i o) ty e x rows:=by
 rcases k with ⟨rfl,c⟩ | ⟨id,st,d,rfl,a⟩
 ·exact .inl ⟨rfl,c⟩
 ·refine .inr ⟨id,st,d,rfl,?_⟩
  have:i≠id:=λe=>by rw[e,a] at b;cases b
  rw[List.getElem?_set_ne this];exact a
theorem L2.fin {F:List (Nat × Ob)} {h0 h m:List Ob} {i j bty ty e:Nat} {G E f d:List (List AV)} (k:L2 F h0 h i j bty ty e G E) (B:Pre h0 m) (C:BoxK i j h m) {x' y':AV} (w:∃x,m[i]? =some (.box bty [x])) (A:∃x,m[j]? =some (.box bty [x]))
  (u:OwnS h0 m ty e x' f) (v:OwnS h0 m ty e y' d) (o:∀a s b t,x'= .tl a s->y'= .tl b t->a≠b):L2 F h0 ((m.set i (.box bty [x'])).set j (.box bty [y'])) i j bty ty e f d:=by
 obtain ⟨x,l⟩:=w
 obtain ⟨y,H⟩:=A
 have p:(m.set i (.box bty [x']))[i]? =some (.box bty [x']):=List.getElem?_set_self (List.getElem?_eq_some_iff.1 l).1
 have c:(m.set i (.box bty [x']))[j]? =some (.box bty [y]):=by rw[List.getElem?_set_ne k.ne];exact H
 refine ⟨(B.set k.li rfl).set k.lj rfl,k.li,k.lj,k.ne,λz D=>?_,x',y',?_,List.getElem?_set_self (List.getElem?_eq_some_iff.1 c).1,(u.setB l).setB c,(v.setB l).setB c,o⟩
 ·obtain ⟨g,n,⟨t,cs,r⟩,q⟩:=k.kept z D
  refine ⟨g,n,⟨t,cs,r⟩,?_⟩
  rw[r] at q⊢
  rw[List.getElem?_set_ne (Ne.symm n),List.getElem?_set_ne (Ne.symm g)]
  exact C _ _ _ g n q
 ·rw[List.getElem?_set_ne k.ne.symm];exact p
theorem L2.any {F:List (Nat × Ob)} {h0 h:List Ob} {i j bty ty e:Nat} {r o:List (List AV)} (k:L2 F h0 h i j bty ty e r o) (d c:List (List AV)):∃h',L2 F h0 h' i j bty ty e d c/\ResK h h':=by
 obtain ⟨x,y,l,p,_⟩:=k.at_
 have n:=k.pre.len
 have q:=k.fin (m:=h++[.row ty e d 0,.row ty e c 0]) (k.pre.app (zg rfl (zi rfl))) .app (x':= .tl h.length 0) (y':= .tl (h.length+1) 0) ⟨x,zb l⟩ ⟨y,zb p⟩
  (.inr ⟨_,_,n,rfl,by rw[zo rfl];rfl⟩) (.inr ⟨_,_,by omega,rfl,by rw[zm (k:=1) rfl];rfl⟩) (λa s b t f g=>by injection f with f;injection g with g;omega)
 exact ⟨_,q,k.pre.resK q.pre⟩
theorem KOa (F:List (Nat × Ob)) (h0 h:List Ob) (i j u v:Nat) (s:Setup) (a:SA) (x:AV) (l:List Seg) (p q:List Spn) (d:Int) (k:L2 F h0 h i j 55 134 2 (p.map zH) (q.map zH)) (ks:SIn h s a) (f:SFit s) (X:zw s=true)
  (hu:(u,Ob.box 30 (zr s a))∈F) (hv:(v,Ob.box 51 [x])∈F) (hx:SlOf h x 5 (l.map jo)) (L:l.length<32768) (hp:p.length<4294967296) (hq:q.length<4294967296):
  ACalls Tryz.prog 165 [i64 d,.ptr u 0,.ptr v 0,.ptr i 0,.ptr j 0] h λr h'=>r= .tup []/\L2 F h0 h' i j 55 134 2 ((p++qM s l d).map zH) ((q++jw s l d).map zH):=by
 have hex:∃r h',(r=AV.tup []/\L2 F h0 h' i j 55 134 2 ((p++qM s l d).map zH) ((q++jw s l d).map zH))/\ResK h h':=by
  obtain ⟨h',q1,q2⟩:=k.any ((p++qM s l d).map zH) ((q++jw s l d).map zH)
  exact ⟨_,h',⟨rfl,q1⟩,q2⟩
 have T:=(k.kept _ hu).2.2.2
 have S:=(k.kept _ hv).2.2.2
 obtain ⟨y,z,w,n,oy,Z,U⟩:=k.at_
 have α:=hx.cells
 have τ:=KF s l d
 have ρ:=QV s l d
 have H:=zIa (qM s l d)
 have E:=zIa (jw s l d)
 have c1:(p.length+(qM s l d).length)*17<=140737488355328:=by omega
 have c2:(q.length+(jw s l d).length)*17<=140737488355328:=by omega
 have c3:(qM s l d).length*17<=140737488355328:=by omega
 have c4:(jw s l d).length*17<=140737488355328:=by omega
 refine zf Tryz.f165 [] 21 rfl rfl rfl rfl rfl rfl (by decide) (hex) λB=>?_
 simp only[go_sem,T,S,ks.ones,α]
 refine zc (wza h s a ks f X x l d hx L) ?_
 rintro _ D ⟨rfl,rfl⟩
 simp only[go_sem]
 refine zn rfl [] 0 [(1,0,[]),(4,0,[]),(0,0,[]),(3,0,[]),(2,0,[3]),(5,0,[]),(6,0,[]),(7,0,[])] rfl (by decide) (by decide) ?_
 have c:∀M,(D++M)[i]? =some (.box 55 [y]):=λM=>zb w
 have e:∀M,(D++M)[j]? =some (.box 55 [z]):=λM=>zb n
 have κ:=oy.rows.cells
 have ν:=Z.rows.cells
 have R:i≠j:=k.ne
 have G:j≠i:=k.ne.symm
 have L:=k.pre.len
 have hi:i<D.length:=(List.getElem?_eq_some_iff.1 w).1
 have hj:j<D.length:=(List.getElem?_eq_some_iff.1 n).1
 rcases oy with ⟨rfl,β⟩ | ⟨ia,sa,Q,rfl,A⟩
 ·have Y:p=[]:=by simpa using β
  subst Y
  rcases Z with ⟨rfl,J⟩ | ⟨ib,V,v1,rfl,v3⟩
  ·have I:q=[]:=by simpa using J
   subst I
   simp only[go_sem,w,n,c,e,H,E,c3,c4,List.length_map,List.getElem?_set_ne,R,G,ne_eq,not_false_eq_true]
   exact ⟨_,rfl,.inl ⟨rfl,k.fin (k.pre.app (zg rfl (zi rfl))) .app ⟨_,c _⟩ ⟨_,e _⟩ (.inr ⟨_,_,L,rfl,by rw[zo rfl];rfl⟩) (.inr ⟨_,_,by omega,rfl,by rw[zm (k:=1) rfl];rfl⟩) (λa s b t g m=>by injection g with g;injection m with m;omega)⟩⟩
  ·have C:∀M,(D++M)[ib]? =some (.row 134 2 (q.map zH) V):=λM=>zb v3
   have n1:ib≠i:=λq=>by rw[q,w] at v3;cases v3
   have n2:ib≠j:=λq=>by rw[q,n] at v3;cases v3
   have W:=(List.getElem?_eq_some_iff.1 v3).1
   simp only[go_sem,w,n,c,e,H,E,c2,c3,C,v3,List.length_map,List.getElem?_set_ne,R,G,n1,n2,ne_eq,not_false_eq_true]
   refine ⟨_,rfl,.inl ⟨rfl,k.fin ((k.pre.app (zi rfl)).set v1 rfl) (BoxK.app.trans (.setR (C _))) ⟨_,(List.getElem?_set_ne n1).trans (c _)⟩ ⟨_,(List.getElem?_set_ne n2).trans (e _)⟩ (.inr ⟨_,_,L,rfl,?_⟩) (.inr ⟨_,_,v1,rfl,?_⟩) (λa s b t g m=>by injection g with g;injection m with m;omega)⟩⟩
   ·rw[List.getElem?_set_ne (by omega),zo rfl];rfl
   ·rw[List.getElem?_set_self (by rw[List.length_append];omega), <-List.map_append]
 ·have P:∀M,(D++M)[ia]? =some (.row 134 2 (p.map zH) sa):=λM=>zb A
  have n3:ia≠i:=λq=>by rw[q,w] at A;cases A
  have n4:ia≠j:=λq=>by rw[q,n] at A;cases A
  have N:=(List.getElem?_eq_some_iff.1 A).1
  rcases Z with ⟨rfl,J⟩ | ⟨ib,V,v1,rfl,v3⟩
  ·have I:q=[]:=by simpa using J
   subst I
   have O:∀o M,(D.set ia o++M)[i]? =some (.box 55 [.tl ia sa]):=λo M=>zb ((List.getElem?_set_ne n3).trans w)
   have K:∀o M,(D.set ia o++M)[j]? =some (.box 55 [.v (.slice none 0 0)]):=λo M=>zb ((List.getElem?_set_ne n4).trans n)
   simp only[go_sem,w,n,c,e,O,K,H,E,c1,c4,P,A,List.length_map,List.getElem?_set_ne,R,G,n3,n4,ne_eq,not_false_eq_true]
   refine ⟨_,rfl,.inl ⟨rfl,k.fin ((k.pre.set Q rfl).app (zi rfl)) (BoxK.trans (.setR A) .app) ⟨_,O _ _⟩ ⟨_,K _ _⟩ (.inr ⟨_,_,Q,rfl,?_⟩) (.inr ⟨_,_,L,rfl,?_⟩) (λa s b t g m=>by injection g with g;injection m with m;omega)⟩⟩
   ·refine zb ?_
    rw[List.getElem?_set_self N, <-List.map_append]
   ·rw[zo (by rw[List.length_set])];rfl
  ·have C:∀M,(D++M)[ib]? =some (.row 134 2 (q.map zH) V):=λM=>zb v3
   have n1:ib≠i:=λq=>by rw[q,w] at v3;cases v3
   have n2:ib≠j:=λq=>by rw[q,n] at v3;cases v3
   have n5:ia≠ib:=U _ _ _ _ rfl rfl
   have W:=(List.getElem?_eq_some_iff.1 v3).1
   simp only[go_sem,w,n,c,e,H,E,c1,c2,P,C,A,v3,List.length_map,List.getElem?_set_ne,R,G,n1,n2,n3,n4,n5,ne_eq,not_false_eq_true]
   refine ⟨_,rfl,.inl ⟨rfl,k.fin ((k.pre.set Q rfl).set v1 rfl) (BoxK.trans (.setR A) (.setR ((List.getElem?_set_ne n5).trans v3))) ⟨_,(List.getElem?_set_ne n1).trans ((List.getElem?_set_ne n3).trans w)⟩ ⟨_,(List.getElem?_set_ne n2).trans ((List.getElem?_set_ne n4).trans n)⟩ (.inr ⟨_,_,Q,rfl,?_⟩) (.inr ⟨_,_,v1,rfl,?_⟩) (λa s b t g m=>by injection g with g;injection m with m;omega)⟩⟩
   ·rw[List.getElem?_set_ne n5.symm,List.getElem?_set_self N, <-List.map_append]
   ·rw[List.getElem?_set_self (by rw[List.length_set];omega), <-List.map_append]
def vc (s:Setup) (l:List Seg):List Spn:=zE ((zQ (zV l)).flatMap (qM s l))
def xV (s:Setup) (l:List Seg):List Spn:=zE ((zQ (zV l)).flatMap (jw s l))
theorem Wp {f:Int->List Spn} {m:Nat} (a:∀d,(f d).length<=m):∀l:List Int,(l.flatMap f).length<=m*l.length
 | []=>by simp
 | d::l=>by
   have b:=a d
   have c:=Wp a l
   rw[List.flatMap_cons,List.length_append,List.length_cons,Nat.mul_succ];omega
theorem QW {f:Int->List Spn} {l:List Int} {n:Nat} (h:n<l.length):(l.take (n+1)).flatMap f=(l.take n).flatMap f++f l[n]:=by
 rw[<-List.take_append_getElem h,List.flatMap_append];simp
theorem WBa (h:List Ob) (s:Setup) (a:SA) (k:SIn h s a) (f:SFit s) (O:zw s=true) (x:AV) (l:List Seg) (E:SlOf h x 5 (l.map jo)) (hl:l.length<32768):
  ACalls Tryz.prog 100 [z6 s a,x] h λr h'=>r= .tup [spv (vc s l),spv (xV s l)]/\h'=h:=by
 have U:=E.cells
 have P:=E.one
 have ο:=wz l
 refine zf Tryz.f100 [.cell 4 55,.cell 5 55] 29 rfl rfl rfl rfl rfl rfl (by decide) (⟨_,_,⟨rfl,rfl⟩,.refl⟩) λB=>?_
 simp only[go_sem,k.ones,P,U]
 refine zc (ZNa _ x l (E.app _) (by omega)) ?_
 rintro _ h1 ⟨rfl,rfl⟩
 simp only[go_sem]
 refine zc (Zra _ _ (zV l) (qP _) (by omega)) ?_
 rintro _ h1 ⟨rfl,rfl⟩
 have V:=vV (zV l)
 have g:vc s l=zE (((zQ (zV l)).take (zQ (zV l)).length).flatMap (qM s l)):=by rw[List.take_length];rfl
 have d:xV s l=zE (((zQ (zV l)).take (zQ (zV l)).length).flatMap (jw s l)):=by rw[List.take_length];rfl
 obtain ⟨v,hv⟩:∃v,v=zQ (zV l):=⟨_,rfl⟩
 rw[<-hv] at V g d⊢
 simp only[go_sem,List.length_map]
 obtain ⟨F,Q⟩:∃F,F=[(h.length,Ob.box 30 (zr s a)),(h.length+1,Ob.box 51 [x])]:=⟨_,rfl⟩
 have hu:(h.length,Ob.box 30 (zr s a))∈F:=by rw[Q];simp
 have hw:(h.length+1,Ob.box 51 [x])∈F:=by rw[Q];simp
 obtain ⟨G,N⟩:∃G,G=AV.fn (.func 165) [] [.ptr h.length 0,.ptr (h.length+1) 0,.ptr (h.length+2) 0,.ptr (h.length+3) 0]:=⟨_,rfl⟩
 rw[<-N]
 refine zj (by decide) (λm T h'=>∃n:Nat,n<=v.length/\L2 F h h' (h.length+2) (h.length+3) 55 134 2 (((v.take n).flatMap (qM s l)).map zH) (((v.take n).flatMap (jw s l)).map zH)/\T 4= .ptr (h.length+2) 0/\T 5= .ptr (h.length+3) 0/\T 6= .sl 1 (v.map zz)/\T 7=G/\T 14=i64 v.length/\T 15=i64 n/\m=v.length - n) v.length
  ⟨0,by omega,⟨⟨_,rfl,zg rfl (zg rfl (zg rfl (zi rfl)))⟩,by omega,by omega,by omega,(λz c=>by
   rw[Q] at c
   rcases List.mem_cons.1 c with rfl | c
   ·exact ⟨by show h.length≠h.length+2;omega,by show h.length≠h.length+3;omega,⟨_,_,rfl⟩,by rw[zo rfl];rfl⟩
   ·rw[List.mem_singleton] at c
    subst c
    exact ⟨by show h.length+1≠h.length+2;omega,by show h.length+1≠h.length+3;omega,⟨_,_,rfl⟩,by rw[zm (k:=1) rfl];rfl⟩),
   _,_,by rw[zm (k:=2) rfl];rfl,by rw[zm (k:=3) rfl];rfl,.inl ⟨rfl,rfl⟩,.inl ⟨rfl,rfl⟩,λa s b t H=>by cases H⟩,by simp only[go_sem],by simp only[go_sem],by simp only[go_sem],by simp only[go_sem],by (simp only[go_sem]<;>rfl),by (simp only[go_sem]<;>rfl),rfl⟩ ?_
 rintro m T h' ⟨n,σ,p,t4,t5,t6,X,C,j,rfl⟩
 have D:=Wp (KF s l) (v.take n)
 have A:=Wp (QV s l) (v.take n)
 rw[List.length_take] at D A
 have I:(7*l.length+12)*min n v.length<=(7*32768+12)*371:=Nat.mul_le_mul (by omega) (by omega)
 have w:(6*l.length+10)*min n v.length<=(6*32768+10)*371:=Nat.mul_le_mul (by omega) (by omega)
 simp only[go_sem,C,j]
 refine ways (λe=>?_) (λe=>?_)
 ·have o:=dlt e
  have i:=QU o
  have S:(n:Int)<v.length:=by omega
  have H:=QW (f:=qM s l) o
  have Z:=QW (f:=jw s l) o
  obtain ⟨z,c⟩:∃z,z=v[n]:=⟨_,rfl⟩
  rw[<-c] at i H Z
  simp only[go_sem,t6,X,j,i,S,N,List.length_map,Int.toNat_natCast,Int.natCast_nonneg]
  refine zc (KOa F h h' (h.length+2) (h.length+3) h.length (h.length+1) s a x l _ _ z p (p.pre.sin k) f O hu hw (p.pre.sl E) hl (by omega) (by omega)) ?_
  rintro _ h6 ⟨rfl,k6⟩
  rw[<-H, <-Z] at k6
  simp only[go_sem,j]
  exact ⟨v.length - (n+1),by omega,n+1,by omega,k6,t4,t5,t6,by rw[X,N],C,zx (by omega) rfl,rfl⟩
 ·have ρ:=qU e
  have R:n=v.length:=by omega
  subst R
  obtain ⟨y,z,J,c,oy,oz,β⟩:=p.at_
  have u:=p.pre
  simp only[go_sem]
  refine zn rfl [] 0 [(0,0,[]),(2,0,[]),(1,0,[2]),(3,0,[]),(4,0,[]),(5,0,[])] rfl (by decide) (by decide) ?_
  have ν:∀M,(h'++M)[h.length+2]? =some (.box 55 [y]):=λM=>zb J
  have ξ:∀M,(h'++M)[h.length+3]? =some (.box 55 [z]):=λM=>zb c
  simp only[go_sem,t4,t5,J,c]
  refine zc (Qk _ y _ oy.rows (by omega)) ?_
  rintro _ h' ⟨rfl,rfl⟩
  rw[<-g]
  simp only[go_sem,c,t5]
  refine zc (Qk _ z _ oz.rows (by omega)) ?_
  rintro _ h' ⟨rfl,rfl⟩
  rw[<-d]
  have ne:h.length+2≠h.length+3:=by omega
  have q:h.length+3≠h.length+2:=by omega
  have Y:=(List.getElem?_eq_some_iff.1 J).1
  have W:=(List.getElem?_eq_some_iff.1 c).1
  simp only[go_sem,t4,t5,J,c,List.getElem?_set_ne,ne,q,ne_eq,not_false_eq_true]
  have K:Pre h ((h'.set (h.length+2) (.box 55 [spv (vc s l)])).set (h.length+3) (.box 55 [spv (xV s l)])):=(u.set p.li rfl).set p.lj rfl
  obtain ⟨L,hL,hN⟩:=K
  refine ⟨.tup [spv (vc s l),spv (xV s l)],?_,.inr ⟨h,L,hL,rfl,k9a _ _,.refl,rfl,rfl⟩⟩
  have q1:((h'.set (h.length+2) (.box 55 [spv (vc s l)])).set (h.length+3) (.box 55 [spv (xV s l)]))[h.length+2]? =some (.box 55 [spv (vc s l)]):=by
   rw[List.getElem?_set_ne q,List.getElem?_set_self (by omega)]
  have q2:((h'.set (h.length+2) (.box 55 [spv (vc s l)])).set (h.length+3) (.box 55 [spv (xV s l)]))[h.length+3]? =some (.box 55 [spv (xV s l)]):=by
   rw[List.getElem?_set_self (by rw[List.length_set];omega)]
  simp only[go_sem,t4,t5,q1,q2]
end Go.Proofs.YtfmldcilgbbimaaGreat.Ax
namespace Go.Proofs.YtfmldcilgbbimaaGreat.Ax
open Go
theorem X0 {C:List Spn} {n size:Int} (m:0<size) {s:Spn} (f:s∈j9 C n size):((∃p∈zE C,s.from_=p.from_)∨s.from_=n*size)/\n*size<=s.from_/\s.from_<(n+1)*size:=by
 unfold j9 at f
 split at f
 ·cases f
 ·rename_i A
  have i:0<=n:=by omega
  have r:0<=n*size:=Int.mul_nonneg i (by omega)
  have h:=jZ s f
  have u:=(V6 (a:=C) (b:=[⟨n*size,(n+1)*size⟩]) (t:=s.from_)).1 ⟨s,f,by omega,h.2.1⟩
  obtain ⟨_,_,y,c,j,g⟩:=u
  rw[List.mem_singleton] at c
  subst c
  refine ⟨?_,j,g⟩
  obtain ⟨y,c,e⟩:=Ju f
  unfold jb at c
  obtain ⟨z,d,rfl⟩:=List.mem_map.1 (List.mem_filter.1 c).1
  obtain ⟨p,k,d⟩:=List.mem_flatMap.1 d
  obtain ⟨q,l,rfl⟩:=List.mem_map.1 d
  have x:=(jZ p k).1
  have w:=(jZ q l).1
  obtain ⟨y,c,o⟩:=Ju l
  unfold jb at c
  obtain ⟨z,d,rfl⟩:=List.mem_map.1 (List.mem_filter.1 c).1
  rw[List.mem_singleton] at d
  subst d
  simp only[jI] at o
  simp only[jI,wO] at e
  by_cases v:p.from_<=q.from_
  ·right;omega
  ·left;exact ⟨p,k,by omega⟩
theorem wAa (C:List Spn) (size:Int) (a:0<size) (L:List Int) (c:L.Nodup):(L.flatMap λd=>j9 C d size).length<=(zE C).length+L.length:=by
 have key:∀L:List Int,L.Nodup->((L.flatMap λd=>j9 C d size).map (·.from_)).Nodup:=λL=>by
  induction L with
  | nil=>intro _;simp
  | cons d L u=>
    intro c
    rw[List.nodup_cons] at c
    rw[List.flatMap_cons,List.map_append,List.nodup_append]
    refine ⟨?_,u c.2,?_⟩
    ·unfold j9
     split
     ·simp
     ·exact (xU _).froms
    ·intro x h y v e
     obtain ⟨s,f,rfl⟩:=List.mem_map.1 h
     obtain ⟨t,i,rfl⟩:=List.mem_map.1 v
     obtain ⟨k,l,i⟩:=List.mem_flatMap.1 i
     have n:=(X0 a f).2
     have z:=(X0 a i).2
     have g:d≠k:=λq=>c.1 (by rw[q];exact l)
     rw[e] at n
     rcases Int.lt_or_gt_of_ne g with r | m
     ·have:(d+1)*size<=k*size:=Int.mul_le_mul_of_nonneg_right (by omega) (by omega)
      omega
     ·have:(k+1)*size<=d*size:=Int.mul_le_mul_of_nonneg_right (by omega) (by omega)
      omega
 have j:=QS (key L c) (b:=(zE C).map (·.from_)++L.map (· *size)) λx h=>by
  obtain ⟨s,f,rfl⟩:=List.mem_map.1 h
  obtain ⟨d,o,f⟩:=List.mem_flatMap.1 f
  rw[List.mem_append]
  rcases (X0 a f).1 with ⟨p,w,e⟩ | e
  ·exact .inl (List.mem_map.2 ⟨p,w,e.symm⟩)
  ·exact .inr (List.mem_map.2 ⟨d,o,e.symm⟩)
 simpa using j
theorem Qp (C:List Spn) (L:List Int) (a:L.Nodup):(L.flatMap (qY C)).length<=(zE C).length+L.length:=wAa C 86400 (by decide) L a
theorem vaa {f g:Int->List Spn} {a b:Nat} (h:∀d,(f d).length<=a*(g d).length+b):∀L:List Int,(L.flatMap f).length<=a*(L.flatMap g).length+b*L.length
 | []=>by simp
 | d::L=>by
   have c:=h d
   have e:=vaa h L
   rw[List.flatMap_cons,List.flatMap_cons,List.length_append,List.length_append,List.length_cons,Nat.mul_add,Nat.mul_succ];omega
theorem Wq {f g k:Int->List Spn} {a b c:Nat} (h:∀d,(f d).length<=a*(g d).length+b*(k d).length+c):∀L:List Int,(L.flatMap f).length<=a*(L.flatMap g).length+b*(L.flatMap k).length+c*L.length
 | []=>by simp
 | d::L=>by
   have e:=h d
   have i:=Wq h L
   rw[List.flatMap_cons,List.flatMap_cons,List.flatMap_cons,List.length_append,List.length_append,List.length_append,List.length_cons,Nat.mul_add,Nat.mul_add,Nat.mul_succ];omega
theorem vB {L:List Int} (h:L.Pairwise (· < ·)):L.Nodup:=h.imp λ{a b} q e=>by omega
end Go.Proofs.YtfmldcilgbbimaaGreat.Ax
