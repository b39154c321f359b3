import Derived.Test.YtigdlmpjijhpaaaGreatKA
import Derived.Test.YtigdlmpjijhpaaaGreatK36
import Derived.Lib.Walk
import Derived.Great.BuildSlice
set_option linter.all false
namespace Go.Proofs.YtigdlmpjijhpaaaGreat.Ax
open Go Go.Proofs Go.Shelf Go.RowKit Go.Lib Go.Sort
set_option maxRecDepth 100000
def QV(a b:Int):Int:=if a=0 then b else a
def jZb:Option Value->Nat
 | some (.int _ i)=>(2 - i).toNat
 | _=>0
set_option maxHeartbeats 2000000 in
theorem orC(a b:Int)(W:World)(blk:Nat)(c0:W.cell? ⟨blk,0,none⟩=some (.int .i64 a))(q:W.cell? ⟨blk,1,none⟩=some (.int .i64 b)):
  Calls Tryz.prog 176 #[.slice (some ⟨blk,0,none⟩) 2 2] W λe w'=>e= .returned (.int .i64 (QV a b))/\w'=W:=by
 go_enter Tryz.func176,Tryz.ntmps176
 go_wp2_with fail
 refine wp_loop (λact w=>w=W/\∃(i:Int) (o p k l g j h m f d:Value),act={ tmps:= #[.slice (some ⟨blk,0,none⟩) 2 2,undef,.int .i64 0,.int .i64 0,undef,o,.slice (some ⟨blk,0,none⟩) 2 2,.int .i64 2,.int .i64 i,p,k,l,g,j,h,m,f,d],defers:=[] }/\(i=0∨(i=1/\a=0)∨(i=2/\a=0/\b=0)))
  (λact _=>jZb act.tmps[8]?) ⟨rfl,0,undef,undef,undef,undef,undef,undef,undef,undef,undef,undef,rfl,.inl rfl⟩ ?_
 rintro act w ⟨rfl,i,o,p,k,l,g,j,h,m,f,d,rfl,hi⟩
 rcases hi with rfl|⟨rfl,c⟩|⟨rfl,c,n⟩
 ·cases h0:(a != 0)
  ·have c:a=0:=by simpa using h0
   go_wp2
   exact⟨⟨trivial,1,_,_,_,_,_,_,_,_,_,_,rfl,.inr (.inl ⟨rfl,c⟩)⟩,show 1<2 by decide⟩
  ·have c:¬ a=0:=by simpa using h0
   go_wp2
   go_ret
   exact⟨by unfold QV;rw[if_neg c];rfl,rfl⟩
 ·cases h0:(b != 0)
  ·have n:b=0:=by simpa using h0
   go_wp2
   exact⟨⟨trivial,2,_,_,_,_,_,_,_,_,_,_,rfl,.inr (.inr ⟨rfl,c,n⟩)⟩,show 0<1 by decide⟩
  ·go_wp2
   go_ret
   exact⟨by unfold QV;rw[if_pos c];rfl,rfl⟩
 ·go_wp2
  go_ret
  exact⟨by unfold QV;rw[if_pos c,n];rfl,rfl⟩
theorem zUb:∃i,Tryz.prog.info? 3=some i/\i.zero=some (.int .i64 0)/\i.size=1/\i.bytes=8:=by
 have h:(Tryz.prog.info? 3).map (λi=>(i.zero,i.size,i.bytes))=some (some (.int .i64 0),1,8):=by kernel_rfl
 cases hi:Tryz.prog.info? 3 with
 | none=>rw[hi] at h;cases h
 | some i=>
   rw[hi] at h
   injection h with h
   injection h with h1 h2
   injection h2 with h2 h3
   exact⟨i,rfl,h1,h2,h3⟩
theorem QXa(x y:Int × Int)(W:World)(b:Nat)(e:b=W.heap.size):
  (∀os,grow { (W.alloc (.cells #[.int .i64 x.1,.int .i64 x.2] 90)).alloc (.cells #[.int .i64 y.1,.int .i64 y.2] 90) with drawn:=((W.alloc (.cells #[.int .i64 x.1,.int .i64 x.2] 90)).alloc (.cells #[.int .i64 y.1,.int .i64 y.2] 90)).drawn+1 } os=
   grow (W.drewN 1) (#[.cells #[.int .i64 x.1,.int .i64 x.2] 90]++ #[.cells #[.int .i64 y.1,.int .i64 y.2] 90]++os))/\
  (∀os:Array Obj,(grow { (W.alloc (.cells #[.int .i64 x.1,.int .i64 x.2] 90)).alloc (.cells #[.int .i64 y.1,.int .i64 y.2] 90) with drawn:=((W.alloc (.cells #[.int .i64 x.1,.int .i64 x.2] 90)).alloc (.cells #[.int .i64 y.1,.int .i64 y.2] 90)).drawn+1 } os).heap[b]? =some (.cells #[.int .i64 x.1,.int .i64 x.2] 90 (0,0)))/\
  (∀os:Array Obj,(grow { (W.alloc (.cells #[.int .i64 x.1,.int .i64 x.2] 90)).alloc (.cells #[.int .i64 y.1,.int .i64 y.2] 90) with drawn:=((W.alloc (.cells #[.int .i64 x.1,.int .i64 x.2] 90)).alloc (.cells #[.int .i64 y.1,.int .i64 y.2] 90)).drawn+1 } os).heap[b+1]? =some (.cells #[.int .i64 y.1,.int .i64 y.2] 90 (0,0))):=by
 subst e
 obtain⟨c,g⟩:∃c,c=Obj.cells #[.int .i64 x.1,.int .i64 x.2] 90:=⟨_,rfl⟩
 obtain⟨a,f⟩:∃a,a=Obj.cells #[.int .i64 y.1,.int .i64 y.2] 90:=⟨_,rfl⟩
 rw[<-g, <-f]
 have d:∀os:Array Obj,(W.heap.push c).push a++os=W.heap++(#[c]++ #[a]++os):=λos=>by
  apply Array.toList_inj.1
  simp
 refine⟨λos=>?_,λos=>?_,λos=>?_⟩
 ·show({ W with heap:=(W.heap.push c).push a++os,drawn:=W.drawn+1 }:World)={ W with heap:=W.heap++(#[c]++ #[a]++os),drawn:=W.drawn+1 }
  rw[d]
 ·show((W.heap.push c).push a++os)[W.heap.size]? =_
  rw[d,Array.getElem?_append_right (zo _),Nat.sub_self,Array.getElem?_append_left (by simp)]
  rfl
 ·show((W.heap.push c).push a++os)[W.heap.size+1]? =_
  rw[d,Array.getElem?_append_right (by omega),show W.heap.size+1 - W.heap.size=1 by omega,Array.getElem?_append_left (by simp)]
  rfl
theorem XN{w:World}{b k:Nat}{cs:Array Value}{t:TypeId}{n:Int}(h:w.heap[b]? =some (.cells cs t (0,0)))(d:cs[k]? =some (.int .i64 n)):(Instr.loadAt 3 (.pointer (some ⟨b,k,none⟩))).run Tryz.prog w= .ok (.int .i64 n) w:=by
 have a:w.cell? ⟨b,k,none⟩=some (.int .i64 n):=by simp[World.cell?,h,d]
 have c:=run_underlying (w:=w) (show Tryz.prog.underlying 3=some _ from Tryz.underlying3)
 simp[Instr.loadAt,Instr.sureAddr,loadVar,isAgg,c]
 rw[a]
theorem zSa{w:World}{b:Nat}:(Instr.fieldAt 90 (.pointer (some ⟨b,0,none⟩)) 0).run Tryz.prog w= .ok (.pointer (some ⟨b,0,none⟩)) w:=by
 have a:=run_underlying (w:=w) (show Tryz.prog.underlying 90=some _ from Tryz.underlying90)
 simp[Instr.fieldAt,Instr.sureAddr,a,fieldPlace,Addr.add_lit]
theorem zTa{w:World}{b:Nat}:(Instr.fieldAt 90 (.pointer (some ⟨b,0,none⟩)) 1).run Tryz.prog w= .ok (.pointer (some ⟨b,1,none⟩)) w:=by
 have a:=run_underlying (w:=w) (show Tryz.prog.underlying 90=some _ from Tryz.underlying90)
 simp[Instr.fieldAt,Instr.sureAddr,a,fieldPlace,Addr.add_lit]
theorem Kxa(a b:Int):Instr.fill (λi=>some (i*1,1)) ((Array.range (2*1)).map ((Value.int .i64 0).cells[· % (Value.int .i64 0).cells.size]!)) (#[(0,.int .i64 a),(1,.int .i64 b)]:Array (Nat × Value)).toList=some #[.int .i64 a,.int .i64 b]:=by
 simp[Instr.fill,Value.cells]
 rw[show Array.range 2= #[0,1] by decide]
 simp
theorem j0b(t0 t1 t2 t3 t4 t5 t6 g t8 t9 t10 e a f d b c v:Value):({ tmps:= #[t0,t1,t2,t3,t4,t5,t6,g,t8,t9,t10,e,a,f,d,b,c],defers:=[] }:Act).put (some 4) v={ tmps:= #[t0,t1,t2,t3,v,t5,t6,g,t8,t9,t10,e,a,f,d,b,c],defers:=[] }:=by kernel_rfl
theorem j1b(t0 t1 t2 t3 t4 t5 t6 g t8 t9 t10 e a f d b c v:Value):({ tmps:= #[t0,t1,t2,t3,t4,t5,t6,g,t8,t9,t10,e,a,f,d,b,c],defers:=[] }:Act).put (some 5) v={ tmps:= #[t0,t1,t2,t3,t4,v,t6,g,t8,t9,t10,e,a,f,d,b,c],defers:=[] }:=by kernel_rfl
theorem j2b(t0 t1 t2 t3 t4 t5 t6 g t8 t9 t10 e a f d b c v:Value):({ tmps:= #[t0,t1,t2,t3,t4,t5,t6,g,t8,t9,t10,e,a,f,d,b,c],defers:=[] }:Act).put (some 6) v={ tmps:= #[t0,t1,t2,t3,t4,t5,v,g,t8,t9,t10,e,a,f,d,b,c],defers:=[] }:=by kernel_rfl
theorem j3b(t0 t1 t2 t3 t4 t5 t6 g t8 t9 t10 e a f d b c v:Value):({ tmps:= #[t0,t1,t2,t3,t4,t5,t6,g,t8,t9,t10,e,a,f,d,b,c],defers:=[] }:Act).put (some 7) v={ tmps:= #[t0,t1,t2,t3,t4,t5,t6,v,t8,t9,t10,e,a,f,d,b,c],defers:=[] }:=by kernel_rfl
theorem j4b(t0 t1 t2 t3 t4 t5 t6 g t8 t9 t10 e a f d b c v:Value):({ tmps:= #[t0,t1,t2,t3,t4,t5,t6,g,t8,t9,t10,e,a,f,d,b,c],defers:=[] }:Act).put (some 8) v={ tmps:= #[t0,t1,t2,t3,t4,t5,t6,g,v,t9,t10,e,a,f,d,b,c],defers:=[] }:=by kernel_rfl
theorem j5b(t0 t1 t2 t3 t4 t5 t6 g t8 t9 t10 e a f d b c v:Value):({ tmps:= #[t0,t1,t2,t3,t4,t5,t6,g,t8,t9,t10,e,a,f,d,b,c],defers:=[] }:Act).put (some 9) v={ tmps:= #[t0,t1,t2,t3,t4,t5,t6,g,t8,v,t10,e,a,f,d,b,c],defers:=[] }:=by kernel_rfl
theorem zVb(t0 t1 t2 t3 t4 t5 t6 g t8 t9 t10 e a f d b c v:Value):({ tmps:= #[t0,t1,t2,t3,t4,t5,t6,g,t8,t9,t10,e,a,f,d,b,c],defers:=[] }:Act).put (some 10) v={ tmps:= #[t0,t1,t2,t3,t4,t5,t6,g,t8,t9,v,e,a,f,d,b,c],defers:=[] }:=by kernel_rfl
theorem zWb(t0 t1 t2 t3 t4 t5 t6 g t8 t9 t10 f a e d b c v:Value):({ tmps:= #[t0,t1,t2,t3,t4,t5,t6,g,t8,t9,t10,f,a,e,d,b,c],defers:=[] }:Act).put (some 11) v={ tmps:= #[t0,t1,t2,t3,t4,t5,t6,g,t8,t9,t10,v,a,e,d,b,c],defers:=[] }:=by kernel_rfl
theorem zXb(t0 t1 t2 t3 t4 t5 t6 g t8 t9 t10 d f e c a b v:Value):({ tmps:= #[t0,t1,t2,t3,t4,t5,t6,g,t8,t9,t10,d,f,e,c,a,b],defers:=[] }:Act).put (some 12) v={ tmps:= #[t0,t1,t2,t3,t4,t5,t6,g,t8,t9,t10,d,v,e,c,a,b],defers:=[] }:=by kernel_rfl
theorem zYb(t0 t1 t2 t3 t4 t5 t6 g t8 t9 t10 e a f d b c v:Value):({ tmps:= #[t0,t1,t2,t3,t4,t5,t6,g,t8,t9,t10,e,a,f,d,b,c],defers:=[] }:Act).put (some 13) v={ tmps:= #[t0,t1,t2,t3,t4,t5,t6,g,t8,t9,t10,e,a,v,d,b,c],defers:=[] }:=by kernel_rfl
theorem zZb(t0 t1 t2 t3 t4 t5 t6 g t8 t9 t10 d a e f b c v:Value):({ tmps:= #[t0,t1,t2,t3,t4,t5,t6,g,t8,t9,t10,d,a,e,f,b,c],defers:=[] }:Act).put (some 14) v={ tmps:= #[t0,t1,t2,t3,t4,t5,t6,g,t8,t9,t10,d,a,e,v,b,c],defers:=[] }:=by kernel_rfl
theorem z0b(t0 t1 t2 t3 t4 t5 t6 g t8 t9 t10 d a e c f b v:Value):({ tmps:= #[t0,t1,t2,t3,t4,t5,t6,g,t8,t9,t10,d,a,e,c,f,b],defers:=[] }:Act).put (some 15) v={ tmps:= #[t0,t1,t2,t3,t4,t5,t6,g,t8,t9,t10,d,a,e,c,v,b],defers:=[] }:=by kernel_rfl
theorem z1b(t0 t1 t2 t3 t4 t5 t6 g t8 t9 t10 d a e c b f v:Value):({ tmps:= #[t0,t1,t2,t3,t4,t5,t6,g,t8,t9,t10,d,a,e,c,b,f],defers:=[] }:Act).put (some 16) v={ tmps:= #[t0,t1,t2,t3,t4,t5,t6,g,t8,t9,t10,d,a,e,c,b,v],defers:=[] }:=by kernel_rfl
structure JK (wd:World) (b:Nat) (x y:Int × Int) (r1 r2:Int) (S:Nat->Bool) (os:Array Obj) (x4 x5 x6 x7 x8 x9 x10 x11 x12 x13 x14 x15 x16:Value):Prop where
 k0:S 0=true->x5= .pointer (some ⟨b,0,none⟩)
 k1:S 1=true->x6= .int .i64 x.1
 k2:S 2=true->x7= .pointer (some ⟨b+1,0,none⟩)
 k3:S 3=true->x8= .int .i64 y.1
 k4:S 4=true->x9= .int .i64 r1
 k5:S 5=true->x10= .pointer (some ⟨b,1,none⟩)
 k6:S 6=true->x11= .int .i64 x.2
 k7:S 7=true->x12= .pointer (some ⟨b+1,1,none⟩)
 k8:S 8=true->x13= .int .i64 y.2
 k9:S 9=true->x14= .int .i64 r2
 k10:S 10=true->∃k,x15= .slice (some ⟨k,0,none⟩) 2 2/\(grow wd os).cell? ⟨k,0,none⟩=some (.int .i64 r1)/\(grow wd os).cell? ⟨k,1,none⟩=some (.int .i64 r2)
 k11:S 11=true->x16= .int .i64 (QV r1 r2)
 k12:S 12=true->x4= .int .i64 (QV r1 r2)
def JJ(wd:World)(b:Nat)(x y:Int × Int)(p o:Int)(S:Nat->Bool)(act:Act)(w:World):Prop:=
 ∃(os:Array Obj) (i j m n l k f g c e d h a:Value),w=grow wd os/\act={ tmps:= #[.agg #[.int .i64 x.1,.int .i64 x.2],.agg #[.int .i64 y.1,.int .i64 y.2],.pointer (some ⟨b,0,none⟩),.pointer (some ⟨b+1,0,none⟩),i,j,m,n,l,k,f,g,c,e,d,h,a],defers:=[] }/\JK wd b x y p o S os i j m n l k f g c e d h a
theorem qc{S:Nat->Bool}{i j:Nat}(h:j≠i)(q:(if j=i then true else S j)=true):S j=true:=by rw[if_neg h] at q;exact q
set_option maxHeartbeats 4000000 in
theorem Kya(x y:Int × Int)(W:World):Calls Tryz.prog 100 #[.agg #[.int .i64 x.1,.int .i64 x.2],.agg #[.int .i64 y.1,.int .i64 y.2]] W λe w'=>e= .returned (.int .i64 (QV (Lib.compareInt x.1 y.1) (Lib.compareInt x.2 y.2)))/\∃q η,w'=grow (W.drewN q) η:=by
 have z:=λa b N=>AnyG.cmp_Compare_int wka a b N
 change ∀a b N,Calls Tryz.prog 122 _ _ _ at z
 have O:=λN=>z x.1 y.1 N
 have Y:=λN=>z x.2 y.2 N
 clear z
 obtain⟨t,X⟩:∃r,r=Lib.compareInt x.1 y.1:=⟨_,rfl⟩
 obtain⟨u,R⟩:∃r,r=Lib.compareInt x.2 y.2:=⟨_,rfl⟩
 rw[<-X] at O⊢
 rw[<-R] at Y⊢
 clear X R
 have U:∀args w,(callFunc 122 args).run Tryz.prog w= .ok (.enter 122 args) w:=enters_of Tryz.func122 (by kernel_rfl) rfl
 have δ:∀args w,(callFunc 176 args).run Tryz.prog w= .ok (.enter 176 args) w:=enters_of Tryz.func176 (by kernel_rfl) rfl
 obtain⟨ie,θ,hz,hs,hby⟩:=zUb
 go_enter Tryz.func100,Tryz.ntmps100
 go_wp2_with fail
 obtain⟨W2,V⟩:∃W2,W2=(W.alloc (.cells #[.int .i64 x.1,.int .i64 x.2] 90)).alloc (.cells #[.int .i64 y.1,.int .i64 y.2] 90):=⟨_,rfl⟩
 obtain⟨wd,α⟩:∃wd:World,wd={ W2 with drawn:=W2.drawn+1 }:=⟨_,rfl⟩
 obtain⟨b,hb⟩:∃b,b=W.heap.size:=⟨_,rfl⟩
 obtain⟨Z,M,L⟩:=QXa x y W b hb
 rw[<-V, <-α] at Z M L
 have l1:∀os,(Instr.loadAt 3 (.pointer (some ⟨b,0,none⟩))).run Tryz.prog (grow wd os)= .ok (.int .i64 x.1) (grow wd os):=λos=>XN (M os) rfl
 have l2:∀os,(Instr.loadAt 3 (.pointer (some ⟨b+1,0,none⟩))).run Tryz.prog (grow wd os)= .ok (.int .i64 y.1) (grow wd os):=λos=>XN (L os) rfl
 have l3:∀os,(Instr.loadAt 3 (.pointer (some ⟨b,1,none⟩))).run Tryz.prog (grow wd os)= .ok (.int .i64 x.2) (grow wd os):=λos=>XN (M os) rfl
 have l4:∀os,(Instr.loadAt 3 (.pointer (some ⟨b+1,1,none⟩))).run Tryz.prog (grow wd os)= .ok (.int .i64 y.2) (grow wd os):=λos=>XN (L os) rfl
 rw[<-V]
 rw[<-hb]
 refine zTb (by kernel_rfl) (by decide) ?_ (JJ wd b x y t u) ⟨#[],.int .i64 0,undef,undef,undef,undef,undef,undef,undef,undef,undef,undef,undef,undef,by rw[<-α,grow_empty],rfl,⟨(λq=>by cases q),(λq=>by cases q),(λq=>by cases q),(λq=>by cases q),(λq=>by cases q),(λq=>by cases q),(λq=>by cases q),(λq=>by cases q),(λq=>by cases q),(λq=>by cases q),(λq=>by cases q),(λq=>by cases q),(λq=>by cases q)⟩⟩ ?_ ?_
 ·intro i o c
  match i,c with
  | 0,c=>injection c with c;subst c;rfl
  | 1,c=>injection c with c;subst c;rfl
  | 2,c=>injection c with c;subst c;rfl
  | 3,c=>injection c with c;subst c;rfl
  | 4,c=>injection c with c;subst c;rfl
  | 5,c=>injection c with c;subst c;rfl
  | 6,c=>injection c with c;subst c;rfl
  | 7,c=>injection c with c;subst c;rfl
  | 8,c=>injection c with c;subst c;rfl
  | 9,c=>injection c with c;subst c;rfl
  | 10,c=>injection c with c;subst c;rfl
  | 11,c=>injection c with c;subst c;rfl
  | 12,c=>injection c with c;subst c;rfl
  | n+13,c=>cases c
 ·rintro i o S act w c ο d ⟨os,A,D,G,C,F,E,p,s,l,m,j,h,g,rfl,rfl,J⟩ K B
  match i,c with
  | 0,c=>
    injection c with c
    subst c
    refine wz (v:=(.pointer (some ⟨b,0,none⟩))) (w':=grow wd os) ?_ ?_
    ·simp only[execOp]
     simp[Act.eval,zSa]
    ·exact B _ _ ⟨os,A,(.pointer (some ⟨b,0,none⟩)),G,C,F,E,p,s,l,m,j,h,g,rfl,j1b _ _ _ _ _ _ _ _ _ _ _ _ _ _ _ _ _ _,⟨λ_=>rfl,λq=>J.k1 (qc (by decide) q),λq=>J.k2 (qc (by decide) q),λq=>J.k3 (qc (by decide) q),λq=>J.k4 (qc (by decide) q),λq=>J.k5 (qc (by decide) q),λq=>J.k6 (qc (by decide) q),λq=>J.k7 (qc (by decide) q),λq=>J.k8 (qc (by decide) q),λq=>J.k9 (qc (by decide) q),λq=>J.k10 (qc (by decide) q),λq=>J.k11 (qc (by decide) q),λq=>J.k12 (qc (by decide) q)⟩⟩
  | 1,c=>
    injection c with c
    subst c
    have e0:=J.k0 (d 0 (by decide))
    subst e0
    refine wz (v:=(.int .i64 x.1)) (w':=grow wd os) ?_ ?_
    ·simp only[execOp]
     simp[Act.eval,l1 os]
    ·exact B _ _ ⟨os,A,(.pointer (some ⟨b,0,none⟩)),(.int .i64 x.1),C,F,E,p,s,l,m,j,h,g,rfl,j2b _ _ _ _ _ _ _ _ _ _ _ _ _ _ _ _ _ _,⟨λq=>J.k0 (qc (by decide) q),λ_=>rfl,λq=>J.k2 (qc (by decide) q),λq=>J.k3 (qc (by decide) q),λq=>J.k4 (qc (by decide) q),λq=>J.k5 (qc (by decide) q),λq=>J.k6 (qc (by decide) q),λq=>J.k7 (qc (by decide) q),λq=>J.k8 (qc (by decide) q),λq=>J.k9 (qc (by decide) q),λq=>J.k10 (qc (by decide) q),λq=>J.k11 (qc (by decide) q),λq=>J.k12 (qc (by decide) q)⟩⟩
  | 2,c=>
    injection c with c
    subst c
    refine wz (v:=(.pointer (some ⟨b+1,0,none⟩))) (w':=grow wd os) ?_ ?_
    ·simp only[execOp]
     simp[Act.eval,zSa]
    ·exact B _ _ ⟨os,A,D,G,(.pointer (some ⟨b+1,0,none⟩)),F,E,p,s,l,m,j,h,g,rfl,j3b _ _ _ _ _ _ _ _ _ _ _ _ _ _ _ _ _ _,⟨λq=>J.k0 (qc (by decide) q),λq=>J.k1 (qc (by decide) q),λ_=>rfl,λq=>J.k3 (qc (by decide) q),λq=>J.k4 (qc (by decide) q),λq=>J.k5 (qc (by decide) q),λq=>J.k6 (qc (by decide) q),λq=>J.k7 (qc (by decide) q),λq=>J.k8 (qc (by decide) q),λq=>J.k9 (qc (by decide) q),λq=>J.k10 (qc (by decide) q),λq=>J.k11 (qc (by decide) q),λq=>J.k12 (qc (by decide) q)⟩⟩
  | 3,c=>
    injection c with c
    subst c
    have e2:=J.k2 (d 2 (by decide))
    subst e2
    refine wz (v:=(.int .i64 y.1)) (w':=grow wd os) ?_ ?_
    ·simp only[execOp]
     simp[Act.eval,l2 os]
    ·exact B _ _ ⟨os,A,D,G,(.pointer (some ⟨b+1,0,none⟩)),(.int .i64 y.1),E,p,s,l,m,j,h,g,rfl,j4b _ _ _ _ _ _ _ _ _ _ _ _ _ _ _ _ _ _,⟨λq=>J.k0 (qc (by decide) q),λq=>J.k1 (qc (by decide) q),λq=>J.k2 (qc (by decide) q),λ_=>rfl,λq=>J.k4 (qc (by decide) q),λq=>J.k5 (qc (by decide) q),λq=>J.k6 (qc (by decide) q),λq=>J.k7 (qc (by decide) q),λq=>J.k8 (qc (by decide) q),λq=>J.k9 (qc (by decide) q),λq=>J.k10 (qc (by decide) q),λq=>J.k11 (qc (by decide) q),λq=>J.k12 (qc (by decide) q)⟩⟩
  | 4,c=>
    injection c with c
    subst c
    have e1:=J.k1 (d 1 (by decide))
    have e3:=J.k3 (d 3 (by decide))
    subst e1 e3
    refine Wh (f:=122) (args:= #[.int .i64 x.1,.int .i64 y.1]) ?_ (O _) ?_
    ·simp[execOp,resolve,Act.eval,Deferred.ofValue,invoke,U]
    ·rintro e w2 ⟨rfl,rfl⟩
     refine⟨_,rfl,?_⟩
     exact B _ _ ⟨os,A,D,(.int .i64 x.1),C,(.int .i64 y.1),(.int .i64 t),p,s,l,m,j,h,g,rfl,j5b _ _ _ _ _ _ _ _ _ _ _ _ _ _ _ _ _ _,⟨λq=>J.k0 (qc (by decide) q),λq=>J.k1 (qc (by decide) q),λq=>J.k2 (qc (by decide) q),λq=>J.k3 (qc (by decide) q),λ_=>rfl,λq=>J.k5 (qc (by decide) q),λq=>J.k6 (qc (by decide) q),λq=>J.k7 (qc (by decide) q),λq=>J.k8 (qc (by decide) q),λq=>J.k9 (qc (by decide) q),λq=>J.k10 (qc (by decide) q),λq=>J.k11 (qc (by decide) q),λq=>J.k12 (qc (by decide) q)⟩⟩
  | 5,c=>
    injection c with c
    subst c
    refine wz (v:=(.pointer (some ⟨b,1,none⟩))) (w':=grow wd os) ?_ ?_
    ·simp only[execOp]
     simp[Act.eval,zTa]
    ·exact B _ _ ⟨os,A,D,G,C,F,E,(.pointer (some ⟨b,1,none⟩)),s,l,m,j,h,g,rfl,zVb _ _ _ _ _ _ _ _ _ _ _ _ _ _ _ _ _ _,⟨λq=>J.k0 (qc (by decide) q),λq=>J.k1 (qc (by decide) q),λq=>J.k2 (qc (by decide) q),λq=>J.k3 (qc (by decide) q),λq=>J.k4 (qc (by decide) q),λ_=>rfl,λq=>J.k6 (qc (by decide) q),λq=>J.k7 (qc (by decide) q),λq=>J.k8 (qc (by decide) q),λq=>J.k9 (qc (by decide) q),λq=>J.k10 (qc (by decide) q),λq=>J.k11 (qc (by decide) q),λq=>J.k12 (qc (by decide) q)⟩⟩
  | 6,c=>
    injection c with c
    subst c
    have e5:=J.k5 (d 5 (by decide))
    subst e5
    refine wz (v:=(.int .i64 x.2)) (w':=grow wd os) ?_ ?_
    ·simp only[execOp]
     simp[Act.eval,l3 os]
    ·exact B _ _ ⟨os,A,D,G,C,F,E,(.pointer (some ⟨b,1,none⟩)),(.int .i64 x.2),l,m,j,h,g,rfl,zWb _ _ _ _ _ _ _ _ _ _ _ _ _ _ _ _ _ _,⟨λq=>J.k0 (qc (by decide) q),λq=>J.k1 (qc (by decide) q),λq=>J.k2 (qc (by decide) q),λq=>J.k3 (qc (by decide) q),λq=>J.k4 (qc (by decide) q),λq=>J.k5 (qc (by decide) q),λ_=>rfl,λq=>J.k7 (qc (by decide) q),λq=>J.k8 (qc (by decide) q),λq=>J.k9 (qc (by decide) q),λq=>J.k10 (qc (by decide) q),λq=>J.k11 (qc (by decide) q),λq=>J.k12 (qc (by decide) q)⟩⟩
  | 7,c=>
    injection c with c
    subst c
    refine wz (v:=(.pointer (some ⟨b+1,1,none⟩))) (w':=grow wd os) ?_ ?_
    ·simp only[execOp]
     simp[Act.eval,zTa]
    ·exact B _ _ ⟨os,A,D,G,C,F,E,p,s,(.pointer (some ⟨b+1,1,none⟩)),m,j,h,g,rfl,zXb _ _ _ _ _ _ _ _ _ _ _ _ _ _ _ _ _ _,⟨λq=>J.k0 (qc (by decide) q),λq=>J.k1 (qc (by decide) q),λq=>J.k2 (qc (by decide) q),λq=>J.k3 (qc (by decide) q),λq=>J.k4 (qc (by decide) q),λq=>J.k5 (qc (by decide) q),λq=>J.k6 (qc (by decide) q),λ_=>rfl,λq=>J.k8 (qc (by decide) q),λq=>J.k9 (qc (by decide) q),λq=>J.k10 (qc (by decide) q),λq=>J.k11 (qc (by decide) q),λq=>J.k12 (qc (by decide) q)⟩⟩
  | 8,c=>
    injection c with c
    subst c
    have e7:=J.k7 (d 7 (by decide))
    subst e7
    refine wz (v:=(.int .i64 y.2)) (w':=grow wd os) ?_ ?_
    ·simp only[execOp]
     simp[Act.eval,l4 os]
    ·exact B _ _ ⟨os,A,D,G,C,F,E,p,s,(.pointer (some ⟨b+1,1,none⟩)),(.int .i64 y.2),j,h,g,rfl,zYb _ _ _ _ _ _ _ _ _ _ _ _ _ _ _ _ _ _,⟨λq=>J.k0 (qc (by decide) q),λq=>J.k1 (qc (by decide) q),λq=>J.k2 (qc (by decide) q),λq=>J.k3 (qc (by decide) q),λq=>J.k4 (qc (by decide) q),λq=>J.k5 (qc (by decide) q),λq=>J.k6 (qc (by decide) q),λq=>J.k7 (qc (by decide) q),λ_=>rfl,λq=>J.k9 (qc (by decide) q),λq=>J.k10 (qc (by decide) q),λq=>J.k11 (qc (by decide) q),λq=>J.k12 (qc (by decide) q)⟩⟩
  | 9,c=>
    injection c with c
    subst c
    have e6:=J.k6 (d 6 (by decide))
    have e8:=J.k8 (d 8 (by decide))
    subst e6 e8
    refine Wh (f:=122) (args:= #[.int .i64 x.2,.int .i64 y.2]) ?_ (Y _) ?_
    ·simp[execOp,resolve,Act.eval,Deferred.ofValue,invoke,U]
    ·rintro e w2 ⟨rfl,rfl⟩
     refine⟨_,rfl,?_⟩
     exact B _ _ ⟨os,A,D,G,C,F,E,p,(.int .i64 x.2),l,(.int .i64 y.2),(.int .i64 u),h,g,rfl,zZb _ _ _ _ _ _ _ _ _ _ _ _ _ _ _ _ _ _,⟨λq=>J.k0 (qc (by decide) q),λq=>J.k1 (qc (by decide) q),λq=>J.k2 (qc (by decide) q),λq=>J.k3 (qc (by decide) q),λq=>J.k4 (qc (by decide) q),λq=>J.k5 (qc (by decide) q),λq=>J.k6 (qc (by decide) q),λq=>J.k7 (qc (by decide) q),λq=>J.k8 (qc (by decide) q),λ_=>rfl,λq=>J.k10 (qc (by decide) q),λq=>J.k11 (qc (by decide) q),λq=>J.k12 (qc (by decide) q)⟩⟩
  | 10,c=>
    injection c with c
    subst c
    have e4:=J.k4 (d 4 (by decide))
    have e9:=J.k9 (d 9 (by decide))
    subst e4 e9
    have I:=run_buildSlice (P:=Tryz.prog) (grow wd os) 27 3 2 #[(0,.int .i64 t),(1,.int .i64 u)] #[.int .i64 t,.int .i64 u] ie (.int .i64 0) Tryz.underlying27 θ hz (by rw[hs];decide) (by rw[hs];decide) (by rw[hs];exact Kxa t u)
    have T:(grow wd os).alloc (.cells #[.int .i64 t,.int .i64 u] 3)=grow wd (os++ #[.cells #[.int .i64 t,.int .i64 u] 3]):=by rw[alloc_eq_grow,grow_grow]
    rw[T] at I
    have H:(grow wd (os++ #[.cells #[.int .i64 t,.int .i64 u] 3])).cell? ⟨(grow wd os).heap.size,0,none⟩=some (.int .i64 t)/\(grow wd (os++ #[.cells #[.int .i64 t,.int .i64 u] 3])).cell? ⟨(grow wd os).heap.size,1,none⟩=some (.int .i64 u):=by
     have:(grow wd (os++ #[.cells #[.int .i64 t,.int .i64 u] 3])).heap[(grow wd os).heap.size]? =some (.cells #[.int .i64 t,.int .i64 u] 3 (0,0)):=by rw[<-T,heap_alloc_new]
     constructor<;>(unfold World.cell?;rw[this];rfl)
    refine wz (v:= .slice (some ⟨(grow wd os).heap.size,0,none⟩) 2 2) (w':=grow wd (os++ #[.cells #[.int .i64 t,.int .i64 u] 3])) ?_ ?_
    ·simp only[execOp]
     simp[Act.eval,I]
    ·exact B _ _ ⟨(os++ #[.cells #[.int .i64 t,.int .i64 u] 3]),A,D,G,C,F,(.int .i64 t),p,s,l,m,(.int .i64 u),(.slice (some ⟨(grow wd os).heap.size,0,none⟩) 2 2),g,rfl,z0b _ _ _ _ _ _ _ _ _ _ _ _ _ _ _ _ _ _,⟨λq=>J.k0 (qc (by decide) q),λq=>J.k1 (qc (by decide) q),λq=>J.k2 (qc (by decide) q),λq=>J.k3 (qc (by decide) q),λq=>J.k4 (qc (by decide) q),λq=>J.k5 (qc (by decide) q),λq=>J.k6 (qc (by decide) q),λq=>J.k7 (qc (by decide) q),λq=>J.k8 (qc (by decide) q),λq=>J.k9 (qc (by decide) q),λ_=>⟨_,rfl,H.1,H.2⟩,λq=>J.k11 (qc (by decide) q),λq=>J.k12 (qc (by decide) q)⟩⟩
  | 11,c=>
    injection c with c
    subst c
    obtain⟨k,ε,z1,z2⟩:=J.k10 (d 10 (by decide))
    subst ε
    refine Wh (f:=176) (args:= #[.slice (some ⟨k,0,none⟩) 2 2]) ?_ (orC t u _ k z1 z2) ?_
    ·simp[execOp,resolve,Act.eval,Deferred.ofValue,invoke,δ]
    ·rintro e w2 ⟨rfl,rfl⟩
     refine⟨_,rfl,?_⟩
     exact B _ _ ⟨os,A,D,G,C,F,E,p,s,l,m,j,(.slice (some ⟨k,0,none⟩) 2 2),(.int .i64 (QV t u)),rfl,z1b _ _ _ _ _ _ _ _ _ _ _ _ _ _ _ _ _ _,⟨λq=>J.k0 (qc (by decide) q),λq=>J.k1 (qc (by decide) q),λq=>J.k2 (qc (by decide) q),λq=>J.k3 (qc (by decide) q),λq=>J.k4 (qc (by decide) q),λq=>J.k5 (qc (by decide) q),λq=>J.k6 (qc (by decide) q),λq=>J.k7 (qc (by decide) q),λq=>J.k8 (qc (by decide) q),λq=>J.k9 (qc (by decide) q),λq=>J.k10 (qc (by decide) q),λ_=>rfl,λq=>J.k12 (qc (by decide) q)⟩⟩
  | 12,c=>
    injection c with c
    subst c
    have ι:=J.k11 (d 11 (by decide))
    subst ι
    refine wz (v:=(.int .i64 (QV t u))) (w':=grow wd os) ?_ ?_
    ·simp only[execOp]
     simp[Act.eval]
    ·exact B _ _ ⟨os,(.int .i64 (QV t u)),D,G,C,F,E,p,s,l,m,j,h,(.int .i64 (QV t u)),rfl,j0b _ _ _ _ _ _ _ _ _ _ _ _ _ _ _ _ _ _,⟨λq=>J.k0 (qc (by decide) q),λq=>J.k1 (qc (by decide) q),λq=>J.k2 (qc (by decide) q),λq=>J.k3 (qc (by decide) q),λq=>J.k4 (qc (by decide) q),λq=>J.k5 (qc (by decide) q),λq=>J.k6 (qc (by decide) q),λq=>J.k7 (qc (by decide) q),λq=>J.k8 (qc (by decide) q),λq=>J.k9 (qc (by decide) q),λq=>J.k10 (qc (by decide) q),λq=>J.k11 (qc (by decide) q),λ_=>rfl⟩⟩
  | n+13,c=>cases c
 ·rintro S act w Q ⟨os,A,D,G,C,F,E,p,s,l,m,j,h,g,rfl,rfl,J⟩
  have ζ:=J.k12 (Q 12 (by decide))
  subst ζ
  go_wp2
  go_ret
  exact⟨rfl,1,_,Z os⟩
