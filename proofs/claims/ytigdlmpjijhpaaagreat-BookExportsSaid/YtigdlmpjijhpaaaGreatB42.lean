import Derived.Test.YtigdlmpjijhpaaaGreatBA
import Derived.Test.YtigdlmpjijhpaaaGreatB38
import Derived.Lib.Walk
import Derived.Great.BuildSlice
set_option linter.all false
namespace Go.Proofs.YtigdlmpjijhpaaaGreat.Ax
open Go Go.Proofs Go.Shelf Go.RowKit Go.Lib Go.Sort
set_option maxRecDepth 100000
def Qv(a b:Int):Int:=if a=0 then b else a
def jgb:Option Value->Nat
 | some (.int _ i)=>(2 - i).toNat
 | _=>0
set_option maxHeartbeats 2000000 in
theorem orC(a b:Int)(W:World)(blk:Nat)(c0:W.cell? ⟨blk,0,none⟩=some (.int .i64 a))(q:W.cell? ⟨blk,1,none⟩=some (.int .i64 b)):
  Calls Tryz.prog 176 #[.slice (some ⟨blk,0,none⟩) 2 2] W λe w'=>e= .returned (.int .i64 (Qv a b))/\w'=W:=by
 go_enter Tryz.func176,Tryz.ntmps176
 go_wp2_with fail
 refine wp_loop (λact w=>w=W/\∃(i:Int) (p o k f d j l h m g:Value),act={ tmps:= #[.slice (some ⟨blk,0,none⟩) 2 2,undef,.int .i64 0,.int .i64 0,undef,p,.slice (some ⟨blk,0,none⟩) 2 2,.int .i64 2,.int .i64 i,o,k,f,d,j,l,h,m,g],defers:=[] }/\(i=0∨(i=1/\a=0)∨(i=2/\a=0/\b=0)))
  (λact _=>jgb act.tmps[8]?) ⟨rfl,0,undef,undef,undef,undef,undef,undef,undef,undef,undef,undef,rfl,.inl rfl⟩ ?_
 rintro act w ⟨rfl,i,p,o,k,f,d,j,l,h,m,g,rfl,hi⟩
 rcases hi with rfl|⟨rfl,c⟩|⟨rfl,c,n⟩
 ·cases h0:(a != 0)
  ·have c:a=0:=by simpa using h0
   go_wp2
   exact⟨⟨trivial,1,_,_,_,_,_,_,_,_,_,_,rfl,.inr (.inl ⟨rfl,c⟩)⟩,show 1<2 by decide⟩
  ·have c:¬ a=0:=by simpa using h0
   go_wp2
   go_ret
   exact⟨by unfold Qv;rw[if_neg c];rfl,rfl⟩
 ·cases h0:(b != 0)
  ·have n:b=0:=by simpa using h0
   go_wp2
   exact⟨⟨trivial,2,_,_,_,_,_,_,_,_,_,_,rfl,.inr (.inr ⟨rfl,c,n⟩)⟩,show 0<1 by decide⟩
  ·go_wp2
   go_ret
   exact⟨by unfold Qv;rw[if_pos c];rfl,rfl⟩
 ·go_wp2
  go_ret
  exact⟨by unfold Qv;rw[if_pos c,n];rfl,rfl⟩
theorem zdb:∃i,Tryz.prog.info? 3=some i/\i.zero=some (.int .i64 0)/\i.size=1/\i.bytes=8:=by
 have h:(Tryz.prog.info? 3).map (λi=>(i.zero,i.size,i.bytes))=some (some (.int .i64 0),1,8):=by kernel_rfl
 cases hi:Tryz.prog.info? 3 with
 | none=>rw[hi] at h;cases h
 | some i=>
   rw[hi] at h
   injection h with h
   injection h with h1 h2
   injection h2 with h2 h3
   exact⟨i,rfl,h1,h2,h3⟩
theorem QFa(x y:Int × Int)(W:World)(b:Nat)(g:b=W.heap.size):
  (∀os,grow { (W.alloc (.cells #[.int .i64 x.1,.int .i64 x.2] 90)).alloc (.cells #[.int .i64 y.1,.int .i64 y.2] 90) with drawn:=((W.alloc (.cells #[.int .i64 x.1,.int .i64 x.2] 90)).alloc (.cells #[.int .i64 y.1,.int .i64 y.2] 90)).drawn+1 } os=
   grow (W.drewN 1) (#[.cells #[.int .i64 x.1,.int .i64 x.2] 90]++ #[.cells #[.int .i64 y.1,.int .i64 y.2] 90]++os))/\
  (∀os:Array Obj,(grow { (W.alloc (.cells #[.int .i64 x.1,.int .i64 x.2] 90)).alloc (.cells #[.int .i64 y.1,.int .i64 y.2] 90) with drawn:=((W.alloc (.cells #[.int .i64 x.1,.int .i64 x.2] 90)).alloc (.cells #[.int .i64 y.1,.int .i64 y.2] 90)).drawn+1 } os).heap[b]? =some (.cells #[.int .i64 x.1,.int .i64 x.2] 90 (0,0)))/\
  (∀os:Array Obj,(grow { (W.alloc (.cells #[.int .i64 x.1,.int .i64 x.2] 90)).alloc (.cells #[.int .i64 y.1,.int .i64 y.2] 90) with drawn:=((W.alloc (.cells #[.int .i64 x.1,.int .i64 x.2] 90)).alloc (.cells #[.int .i64 y.1,.int .i64 y.2] 90)).drawn+1 } os).heap[b+1]? =some (.cells #[.int .i64 y.1,.int .i64 y.2] 90 (0,0))):=by
 subst g
 obtain⟨a,f⟩:∃a,a=Obj.cells #[.int .i64 x.1,.int .i64 x.2] 90:=⟨_,rfl⟩
 obtain⟨c,e⟩:∃c,c=Obj.cells #[.int .i64 y.1,.int .i64 y.2] 90:=⟨_,rfl⟩
 rw[<-f, <-e]
 have d:∀os:Array Obj,(W.heap.push a).push c++os=W.heap++(#[a]++ #[c]++os):=λos=>by
  apply Array.toList_inj.1
  simp
 refine⟨λos=>?_,λos=>?_,λos=>?_⟩
 ·show({ W with heap:=(W.heap.push a).push c++os,drawn:=W.drawn+1 }:World)={ W with heap:=W.heap++(#[a]++ #[c]++os),drawn:=W.drawn+1 }
  rw[d]
 ·show((W.heap.push a).push c++os)[W.heap.size]? =_
  rw[d,Array.getElem?_append_right (zn _),Nat.sub_self,Array.getElem?_append_left (by simp)]
  rfl
 ·show((W.heap.push a).push c++os)[W.heap.size+1]? =_
  rw[d,Array.getElem?_append_right (by omega),show W.heap.size+1 - W.heap.size=1 by omega,Array.getElem?_append_left (by simp)]
  rfl
theorem Xr{w:World}{b k:Nat}{cs:Array Value}{t:TypeId}{n:Int}(h:w.heap[b]? =some (.cells cs t (0,0)))(c:cs[k]? =some (.int .i64 n)):(Instr.loadAt 3 (.pointer (some ⟨b,k,none⟩))).run Tryz.prog w= .ok (.int .i64 n) w:=by
 have a:w.cell? ⟨b,k,none⟩=some (.int .i64 n):=by simp[World.cell?,h,c]
 have d:=run_underlying (w:=w) (show Tryz.prog.underlying 3=some _ from Tryz.underlying3)
 simp[Instr.loadAt,Instr.sureAddr,loadVar,isAgg,d]
 rw[a]
theorem zBa{w:World}{b:Nat}:(Instr.fieldAt 90 (.pointer (some ⟨b,0,none⟩)) 0).run Tryz.prog w= .ok (.pointer (some ⟨b,0,none⟩)) w:=by
 have a:=run_underlying (w:=w) (show Tryz.prog.underlying 90=some _ from Tryz.underlying90)
 simp[Instr.fieldAt,Instr.sureAddr,a,fieldPlace,Addr.add_lit]
theorem zCa{w:World}{b:Nat}:(Instr.fieldAt 90 (.pointer (some ⟨b,0,none⟩)) 1).run Tryz.prog w= .ok (.pointer (some ⟨b,1,none⟩)) w:=by
 have a:=run_underlying (w:=w) (show Tryz.prog.underlying 90=some _ from Tryz.underlying90)
 simp[Instr.fieldAt,Instr.sureAddr,a,fieldPlace,Addr.add_lit]
theorem XPa(b a:Int):Instr.fill (λi=>some (i*1,1)) ((Array.range (2*1)).map ((Value.int .i64 0).cells[· % (Value.int .i64 0).cells.size]!)) (#[(0,.int .i64 b),(1,.int .i64 a)]:Array (Nat × Value)).toList=some #[.int .i64 b,.int .i64 a]:=by
 simp[Instr.fill,Value.cells]
 rw[show Array.range 2= #[0,1] by decide]
 simp
theorem jhb(t0 t1 t2 t3 t4 t5 t6 g t8 t9 t10 d a b c e f v:Value):({ tmps:= #[t0,t1,t2,t3,t4,t5,t6,g,t8,t9,t10,d,a,b,c,e,f],defers:=[] }:Act).put (some 4) v={ tmps:= #[t0,t1,t2,t3,v,t5,t6,g,t8,t9,t10,d,a,b,c,e,f],defers:=[] }:=by kernel_rfl
theorem jib(t0 t1 t2 t3 t4 t5 t6 g t8 t9 t10 d a b c e f v:Value):({ tmps:= #[t0,t1,t2,t3,t4,t5,t6,g,t8,t9,t10,d,a,b,c,e,f],defers:=[] }:Act).put (some 5) v={ tmps:= #[t0,t1,t2,t3,t4,v,t6,g,t8,t9,t10,d,a,b,c,e,f],defers:=[] }:=by kernel_rfl
theorem jjb(t0 t1 t2 t3 t4 t5 t6 g t8 t9 t10 d a b c e f v:Value):({ tmps:= #[t0,t1,t2,t3,t4,t5,t6,g,t8,t9,t10,d,a,b,c,e,f],defers:=[] }:Act).put (some 6) v={ tmps:= #[t0,t1,t2,t3,t4,t5,v,g,t8,t9,t10,d,a,b,c,e,f],defers:=[] }:=by kernel_rfl
theorem jkb(t0 t1 t2 t3 t4 t5 t6 g t8 t9 t10 d a b c e f v:Value):({ tmps:= #[t0,t1,t2,t3,t4,t5,t6,g,t8,t9,t10,d,a,b,c,e,f],defers:=[] }:Act).put (some 7) v={ tmps:= #[t0,t1,t2,t3,t4,t5,t6,v,t8,t9,t10,d,a,b,c,e,f],defers:=[] }:=by kernel_rfl
theorem jlb(t0 t1 t2 t3 t4 t5 t6 g t8 t9 t10 d a b c e f v:Value):({ tmps:= #[t0,t1,t2,t3,t4,t5,t6,g,t8,t9,t10,d,a,b,c,e,f],defers:=[] }:Act).put (some 8) v={ tmps:= #[t0,t1,t2,t3,t4,t5,t6,g,v,t9,t10,d,a,b,c,e,f],defers:=[] }:=by kernel_rfl
theorem jmb(t0 t1 t2 t3 t4 t5 t6 g t8 t9 t10 d a b c e f v:Value):({ tmps:= #[t0,t1,t2,t3,t4,t5,t6,g,t8,t9,t10,d,a,b,c,e,f],defers:=[] }:Act).put (some 9) v={ tmps:= #[t0,t1,t2,t3,t4,t5,t6,g,t8,v,t10,d,a,b,c,e,f],defers:=[] }:=by kernel_rfl
theorem zeb(t0 t1 t2 t3 t4 t5 t6 g t8 t9 t10 d a b c e f v:Value):({ tmps:= #[t0,t1,t2,t3,t4,t5,t6,g,t8,t9,t10,d,a,b,c,e,f],defers:=[] }:Act).put (some 10) v={ tmps:= #[t0,t1,t2,t3,t4,t5,t6,g,t8,t9,v,d,a,b,c,e,f],defers:=[] }:=by kernel_rfl
theorem zfb(t0 t1 t2 t3 t4 t5 t6 g t8 t9 t10 f a b c d e v:Value):({ tmps:= #[t0,t1,t2,t3,t4,t5,t6,g,t8,t9,t10,f,a,b,c,d,e],defers:=[] }:Act).put (some 11) v={ tmps:= #[t0,t1,t2,t3,t4,t5,t6,g,t8,t9,t10,v,a,b,c,d,e],defers:=[] }:=by kernel_rfl
theorem zgb(t0 t1 t2 t3 t4 t5 t6 g t8 t9 t10 c f a b d e v:Value):({ tmps:= #[t0,t1,t2,t3,t4,t5,t6,g,t8,t9,t10,c,f,a,b,d,e],defers:=[] }:Act).put (some 12) v={ tmps:= #[t0,t1,t2,t3,t4,t5,t6,g,t8,t9,t10,c,v,a,b,d,e],defers:=[] }:=by kernel_rfl
theorem zhb(t0 t1 t2 t3 t4 t5 t6 g t8 t9 t10 c a f b d e v:Value):({ tmps:= #[t0,t1,t2,t3,t4,t5,t6,g,t8,t9,t10,c,a,f,b,d,e],defers:=[] }:Act).put (some 13) v={ tmps:= #[t0,t1,t2,t3,t4,t5,t6,g,t8,t9,t10,c,a,v,b,d,e],defers:=[] }:=by kernel_rfl
theorem zib(t0 t1 t2 t3 t4 t5 t6 g t8 t9 t10 c a b f d e v:Value):({ tmps:= #[t0,t1,t2,t3,t4,t5,t6,g,t8,t9,t10,c,a,b,f,d,e],defers:=[] }:Act).put (some 14) v={ tmps:= #[t0,t1,t2,t3,t4,t5,t6,g,t8,t9,t10,c,a,b,v,d,e],defers:=[] }:=by kernel_rfl
theorem zjb(t0 t1 t2 t3 t4 t5 t6 g t8 t9 t10 d a b c f e v:Value):({ tmps:= #[t0,t1,t2,t3,t4,t5,t6,g,t8,t9,t10,d,a,b,c,f,e],defers:=[] }:Act).put (some 15) v={ tmps:= #[t0,t1,t2,t3,t4,t5,t6,g,t8,t9,t10,d,a,b,c,v,e],defers:=[] }:=by kernel_rfl
theorem zkb(t0 t1 t2 t3 t4 t5 t6 g t8 t9 t10 d a b c e f v:Value):({ tmps:= #[t0,t1,t2,t3,t4,t5,t6,g,t8,t9,t10,d,a,b,c,e,f],defers:=[] }:Act).put (some 16) v={ tmps:= #[t0,t1,t2,t3,t4,t5,t6,g,t8,t9,t10,d,a,b,c,e,v],defers:=[] }:=by kernel_rfl
structure JK (wd:World) (b:Nat) (x y:Int × Int) (r1 r2:Int) (S:Nat->Bool) (os:Array Obj) (x4 x5 x6 x7 x8 x9 x10 x11 x12 x13 x14 x15 x16:Value):Prop where
 k0:S 0=true->x5= .pointer (some ⟨b,0,none⟩)
 k1:S 1=true->x6= .int .i64 x.1
 k2:S 2=true->x7= .pointer (some ⟨b+1,0,none⟩)
 k3:S 3=true->x8= .int .i64 y.1
 k4:S 4=true->x9= .int .i64 r1
 k5:S 5=true->x10= .pointer (some ⟨b,1,none⟩)
 k6:S 6=true->x11= .int .i64 x.2
 k7:S 7=true->x12= .pointer (some ⟨b+1,1,none⟩)
 k8:S 8=true->x13= .int .i64 y.2
 k9:S 9=true->x14= .int .i64 r2
 k10:S 10=true->∃k,x15= .slice (some ⟨k,0,none⟩) 2 2/\(grow wd os).cell? ⟨k,0,none⟩=some (.int .i64 r1)/\(grow wd os).cell? ⟨k,1,none⟩=some (.int .i64 r2)
 k11:S 11=true->x16= .int .i64 (Qv r1 r2)
 k12:S 12=true->x4= .int .i64 (Qv r1 r2)
def JJ(wd:World)(b:Nat)(x y:Int × Int)(p o:Int)(S:Nat->Bool)(act:Act)(w:World):Prop:=
 ∃(os:Array Obj) (n m l j i k f c a e h d g:Value),w=grow wd os/\act={ tmps:= #[.agg #[.int .i64 x.1,.int .i64 x.2],.agg #[.int .i64 y.1,.int .i64 y.2],.pointer (some ⟨b,0,none⟩),.pointer (some ⟨b+1,0,none⟩),n,m,l,j,i,k,f,c,a,e,h,d,g],defers:=[] }/\JK wd b x y p o S os n m l j i k f c a e h d g
theorem zX{S:Nat->Bool}{i j:Nat}(h:j≠i)(q:(if j=i then true else S j)=true):S j=true:=by rw[if_neg h] at q;exact q
set_option maxHeartbeats 4000000 in
theorem XQa(x y:Int × Int)(W:World):Calls Tryz.prog 100 #[.agg #[.int .i64 x.1,.int .i64 x.2],.agg #[.int .i64 y.1,.int .i64 y.2]] W λe w'=>e= .returned (.int .i64 (Qv (Lib.compareInt x.1 y.1) (Lib.compareInt x.2 y.2)))/\∃q ε,w'=grow (W.drewN q) ε:=by
 have z:=λa b N=>AnyG.cmp_Compare_int waa a b N
 change ∀a b N,Calls Tryz.prog 122 _ _ _ at z
 have X:=λN=>z x.1 y.1 N
 have V:=λN=>z x.2 y.2 N
 clear z
 obtain⟨u,U⟩:∃r,r=Lib.compareInt x.1 y.1:=⟨_,rfl⟩
 obtain⟨t,Y⟩:∃r,r=Lib.compareInt x.2 y.2:=⟨_,rfl⟩
 rw[<-U] at X⊢
 rw[<-Y] at V⊢
 clear U Y
 have Q:∀args w,(callFunc 122 args).run Tryz.prog w= .ok (.enter 122 args) w:=enters_of Tryz.func122 (by kernel_rfl) rfl
 have δ:∀args w,(callFunc 176 args).run Tryz.prog w= .ok (.enter 176 args) w:=enters_of Tryz.func176 (by kernel_rfl) rfl
 obtain⟨ie,ι,hz,hs,hby⟩:=zdb
 go_enter Tryz.func100,Tryz.ntmps100
 go_wp2_with fail
 obtain⟨W2,α⟩:∃W2,W2=(W.alloc (.cells #[.int .i64 x.1,.int .i64 x.2] 90)).alloc (.cells #[.int .i64 y.1,.int .i64 y.2] 90):=⟨_,rfl⟩
 obtain⟨wd,Z⟩:∃wd:World,wd={ W2 with drawn:=W2.drawn+1 }:=⟨_,rfl⟩
 obtain⟨b,hb⟩:∃b,b=W.heap.size:=⟨_,rfl⟩
 obtain⟨O,L,M⟩:=QFa x y W b hb
 rw[<-α, <-Z] at O L M
 have l1:∀os,(Instr.loadAt 3 (.pointer (some ⟨b,0,none⟩))).run Tryz.prog (grow wd os)= .ok (.int .i64 x.1) (grow wd os):=λos=>Xr (L os) rfl
 have l2:∀os,(Instr.loadAt 3 (.pointer (some ⟨b+1,0,none⟩))).run Tryz.prog (grow wd os)= .ok (.int .i64 y.1) (grow wd os):=λos=>Xr (M os) rfl
 have l3:∀os,(Instr.loadAt 3 (.pointer (some ⟨b,1,none⟩))).run Tryz.prog (grow wd os)= .ok (.int .i64 x.2) (grow wd os):=λos=>Xr (L os) rfl
 have l4:∀os,(Instr.loadAt 3 (.pointer (some ⟨b+1,1,none⟩))).run Tryz.prog (grow wd os)= .ok (.int .i64 y.2) (grow wd os):=λos=>Xr (M os) rfl
 rw[<-α]
 rw[<-hb]
 refine zcb (by kernel_rfl) (by decide) ?_ (JJ wd b x y u t) ⟨#[],.int .i64 0,undef,undef,undef,undef,undef,undef,undef,undef,undef,undef,undef,undef,by rw[<-Z,grow_empty],rfl,⟨(λq=>by cases q),(λq=>by cases q),(λq=>by cases q),(λq=>by cases q),(λq=>by cases q),(λq=>by cases q),(λq=>by cases q),(λq=>by cases q),(λq=>by cases q),(λq=>by cases q),(λq=>by cases q),(λq=>by cases q),(λq=>by cases q)⟩⟩ ?_ ?_
 ·intro i o c
  match i,c with
  | 0,c=>injection c with c;subst c;rfl
  | 1,c=>injection c with c;subst c;rfl
  | 2,c=>injection c with c;subst c;rfl
  | 3,c=>injection c with c;subst c;rfl
  | 4,c=>injection c with c;subst c;rfl
  | 5,c=>injection c with c;subst c;rfl
  | 6,c=>injection c with c;subst c;rfl
  | 7,c=>injection c with c;subst c;rfl
  | 8,c=>injection c with c;subst c;rfl
  | 9,c=>injection c with c;subst c;rfl
  | 10,c=>injection c with c;subst c;rfl
  | 11,c=>injection c with c;subst c;rfl
  | 12,c=>injection c with c;subst c;rfl
  | n+13,c=>cases c
 ·rintro i o S act w c φ d ⟨os,B,G,D,E,C,F,l,m,h,p,g,j,s,rfl,rfl,J⟩ K A
  match i,c with
  | 0,c=>
    injection c with c
    subst c
    refine kT (v:=(.pointer (some ⟨b,0,none⟩))) (w':=grow wd os) ?_ ?_
    ·simp only[execOp]
     simp[Act.eval,zBa]
    ·exact A _ _ ⟨os,B,(.pointer (some ⟨b,0,none⟩)),D,E,C,F,l,m,h,p,g,j,s,rfl,jib _ _ _ _ _ _ _ _ _ _ _ _ _ _ _ _ _ _,⟨λ_=>rfl,λq=>J.k1 (zX (by decide) q),λq=>J.k2 (zX (by decide) q),λq=>J.k3 (zX (by decide) q),λq=>J.k4 (zX (by decide) q),λq=>J.k5 (zX (by decide) q),λq=>J.k6 (zX (by decide) q),λq=>J.k7 (zX (by decide) q),λq=>J.k8 (zX (by decide) q),λq=>J.k9 (zX (by decide) q),λq=>J.k10 (zX (by decide) q),λq=>J.k11 (zX (by decide) q),λq=>J.k12 (zX (by decide) q)⟩⟩
  | 1,c=>
    injection c with c
    subst c
    have e0:=J.k0 (d 0 (by decide))
    subst e0
    refine kT (v:=(.int .i64 x.1)) (w':=grow wd os) ?_ ?_
    ·simp only[execOp]
     simp[Act.eval,l1 os]
    ·exact A _ _ ⟨os,B,(.pointer (some ⟨b,0,none⟩)),(.int .i64 x.1),E,C,F,l,m,h,p,g,j,s,rfl,jjb _ _ _ _ _ _ _ _ _ _ _ _ _ _ _ _ _ _,⟨λq=>J.k0 (zX (by decide) q),λ_=>rfl,λq=>J.k2 (zX (by decide) q),λq=>J.k3 (zX (by decide) q),λq=>J.k4 (zX (by decide) q),λq=>J.k5 (zX (by decide) q),λq=>J.k6 (zX (by decide) q),λq=>J.k7 (zX (by decide) q),λq=>J.k8 (zX (by decide) q),λq=>J.k9 (zX (by decide) q),λq=>J.k10 (zX (by decide) q),λq=>J.k11 (zX (by decide) q),λq=>J.k12 (zX (by decide) q)⟩⟩
  | 2,c=>
    injection c with c
    subst c
    refine kT (v:=(.pointer (some ⟨b+1,0,none⟩))) (w':=grow wd os) ?_ ?_
    ·simp only[execOp]
     simp[Act.eval,zBa]
    ·exact A _ _ ⟨os,B,G,D,(.pointer (some ⟨b+1,0,none⟩)),C,F,l,m,h,p,g,j,s,rfl,jkb _ _ _ _ _ _ _ _ _ _ _ _ _ _ _ _ _ _,⟨λq=>J.k0 (zX (by decide) q),λq=>J.k1 (zX (by decide) q),λ_=>rfl,λq=>J.k3 (zX (by decide) q),λq=>J.k4 (zX (by decide) q),λq=>J.k5 (zX (by decide) q),λq=>J.k6 (zX (by decide) q),λq=>J.k7 (zX (by decide) q),λq=>J.k8 (zX (by decide) q),λq=>J.k9 (zX (by decide) q),λq=>J.k10 (zX (by decide) q),λq=>J.k11 (zX (by decide) q),λq=>J.k12 (zX (by decide) q)⟩⟩
  | 3,c=>
    injection c with c
    subst c
    have e2:=J.k2 (d 2 (by decide))
    subst e2
    refine kT (v:=(.int .i64 y.1)) (w':=grow wd os) ?_ ?_
    ·simp only[execOp]
     simp[Act.eval,l2 os]
    ·exact A _ _ ⟨os,B,G,D,(.pointer (some ⟨b+1,0,none⟩)),(.int .i64 y.1),F,l,m,h,p,g,j,s,rfl,jlb _ _ _ _ _ _ _ _ _ _ _ _ _ _ _ _ _ _,⟨λq=>J.k0 (zX (by decide) q),λq=>J.k1 (zX (by decide) q),λq=>J.k2 (zX (by decide) q),λ_=>rfl,λq=>J.k4 (zX (by decide) q),λq=>J.k5 (zX (by decide) q),λq=>J.k6 (zX (by decide) q),λq=>J.k7 (zX (by decide) q),λq=>J.k8 (zX (by decide) q),λq=>J.k9 (zX (by decide) q),λq=>J.k10 (zX (by decide) q),λq=>J.k11 (zX (by decide) q),λq=>J.k12 (zX (by decide) q)⟩⟩
  | 4,c=>
    injection c with c
    subst c
    have e1:=J.k1 (d 1 (by decide))
    have e3:=J.k3 (d 3 (by decide))
    subst e1 e3
    refine VV (f:=122) (args:= #[.int .i64 x.1,.int .i64 y.1]) ?_ (X _) ?_
    ·simp[execOp,resolve,Act.eval,Deferred.ofValue,invoke,Q]
    ·rintro e w2 ⟨rfl,rfl⟩
     refine⟨_,rfl,?_⟩
     exact A _ _ ⟨os,B,G,(.int .i64 x.1),E,(.int .i64 y.1),(.int .i64 u),l,m,h,p,g,j,s,rfl,jmb _ _ _ _ _ _ _ _ _ _ _ _ _ _ _ _ _ _,⟨λq=>J.k0 (zX (by decide) q),λq=>J.k1 (zX (by decide) q),λq=>J.k2 (zX (by decide) q),λq=>J.k3 (zX (by decide) q),λ_=>rfl,λq=>J.k5 (zX (by decide) q),λq=>J.k6 (zX (by decide) q),λq=>J.k7 (zX (by decide) q),λq=>J.k8 (zX (by decide) q),λq=>J.k9 (zX (by decide) q),λq=>J.k10 (zX (by decide) q),λq=>J.k11 (zX (by decide) q),λq=>J.k12 (zX (by decide) q)⟩⟩
  | 5,c=>
    injection c with c
    subst c
    refine kT (v:=(.pointer (some ⟨b,1,none⟩))) (w':=grow wd os) ?_ ?_
    ·simp only[execOp]
     simp[Act.eval,zCa]
    ·exact A _ _ ⟨os,B,G,D,E,C,F,(.pointer (some ⟨b,1,none⟩)),m,h,p,g,j,s,rfl,zeb _ _ _ _ _ _ _ _ _ _ _ _ _ _ _ _ _ _,⟨λq=>J.k0 (zX (by decide) q),λq=>J.k1 (zX (by decide) q),λq=>J.k2 (zX (by decide) q),λq=>J.k3 (zX (by decide) q),λq=>J.k4 (zX (by decide) q),λ_=>rfl,λq=>J.k6 (zX (by decide) q),λq=>J.k7 (zX (by decide) q),λq=>J.k8 (zX (by decide) q),λq=>J.k9 (zX (by decide) q),λq=>J.k10 (zX (by decide) q),λq=>J.k11 (zX (by decide) q),λq=>J.k12 (zX (by decide) q)⟩⟩
  | 6,c=>
    injection c with c
    subst c
    have e5:=J.k5 (d 5 (by decide))
    subst e5
    refine kT (v:=(.int .i64 x.2)) (w':=grow wd os) ?_ ?_
    ·simp only[execOp]
     simp[Act.eval,l3 os]
    ·exact A _ _ ⟨os,B,G,D,E,C,F,(.pointer (some ⟨b,1,none⟩)),(.int .i64 x.2),h,p,g,j,s,rfl,zfb _ _ _ _ _ _ _ _ _ _ _ _ _ _ _ _ _ _,⟨λq=>J.k0 (zX (by decide) q),λq=>J.k1 (zX (by decide) q),λq=>J.k2 (zX (by decide) q),λq=>J.k3 (zX (by decide) q),λq=>J.k4 (zX (by decide) q),λq=>J.k5 (zX (by decide) q),λ_=>rfl,λq=>J.k7 (zX (by decide) q),λq=>J.k8 (zX (by decide) q),λq=>J.k9 (zX (by decide) q),λq=>J.k10 (zX (by decide) q),λq=>J.k11 (zX (by decide) q),λq=>J.k12 (zX (by decide) q)⟩⟩
  | 7,c=>
    injection c with c
    subst c
    refine kT (v:=(.pointer (some ⟨b+1,1,none⟩))) (w':=grow wd os) ?_ ?_
    ·simp only[execOp]
     simp[Act.eval,zCa]
    ·exact A _ _ ⟨os,B,G,D,E,C,F,l,m,(.pointer (some ⟨b+1,1,none⟩)),p,g,j,s,rfl,zgb _ _ _ _ _ _ _ _ _ _ _ _ _ _ _ _ _ _,⟨λq=>J.k0 (zX (by decide) q),λq=>J.k1 (zX (by decide) q),λq=>J.k2 (zX (by decide) q),λq=>J.k3 (zX (by decide) q),λq=>J.k4 (zX (by decide) q),λq=>J.k5 (zX (by decide) q),λq=>J.k6 (zX (by decide) q),λ_=>rfl,λq=>J.k8 (zX (by decide) q),λq=>J.k9 (zX (by decide) q),λq=>J.k10 (zX (by decide) q),λq=>J.k11 (zX (by decide) q),λq=>J.k12 (zX (by decide) q)⟩⟩
  | 8,c=>
    injection c with c
    subst c
    have e7:=J.k7 (d 7 (by decide))
    subst e7
    refine kT (v:=(.int .i64 y.2)) (w':=grow wd os) ?_ ?_
    ·simp only[execOp]
     simp[Act.eval,l4 os]
    ·exact A _ _ ⟨os,B,G,D,E,C,F,l,m,(.pointer (some ⟨b+1,1,none⟩)),(.int .i64 y.2),g,j,s,rfl,zhb _ _ _ _ _ _ _ _ _ _ _ _ _ _ _ _ _ _,⟨λq=>J.k0 (zX (by decide) q),λq=>J.k1 (zX (by decide) q),λq=>J.k2 (zX (by decide) q),λq=>J.k3 (zX (by decide) q),λq=>J.k4 (zX (by decide) q),λq=>J.k5 (zX (by decide) q),λq=>J.k6 (zX (by decide) q),λq=>J.k7 (zX (by decide) q),λ_=>rfl,λq=>J.k9 (zX (by decide) q),λq=>J.k10 (zX (by decide) q),λq=>J.k11 (zX (by decide) q),λq=>J.k12 (zX (by decide) q)⟩⟩
  | 9,c=>
    injection c with c
    subst c
    have e6:=J.k6 (d 6 (by decide))
    have e8:=J.k8 (d 8 (by decide))
    subst e6 e8
    refine VV (f:=122) (args:= #[.int .i64 x.2,.int .i64 y.2]) ?_ (V _) ?_
    ·simp[execOp,resolve,Act.eval,Deferred.ofValue,invoke,Q]
    ·rintro e w2 ⟨rfl,rfl⟩
     refine⟨_,rfl,?_⟩
     exact A _ _ ⟨os,B,G,D,E,C,F,l,(.int .i64 x.2),h,(.int .i64 y.2),(.int .i64 t),j,s,rfl,zib _ _ _ _ _ _ _ _ _ _ _ _ _ _ _ _ _ _,⟨λq=>J.k0 (zX (by decide) q),λq=>J.k1 (zX (by decide) q),λq=>J.k2 (zX (by decide) q),λq=>J.k3 (zX (by decide) q),λq=>J.k4 (zX (by decide) q),λq=>J.k5 (zX (by decide) q),λq=>J.k6 (zX (by decide) q),λq=>J.k7 (zX (by decide) q),λq=>J.k8 (zX (by decide) q),λ_=>rfl,λq=>J.k10 (zX (by decide) q),λq=>J.k11 (zX (by decide) q),λq=>J.k12 (zX (by decide) q)⟩⟩
  | 10,c=>
    injection c with c
    subst c
    have e4:=J.k4 (d 4 (by decide))
    have e9:=J.k9 (d 9 (by decide))
    subst e4 e9
    have I:=run_buildSlice (P:=Tryz.prog) (grow wd os) 27 3 2 #[(0,.int .i64 u),(1,.int .i64 t)] #[.int .i64 u,.int .i64 t] ie (.int .i64 0) Tryz.underlying27 ι hz (by rw[hs];decide) (by rw[hs];decide) (by rw[hs];exact XPa u t)
    have R:(grow wd os).alloc (.cells #[.int .i64 u,.int .i64 t] 3)=grow wd (os++ #[.cells #[.int .i64 u,.int .i64 t] 3]):=by rw[alloc_eq_grow,grow_grow]
    rw[R] at I
    have H:(grow wd (os++ #[.cells #[.int .i64 u,.int .i64 t] 3])).cell? ⟨(grow wd os).heap.size,0,none⟩=some (.int .i64 u)/\(grow wd (os++ #[.cells #[.int .i64 u,.int .i64 t] 3])).cell? ⟨(grow wd os).heap.size,1,none⟩=some (.int .i64 t):=by
     have:(grow wd (os++ #[.cells #[.int .i64 u,.int .i64 t] 3])).heap[(grow wd os).heap.size]? =some (.cells #[.int .i64 u,.int .i64 t] 3 (0,0)):=by rw[<-R,heap_alloc_new]
     constructor<;>(unfold World.cell?;rw[this];rfl)
    refine kT (v:= .slice (some ⟨(grow wd os).heap.size,0,none⟩) 2 2) (w':=grow wd (os++ #[.cells #[.int .i64 u,.int .i64 t] 3])) ?_ ?_
    ·simp only[execOp]
     simp[Act.eval,I]
    ·exact A _ _ ⟨(os++ #[.cells #[.int .i64 u,.int .i64 t] 3]),B,G,D,E,C,(.int .i64 u),l,m,h,p,(.int .i64 t),(.slice (some ⟨(grow wd os).heap.size,0,none⟩) 2 2),s,rfl,zjb _ _ _ _ _ _ _ _ _ _ _ _ _ _ _ _ _ _,⟨λq=>J.k0 (zX (by decide) q),λq=>J.k1 (zX (by decide) q),λq=>J.k2 (zX (by decide) q),λq=>J.k3 (zX (by decide) q),λq=>J.k4 (zX (by decide) q),λq=>J.k5 (zX (by decide) q),λq=>J.k6 (zX (by decide) q),λq=>J.k7 (zX (by decide) q),λq=>J.k8 (zX (by decide) q),λq=>J.k9 (zX (by decide) q),λ_=>⟨_,rfl,H.1,H.2⟩,λq=>J.k11 (zX (by decide) q),λq=>J.k12 (zX (by decide) q)⟩⟩
  | 11,c=>
    injection c with c
    subst c
    obtain⟨k,θ,z1,z2⟩:=J.k10 (d 10 (by decide))
    subst θ
    refine VV (f:=176) (args:= #[.slice (some ⟨k,0,none⟩) 2 2]) ?_ (orC u t _ k z1 z2) ?_
    ·simp[execOp,resolve,Act.eval,Deferred.ofValue,invoke,δ]
    ·rintro e w2 ⟨rfl,rfl⟩
     refine⟨_,rfl,?_⟩
     exact A _ _ ⟨os,B,G,D,E,C,F,l,m,h,p,g,(.slice (some ⟨k,0,none⟩) 2 2),(.int .i64 (Qv u t)),rfl,zkb _ _ _ _ _ _ _ _ _ _ _ _ _ _ _ _ _ _,⟨λq=>J.k0 (zX (by decide) q),λq=>J.k1 (zX (by decide) q),λq=>J.k2 (zX (by decide) q),λq=>J.k3 (zX (by decide) q),λq=>J.k4 (zX (by decide) q),λq=>J.k5 (zX (by decide) q),λq=>J.k6 (zX (by decide) q),λq=>J.k7 (zX (by decide) q),λq=>J.k8 (zX (by decide) q),λq=>J.k9 (zX (by decide) q),λq=>J.k10 (zX (by decide) q),λ_=>rfl,λq=>J.k12 (zX (by decide) q)⟩⟩
  | 12,c=>
    injection c with c
    subst c
    have η:=J.k11 (d 11 (by decide))
    subst η
    refine kT (v:=(.int .i64 (Qv u t))) (w':=grow wd os) ?_ ?_
    ·simp only[execOp]
     simp[Act.eval]
    ·exact A _ _ ⟨os,(.int .i64 (Qv u t)),G,D,E,C,F,l,m,h,p,g,j,(.int .i64 (Qv u t)),rfl,jhb _ _ _ _ _ _ _ _ _ _ _ _ _ _ _ _ _ _,⟨λq=>J.k0 (zX (by decide) q),λq=>J.k1 (zX (by decide) q),λq=>J.k2 (zX (by decide) q),λq=>J.k3 (zX (by decide) q),λq=>J.k4 (zX (by decide) q),λq=>J.k5 (zX (by decide) q),λq=>J.k6 (zX (by decide) q),λq=>J.k7 (zX (by decide) q),λq=>J.k8 (zX (by decide) q),λq=>J.k9 (zX (by decide) q),λq=>J.k10 (zX (by decide) q),λq=>J.k11 (zX (by decide) q),λ_=>rfl⟩⟩
  | n+13,c=>cases c
 ·rintro S act w T ⟨os,B,G,D,E,C,F,l,m,h,p,g,j,s,rfl,rfl,J⟩
  have ζ:=J.k12 (T 12 (by decide))
  subst ζ
  go_wp2
  go_ret
  exact⟨rfl,1,_,O os⟩
