/-
  Joined.
-/
import Derived.Test.YtfmldcilgbbimaaGreatProg
import Derived.WalkKit
import Derived.WalkLawsBesides
import Derived.OwnWalk
import Derived.WalkMore
import Derived.ScopeJumps
import Derived.Tactics2
import Derived.Defers
import Derived.Recover
import Derived.Below
import Derived.Laws.Pointers
set_option linter.unusedSimpArgs false
set_option linter.unusedVariables false
namespace Go.Proofs.YtfmldcilgbbimaaGreat.Ax
open Go Go.Proofs Go.RowKit
theorem xfa (A:Option Addr) (c:Nat) (w:World):Calls Tryz.prog 98 #[.slice A 0 c] w λe w'=>e= .returned (.tuple #[.int .i64 0,.slice none 0 0,.int .i64 50])/\w'=w:=by
 go_enter Tryz.func98,Tryz.ntmps98
 go_wp2_with fail
 refine wp_scope_jumps 0 (λa w'=>w'=w/\∃t:Array Value,a=⟨t,[]⟩/\t.size=55) (λ_ _=>0) rfl ?_ ?_
 ·go_wp2
  go_step3
  exact ⟨rfl,rfl,_,rfl,rfl⟩
 ·rintro a w' ⟨rfl,t,rfl,b⟩
  go_wp2
  simp only[Exit.jump]
  go_ret3
  refine ⟨?_,rfl⟩
  simp[Array.getD_eq_getD_getElem?,b]
abbrev z2a:PanicEntry:={ v:= .iface 105 (.agg #[]),recovered:=false }
theorem V2 {P:Program} {c:Code} {Q:Exit->Act->World->Prop} {a:Act} {w:World} (k:c.wp P (λe a w=>e≠ .normal/\Q e a w) a w):(Code.loop c).wp P Q a w:=
 wp_loop (λb w'=>b=a/\w'=w) (λ_ _=>0) ⟨rfl,rfl⟩ λb w' ⟨g,d⟩=>by
  subst g d
  exact wp_mono k λe a w q=>by
   obtain ⟨h,f⟩:=q
   cases e<;>first | exact absurd rfl h | exact f
theorem z3a (w:World) (b p:Nat) (c:Nat) (a:w.cell? ⟨b,0,none⟩=some (.slice none 0 c)) (t:Addr) (d:w.cell? ⟨p,0,none⟩=some (.pointer (some t))):
  Calls Tryz.prog 46 #[.pointer (some ⟨b,0,none⟩),.slice (some ⟨p,0,none⟩) 1 1] w λe w'=>e= .panicked [z2a]/\Below w.heap.size w w':=by
 go_enter Tryz.func46,Tryz.ntmps46
 go_wp2
 refine V2 ?_
 go_wp2_with fail
 refine (xfa none c _).mono ?_
 rintro e w' ⟨rfl,rfl⟩
 go_wp2
 exact ⟨by simp,rfl,rfl,Below.refl _ _⟩
theorem z4a (w:World) (b:Nat) (c:Nat) (g:w.cell? ⟨b,0,none⟩=some (.slice none 0 c)) (f:b<w.heap.size):
  Calls Tryz.prog 44 #[.pointer (some ⟨b,0,none⟩)] w λe w'=>e= .panicked [z2a]/\Below w.heap.size w w':=by
 have hB:∀a d,Below w.heap.size w ((w.alloc a).alloc d):=λa d=>((Below.refl _ w).alloc (Nat.le_refl _) a).alloc (by simp only[World.size_alloc];omega) d
 go_enter Tryz.func44,Tryz.ntmps44
 go_wp2_with fail
 refine (z3a _ b (w.heap.size+1) c ?_ ⟨w.heap.size,0,none⟩ ?_).mono ?_
 ·rw[(hB _ _).cell f];exact g
 ·simp[go_sem]
 rintro e w' ⟨rfl,h⟩
 exact ⟨rfl,rfl,(hB _ _).trans (h.mono (by simp only[World.size_alloc];omega))⟩
theorem vwa (w:World):(Instr.typeAssert (.iface 105 (.agg #[])) 20 105 true).run Tryz.prog w= .ok (.tuple #[.agg #[],.bool true]) w:=by
 have a:=Tryz.underlying105
 simp[Instr.typeAssert,run_underlying a]
set_option maxRecDepth 100000 in
set_option maxHeartbeats 4000000 in
theorem YD (i j:Nat) (x y:Value) (w:World) (k:i<w.heap.size) (l:j<w.heap.size) (b:j≠i) (q:w.cell? ⟨i,0,none⟩=some x) (s:w.cell? ⟨j,0,none⟩=some y) (f:w.frozen? ⟨i,0,none⟩=false) (d:w.frozen? ⟨j,0,none⟩=false):
  CallsD Tryz.prog 43 #[.pointer (some ⟨i,0,none⟩),.pointer (some ⟨j,0,none⟩)] (.panicking [z2a]) w λe r w'=>
   e= .returned (.tuple #[])/\r= .panicking [{ v:= .iface 105 (.agg #[]),recovered:=true }]/\∃o,w'=((w.setCell ⟨i,0,none⟩ (.slice none 0 0)).setCell ⟨j,0,none⟩ (.int .i64 200)).alloc o:=by
 have hB:∀o,Below w.heap.size w (w.alloc o):=λo=>(Below.refl _ w).alloc (Nat.le_refl _) o
 have u:∀o,(w.alloc o).cell? ⟨i,0,none⟩=some x:=λo=>((hB o).cell k).trans q
 have c:∀o,(w.alloc o).cell? ⟨j,0,none⟩=some y:=λo=>((hB o).cell l).trans s
 have m:∀o,(w.alloc o).frozen? ⟨i,0,none⟩=false:=λo=>((hB o).frozen k).trans f
 have a:∀o,(w.alloc o).frozen? ⟨j,0,none⟩=false:=λo=>((hB o).frozen l).trans d
 have n:∀o v,((w.alloc o).setCell ⟨i,0,none⟩ v).heap[j]? =(w.alloc o).heap[j]? :=λo v=>Below.heap_setCell _ _ _ _ b
 have g:∀o v,((w.alloc o).setCell ⟨i,0,none⟩ v).cell? ⟨j,0,none⟩=some y:=λo v=>(World.cell?_of_block (w:=w.alloc o) (n o v)).trans (c o)
 have h:∀o v,((w.alloc o).setCell ⟨i,0,none⟩ v).frozen? ⟨j,0,none⟩=false:=λo v=>(World.frozen?_of_block (w:=w.alloc o) (n o v)).trans (a o)
 refine callsD_of_wpS Tryz.func43 rfl λz A t=>?_
 apply wpS_seq
 apply wpS_region
 simp[wpOpsS,go_sem,recoverD,t,Tryz.ntmps43,Exit.thenS]
 refine wpS_of_wp ?_
 have p:=vwa
 go_wp2
 exact ⟨rfl,_,rfl,.tuple #[],by simp[results,Tryz.results43],rfl,rfl,_,rfl⟩
set_option maxRecDepth 100000 in
set_option maxHeartbeats 4000000 in
theorem vxa (c:Nat) (w:World):
  Calls Tryz.prog 17 #[.slice none 0 c] w λe w'=>e= .returned (.tuple #[.slice none 0 0,.int .i64 200])/\Below w.heap.size w w':=by
 have p:∀(fn:Fn) (first cap:Array Value) (w:World),(Instr.makeFunc fn first cap).run Tryz.prog w= .ok (.func fn first cap) w:=λ_ _ _ _=>rfl
 go_enter_defers Tryz.func17,Tryz.ntmps17
 go_wp2_with fail
 have hB:∀g i h,Below w.heap.size w (((w.alloc g).alloc i).alloc h):=λg i h=>(((Below.refl _ w).alloc (Nat.le_refl _) g).alloc (by simp only[World.size_alloc];omega) i).alloc (by simp only[World.size_alloc];omega) h
 refine (z4a _ (w.heap.size+1+1) c (by simp[go_sem]) (by simp[go_sem])).mono ?_
 rintro e w' ⟨rfl,b⟩
 have d:=b.size
 simp only[World.size_alloc] at d
 have h0:w'.cell? ⟨w.heap.size,0,none⟩=some (.slice none 0 0):=(b.cell (by simp only[World.size_alloc];omega)).trans (by simp[go_sem])
 have k:w'.cell? ⟨w.heap.size+1,0,none⟩=some (.int .i64 0):=(b.cell (by simp only[World.size_alloc];omega)).trans (by simp[go_sem])
 have r:w'.frozen? ⟨w.heap.size,0,none⟩=false:=(b.frozen (by simp only[World.size_alloc];omega)).trans (by simp[go_sem])
 have s:w'.frozen? ⟨w.heap.size+1,0,none⟩=false:=(b.frozen (by simp only[World.size_alloc];omega)).trans (by simp[go_sem])
 refine leaves_cons (f:=43) (args:= #[.pointer (some ⟨w.heap.size,0,none⟩),.pointer (some ⟨w.heap.size+1,0,none⟩)]) (by simp) (by simp[go_sem]) ?_
 refine (YD w.heap.size (w.heap.size+1) _ _ w' (by omega) (by omega) (by omega) h0 k r s).mono ?_
 rintro e t w'' ⟨rfl,rfl,o,rfl⟩
 have j:((w'.setCell ⟨w.heap.size,0,none⟩ (.slice none 0 0)).setCell ⟨w.heap.size+1,0,none⟩ (.int .i64 200)).heap.size=w'.heap.size:=by simp
 have l:((w'.setCell ⟨w.heap.size,0,none⟩ (.slice none 0 0)).setCell ⟨w.heap.size+1,0,none⟩ (.int .i64 200)).cell? ⟨w.heap.size,0,none⟩=some (.slice none 0 0):=
  (World.cell?_of_block (w:=w'.setCell ⟨w.heap.size,0,none⟩ (.slice none 0 0)) (Below.heap_setCell _ _ _ _ (by show w.heap.size≠w.heap.size+1;omega))).trans (by simp[go_sem,h0])
 have m:((w'.setCell ⟨w.heap.size,0,none⟩ (.slice none 0 0)).setCell ⟨w.heap.size+1,0,none⟩ (.int .i64 200)).cell? ⟨w.heap.size+1,0,none⟩=some (.int .i64 200):=by
  have n:(w'.setCell ⟨w.heap.size,0,none⟩ (.slice none 0 0)).cell? ⟨w.heap.size+1,0,none⟩=some (.int .i64 0):=(World.cell?_of_block (w:=w') (Below.heap_setCell _ _ _ _ (by show w.heap.size+1≠w.heap.size;omega))).trans k
  simp[go_sem,n]
 have a:Below w.heap.size w (((w'.setCell ⟨w.heap.size,0,none⟩ (.slice none 0 0)).setCell ⟨w.heap.size+1,0,none⟩ (.int .i64 200)).alloc o):=
  (((((hB _ _ _).trans (b.mono (by simp only[World.size_alloc];omega))).setCell (Nat.le_refl _) _).setCell (by show w.heap.size<=w.heap.size+1;omega) _).alloc (by rw[j];omega) o)
 generalize (w'.setCell ⟨w.heap.size,0,none⟩ (.slice none 0 0)).setCell ⟨w.heap.size+1,0,none⟩ (.int .i64 200)=w5 at j l m a⊢
 have c0:(w5.alloc o).cell? ⟨w.heap.size,0,none⟩=some (.slice none 0 0):=(((Below.refl _ w5).alloc (Nat.le_refl _) o).cell (by show w.heap.size<w5.heap.size;omega)).trans l
 have q:(w5.alloc o).cell? ⟨w.heap.size+1,0,none⟩=some (.int .i64 200):=(((Below.refl _ w5).alloc (Nat.le_refl _) o).cell (by show w.heap.size+1<w5.heap.size;omega)).trans m
 simp[Leaves,settle,results,Tryz.results17,go_sem,c0,q,a]
end Go.Proofs.YtfmldcilgbbimaaGreat.Ax
