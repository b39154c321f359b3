import Derived.Test.YtigdlmpjijhpaaaGreatBA
import Derived.Test.YtigdlmpjijhpaaaGreatProg
import Derived.WalkKit
import Derived.WalkLawsBesides
import Derived.OwnWalk
import Derived.WalkMore
import Derived.ScopeJumps
import Derived.Tactics2
import Derived.Defers
import Derived.Recover
import Derived.Below
import Derived.Laws.Pointers
set_option linter.all false
namespace Go.Proofs.YtigdlmpjijhpaaaGreat.Ax
open Go Go.Proofs Go.RowKit
abbrev zub:PanicEntry:={ v:= .iface 113 (.agg #[]),recovered:=false }
theorem Kia(w:World):(Instr.typeAssert (.iface 113 (.agg #[])) 20 113 true).run Tryz.prog w= .ok (.tuple #[.agg #[],.bool true]) w:=by
 have a:=Tryz.underlying113
 simp[Instr.typeAssert,run_underlying a]
set_option maxRecDepth 100000 in
set_option maxHeartbeats 4000000 in
theorem vaa(i j:Nat)(x y:Value)(w:World)(hi:i<w.heap.size)(g:j<w.heap.size)(c:j≠i)(t:w.cell? ⟨i,0,none⟩=some x)(s:w.cell? ⟨j,0,none⟩=some y)(d:w.frozen? ⟨i,0,none⟩=false)(f:w.frozen? ⟨j,0,none⟩=false):
  CallsD Tryz.prog 47 #[.pointer (some ⟨i,0,none⟩),.pointer (some ⟨j,0,none⟩)] (.panicking [zub]) w λe r w'=>
   e= .returned (.tuple #[])/\r= .panicking [{ v:= .iface 113 (.agg #[]),recovered:=true }]/\∃o,w'=((w.setCell ⟨i,0,none⟩ (.slice none 0 0)).setCell ⟨j,0,none⟩ (.int .i64 200)).alloc o:=by
 have hB:∀o,Below w.heap.size w (w.alloc o):=λo=>(Below.refl _ w).alloc (zn _) o
 have p:∀o,(w.alloc o).cell? ⟨i,0,none⟩=some x:=λo=>((hB o).cell hi).trans t
 have b:∀o,(w.alloc o).cell? ⟨j,0,none⟩=some y:=λo=>((hB o).cell g).trans s
 have k:∀o,(w.alloc o).frozen? ⟨i,0,none⟩=false:=λo=>((hB o).frozen hi).trans d
 have a:∀o,(w.alloc o).frozen? ⟨j,0,none⟩=false:=λo=>((hB o).frozen g).trans f
 have h:∀o v,((w.alloc o).setCell ⟨i,0,none⟩ v).heap[j]? =(w.alloc o).heap[j]? :=λo v=>Below.heap_setCell _ _ _ _ c
 have m:∀o v,((w.alloc o).setCell ⟨i,0,none⟩ v).cell? ⟨j,0,none⟩=some y:=λo v=>(World.cell?_of_block (w:=w.alloc o) (h o v)).trans (b o)
 have l:∀o v,((w.alloc o).setCell ⟨i,0,none⟩ v).frozen? ⟨j,0,none⟩=false:=λo v=>(World.frozen?_of_block (w:=w.alloc o) (h o v)).trans (a o)
 refine callsD_of_wpS Tryz.func47 rfl λu cs q=>?_
 apply wpS_seq
 apply wpS_region
 simp[wpOpsS,go_sem,recoverD,q,Tryz.ntmps47,Exit.thenS]
 refine wpS_of_wp ?_
 have n:=Kia
 go_wp2
 exact⟨rfl,_,rfl,.tuple #[],by simp[results,Tryz.results47],rfl,rfl,_,rfl⟩
