import Derived.Test.YtigdlmpjijhpaaaGreatKA
import Derived.Test.YtigdlmpjijhpaaaGreatProg
import Derived.WalkKit
import Derived.WalkLawsBesides
import Derived.OwnWalk
import Derived.WalkMore
import Derived.ScopeJumps
import Derived.Tactics2
import Derived.Defers
import Derived.Recover
import Derived.Below
import Derived.Laws.Pointers
set_option linter.all false
namespace Go.Proofs.YtigdlmpjijhpaaaGreat.Ax
open Go Go.Proofs Go.RowKit
theorem wNa(A:Option Addr)(c:Nat)(w:World):Calls Tryz.prog 108 #[.slice A 0 c] w λe w'=>e= .returned (.tuple #[.int .i64 0,.slice none 0 0,.int .i64 50])/\w'=w:=by
 go_enter Tryz.func108,Tryz.ntmps108
 go_wp2_with fail
 refine wp_scope_jumps 0 (λa w'=>w'=w/\∃t:Array Value,a=⟨t,[]⟩/\t.size=55) (λ_ _=>0) rfl ?_ ?_
 ·go_wp2
  go_step3
  exact⟨rfl,rfl,_,rfl,rfl⟩
 ·rintro a w' ⟨rfl,t,rfl,b⟩
  go_wp2
  simp only[Exit.jump]
  go_ret3
  refine⟨?_,rfl⟩
  simp[zt,b]
abbrev kpa:PanicEntry:={ v:= .iface 113 (.agg #[]),recovered:=false }
theorem z5a{P:Program}{c:Code}{Q:Exit->Act->World->Prop}{a:Act}{w:World}(k:c.wp P (λe a w=>e≠ .normal/\Q e a w) a w):(Code.loop c).wp P Q a w:=
 wp_loop (λb w'=>b=a/\w'=w) (λ_ _=>0) ⟨rfl,rfl⟩ λb w' ⟨h,f⟩=>by
  subst h f
  exact wp_mono k λe a w q=>by
   obtain⟨g,d⟩:=q
   cases e<;>first|exact absurd rfl g|exact d
theorem kqa(w:World)(b p:Nat)(c:Nat)(d:w.cell? ⟨b,0,none⟩=some (.slice none 0 c))(t:Addr)(a:w.cell? ⟨p,0,none⟩=some (.pointer (some t))):
  Calls Tryz.prog 50 #[.pointer (some ⟨b,0,none⟩),.slice (some ⟨p,0,none⟩) 1 1] w λe w'=>e= .panicked [kpa]/\Below w.heap.size w w':=by
 go_enter Tryz.func50,Tryz.ntmps50
 go_wp2
 refine z5a ?_
 go_wp2_with fail
 refine(wNa none c _).mono ?_
 rintro e w' ⟨rfl,rfl⟩
 go_wp2
 exact⟨by simp,rfl,rfl,Below.refl _ _⟩
theorem kra(w:World)(b:Nat)(c:Nat)(h:w.cell? ⟨b,0,none⟩=some (.slice none 0 c))(d:b<w.heap.size):
  Calls Tryz.prog 48 #[.pointer (some ⟨b,0,none⟩)] w λe w'=>e= .panicked [kpa]/\Below w.heap.size w w':=by
 have hB:∀f a,Below w.heap.size w ((w.alloc f).alloc a):=λf a=>((Below.refl _ w).alloc (zo _) f).alloc (by simp only[World.size_alloc];omega) a
 go_enter Tryz.func48,Tryz.ntmps48
 go_wp2_with fail
 refine(kqa _ b (w.heap.size+1) c ?_ ⟨w.heap.size,0,none⟩ ?_).mono ?_
 ·rw[(hB _ _).cell d];exact h
 ·simp[go_sem]
 rintro e w' ⟨rfl,g⟩
 exact⟨rfl,rfl,(hB _ _).trans (g.mono (by simp only[World.size_alloc];omega))⟩
theorem Qaa(w:World):(Instr.typeAssert (.iface 113 (.agg #[])) 20 113 true).run Tryz.prog w= .ok (.tuple #[.agg #[],.bool true]) w:=by
 have a:=Tryz.underlying113
 simp[Instr.typeAssert,run_underlying a]
set_option maxRecDepth 100000 in
set_option maxHeartbeats 4000000 in
theorem KW(i j:Nat)(x y:Value)(w:World)(hi:i<w.heap.size)(m:j<w.heap.size)(b:j≠i)(t:w.cell? ⟨i,0,none⟩=some x)(r:w.cell? ⟨j,0,none⟩=some y)(d:w.frozen? ⟨i,0,none⟩=false)(f:w.frozen? ⟨j,0,none⟩=false):
  CallsD Tryz.prog 47 #[.pointer (some ⟨i,0,none⟩),.pointer (some ⟨j,0,none⟩)] (.panicking [kpa]) w λe n w'=>
   e= .returned (.tuple #[])/\n= .panicking [{ v:= .iface 113 (.agg #[]),recovered:=true }]/\∃o,w'=((w.setCell ⟨i,0,none⟩ (.slice none 0 0)).setCell ⟨j,0,none⟩ (.int .i64 200)).alloc o:=by
 have hB:∀o,Below w.heap.size w (w.alloc o):=λo=>(Below.refl _ w).alloc (zo _) o
 have s:∀o,(w.alloc o).cell? ⟨i,0,none⟩=some x:=λo=>((hB o).cell hi).trans t
 have c:∀o,(w.alloc o).cell? ⟨j,0,none⟩=some y:=λo=>((hB o).cell m).trans r
 have g:∀o,(w.alloc o).frozen? ⟨i,0,none⟩=false:=λo=>((hB o).frozen hi).trans d
 have a:∀o,(w.alloc o).frozen? ⟨j,0,none⟩=false:=λo=>((hB o).frozen m).trans f
 have k:∀o v,((w.alloc o).setCell ⟨i,0,none⟩ v).heap[j]? =(w.alloc o).heap[j]? :=λo v=>Below.heap_setCell _ _ _ _ b
 have h:∀o v,((w.alloc o).setCell ⟨i,0,none⟩ v).cell? ⟨j,0,none⟩=some y:=λo v=>(World.cell?_of_block (w:=w.alloc o) (k o v)).trans (c o)
 have l:∀o v,((w.alloc o).setCell ⟨i,0,none⟩ v).frozen? ⟨j,0,none⟩=false:=λo v=>(World.frozen?_of_block (w:=w.alloc o) (k o v)).trans (a o)
 refine callsD_of_wpS Tryz.func47 rfl λu cs p=>?_
 apply wpS_seq
 apply wpS_region
 simp[wpOpsS,go_sem,recoverD,p,Tryz.ntmps47,Exit.thenS]
 refine wpS_of_wp ?_
 have q:=Qaa
 go_wp2
 exact⟨rfl,_,rfl,.tuple #[],by simp[results,Tryz.results47],rfl,rfl,_,rfl⟩
set_option maxRecDepth 100000 in
set_option maxHeartbeats 4000000 in
theorem Qba(c:Nat)(w:World):
  Calls Tryz.prog 16 #[.slice none 0 c] w λe w'=>e= .returned (.tuple #[.slice none 0 0,.int .i64 200])/\Below w.heap.size w w':=by
 have p:∀(fn:Fn) (first cap:Array Value) (w:World),(Instr.makeFunc fn first cap).run Tryz.prog w= .ok (.func fn first cap) w:=λ_ _ _ _=>rfl
 go_enter_defers Tryz.func16,Tryz.ntmps16
 go_wp2_with fail
 have hB:∀i g h,Below w.heap.size w (((w.alloc i).alloc g).alloc h):=λi g h=>(((Below.refl _ w).alloc (zo _) i).alloc (by simp only[World.size_alloc];omega) g).alloc (by simp only[World.size_alloc];omega) h
 refine(kra _ (w.heap.size+1+1) c (by simp[go_sem]) (by simp[go_sem])).mono ?_
 rintro e w' ⟨rfl,b⟩
 have d:=b.size
 simp only[World.size_alloc] at d
 have h0:w'.cell? ⟨w.heap.size,0,none⟩=some (.slice none 0 0):=(b.cell (by simp only[World.size_alloc];omega)).trans (by simp[go_sem])
 have m:w'.cell? ⟨w.heap.size+1,0,none⟩=some (.int .i64 0):=(b.cell (by simp only[World.size_alloc];omega)).trans (by simp[go_sem])
 have n:w'.frozen? ⟨w.heap.size,0,none⟩=false:=(b.frozen (by simp only[World.size_alloc];omega)).trans (by simp[go_sem])
 have r:w'.frozen? ⟨w.heap.size+1,0,none⟩=false:=(b.frozen (by simp only[World.size_alloc];omega)).trans (by simp[go_sem])
 refine leaves_cons (f:=47) (args:= #[.pointer (some ⟨w.heap.size,0,none⟩),.pointer (some ⟨w.heap.size+1,0,none⟩)]) (by simp) (by simp[go_sem]) ?_
 refine(KW w.heap.size (w.heap.size+1) _ _ w' (by omega) (by omega) (by omega) h0 m n r).mono ?_
 rintro e t w'' ⟨rfl,rfl,o,rfl⟩
 have k:((w'.setCell ⟨w.heap.size,0,none⟩ (.slice none 0 0)).setCell ⟨w.heap.size+1,0,none⟩ (.int .i64 200)).heap.size=w'.heap.size:=by simp
 have l:((w'.setCell ⟨w.heap.size,0,none⟩ (.slice none 0 0)).setCell ⟨w.heap.size+1,0,none⟩ (.int .i64 200)).cell? ⟨w.heap.size,0,none⟩=some (.slice none 0 0):=
  (World.cell?_of_block (w:=w'.setCell ⟨w.heap.size,0,none⟩ (.slice none 0 0)) (Below.heap_setCell _ _ _ _ (by show w.heap.size≠w.heap.size+1;omega))).trans (by simp[go_sem,h0])
 have j:((w'.setCell ⟨w.heap.size,0,none⟩ (.slice none 0 0)).setCell ⟨w.heap.size+1,0,none⟩ (.int .i64 200)).cell? ⟨w.heap.size+1,0,none⟩=some (.int .i64 200):=by
  have q:(w'.setCell ⟨w.heap.size,0,none⟩ (.slice none 0 0)).cell? ⟨w.heap.size+1,0,none⟩=some (.int .i64 0):=(World.cell?_of_block (w:=w') (Below.heap_setCell _ _ _ _ (by show w.heap.size+1≠w.heap.size;omega))).trans m
  simp[go_sem,q]
 have a:Below w.heap.size w (((w'.setCell ⟨w.heap.size,0,none⟩ (.slice none 0 0)).setCell ⟨w.heap.size+1,0,none⟩ (.int .i64 200)).alloc o):=
  (((((hB _ _ _).trans (b.mono (by simp only[World.size_alloc];omega))).setCell (zo _) _).setCell (by show w.heap.size<=w.heap.size+1;omega) _).alloc (by rw[k];omega) o)
 generalize (w'.setCell ⟨w.heap.size,0,none⟩ (.slice none 0 0)).setCell ⟨w.heap.size+1,0,none⟩ (.int .i64 200)=w5 at k l j a⊢
 have c0:(w5.alloc o).cell? ⟨w.heap.size,0,none⟩=some (.slice none 0 0):=(((Below.refl _ w5).alloc (zo _) o).cell (by show w.heap.size<w5.heap.size;omega)).trans l
 have s:(w5.alloc o).cell? ⟨w.heap.size+1,0,none⟩=some (.int .i64 200):=(((Below.refl _ w5).alloc (zo _) o).cell (by show w.heap.size+1<w5.heap.size;omega)).trans j
 simp[Leaves,settle,results,Tryz.results16,go_sem,c0,s,a]
