/-
  A block that holds a record of the call's own. No program in sight.
-/
import Derived.Test.YtjcngipaeoegcaaLists
import Derived.Laws.Tables
namespace Go.Proofs.Ytjcngipaeoegcaa
open Go.RowKit

def Rec (w : World) (g : Nat) (t : TypeId) (vs : Array Value) : Prop := w.heap[g]? = some (.cells vs t (0, 0))
section
variable {w w' : World} {g : Nat} {t : TypeId} {vs : Array Value}
theorem Rec.lt (h : Rec w g t vs) : g < w.heap.size := lt_of_block h
theorem Rec.ext (h : Rec w g t vs) (he : Ext w w') : Rec w' g t vs := (he.block g h.lt).trans h
theorem Rec.turned {row : Option Nat} (h : Rec w g t vs) (hg : w.grownBy w' row) (hne : row ≠ some g) : Rec w' g t vs := (hg.block g h.lt (fun e => hne e.symm)).trans h
theorem Rec.new (w : World) (t : TypeId) (vs : Array Value) : Rec (w.alloc (.cells vs t)) w.heap.size t vs := heap_alloc_new w _
theorem Rec.cell (h : Rec w g t vs) {i : Nat} {v : Value} (hv : vs[i]? = some v) : w.cell? ⟨g, i, none⟩ = some v := by
  rw [cell_of_row w g i vs t _ h, hv]
theorem Rec.free (h : Rec w g t vs) (i : Nat) : w.frozen? ⟨g, i, none⟩ = false := frozen_of_row w g i vs t h
theorem Rec.setRow (h : Rec w g t vs) (cs : Array Value) : Rec (w.setRow g cs) g t cs := setRow_heap w g vs cs t _ h
theorem Rec.setCell (h : Rec w g t vs) (i : Nat) (v : Value) : Rec (w.setCell ⟨g, i, none⟩ v) g t (vs.setIfInBounds i v) := by
  unfold Rec at *
  obtain ⟨hlt, hk⟩ := Array.getElem?_eq_some_iff.1 h
  show (w.heap.modify g _)[g]? = _
  rw [Array.getElem?_eq_getElem (by rw [Array.size_modify]; exact hlt), Array.getElem_modify_self, hk]
  simp
theorem Turns.ofRec {B : Nat} (h : Rec w g t vs) (ht : t ≠ 5) (hB : B ≤ g) : Turns B w (some g) := fun g' e => by
  cases e
  exact ⟨hB, _, h, fun cs fr e => by injection e with _ e; exact ht e⟩
theorem grown_setRow (w : World) (g : Nat) (cs : Array Value) : w.grownBy (w.setRow g cs) (some g) :=
  ⟨rfl, rfl, rfl, by simp, fun k _ hk => setRow_other w g k cs (fun e => hk (by rw [e]))⟩
theorem grown_setCell (w : World) (g i : Nat) (v : Value) : w.grownBy (w.setCell ⟨g, i, none⟩ v) (some g) :=
  ⟨rfl, rfl, rfl, (KeepsWalks.setCell w _ v).size, fun k _ hk => Below.heap_setCell _ _ _ k (fun e => hk (by rw [e]))⟩
end
theorem Row.turned {w w' : World} {B : Nat} {A : Option Addr} {l : List UInt8} {row : Option Nat} (h : Row w A (l.map B8)) (hb : ∀ ad, A = some ad → ad.block < B) (hg : w.grownBy w' row) (ht : Turns B w row) : Row w' A (l.map B8) :=
  grown_cells hg h fun ad e e2 => by
    obtain ⟨h1, _⟩ := ht _ e2
    have := hb ad e
    omega
end Go.Proofs.Ytjcngipaeoegcaa
