/-
  The turn of a block that holds no byte leaves all bytes as they were. No program in sight.
-/
import Derived.Test.YtjcngipaeoegcaaFrame11
import Derived.Test.YtjcngipaeoegcaaRec
namespace Go.Proofs.Ytjcngipaeoegcaa
open Go.RowKit

def NoBy (w : World) (row : Option Nat) : Prop := ∀ g cs t fr, row = some g → w.heap[g]? = some (.cells cs t fr) → ∀ u ∈ cs.toList, ∀ x, u ≠ B8 x
theorem NoBy.ofNoB {w : World} {v : Value} (h : NoB w v) : NoBy w v.ownBlock := h
theorem NoBy.ofRec {w : World} {g : Nat} {t : TypeId} {vs : Array Value} (h : Rec w g t vs) (hv : ∀ u ∈ vs.toList, ∀ x, u ≠ B8 x) : NoBy w (some g) := fun g' cs t' fr e hh => by
  cases e
  rw [h] at hh
  injection hh with hh
  injection hh with hh
  subst hh
  exact hv
theorem Row.noBy {w w' : World} {A : Option Addr} {x : List UInt8} {row : Option Nat} (hr : Row w A (x.map B8)) (hn : NoBy w row) (hg : w.grownBy w' row) : Row w' A (x.map B8) := by
  rcases x with _ | ⟨b, x⟩
  · exact Row.nil _ _
  · refine grown_cells hg hr fun ad e e2 => ?_
    subst e
    obtain ⟨ad', e3, hcell⟩ := hr (by simp)
    injection e3 with e3
    subst e3
    have h0 := hcell 0 (B8 b) (by simp)
    have : ad.add 0 = ad := by unfold Addr.add; simp
    rw [this] at h0
    unfold World.cell? at h0
    cases hh : w.heap[ad.block]? with
    | none => rw [hh] at h0; simp at h0
    | some o =>
      rw [hh] at h0
      cases o <;> simp at h0
      rename_i cs t fr
      have hm := List.mem_of_getElem? (by rw [← Array.getElem?_toList] at h0; exact h0.2)
      exact hn ad.block cs t fr e2 hh _ hm b rfl
theorem Bs.noBy {w w' : World} {u : Value} {x : List UInt8} {row : Option Nat} (h : Bs w u x) (hn : NoBy w row) (hg : w.grownBy w' row) : Bs w' u x := by
  obtain ⟨A, c, rfl, hc, hr⟩ := h
  exact ⟨A, c, rfl, hc, hr.noBy hn hg⟩
theorem BsL.noBy {w w' : World} {vs : List Value} {ls : List (List UInt8)} {row : Option Nat} (h : BsL w vs ls) (hn : NoBy w row) (hg : w.grownBy w' row) : BsL w' vs ls := ⟨h.1, fun j u x hu hx => (h.2 j u x hu hx).noBy hn hg⟩

/-- A slice of slices that the call owns; its elements read as these. -/
def LsO (w : World) (D : Nat) (v : Value) (ls : List (List UInt8)) : Prop := ∃ vs, w.ownsRow D 22 1 v ls.length vs ∧ BsL w vs ls
theorem LsO.nil (w : World) (D : Nat) : LsO w D (.slice none 0 0) [] := ⟨[], World.ownsRow_nil _ _ _ _, BsL.nil _⟩
theorem LsO.ext {w w' : World} {D : Nat} {v : Value} {ls : List (List UInt8)} (h : LsO w D v ls) (he : Ext w w') : LsO w' D v ls := by
  obtain ⟨vs, h1, h2⟩ := h
  exact ⟨vs, ownsRow_ext h1 he, h2.ext he⟩
theorem LsO.mono {w : World} {D D' : Nat} {v : Value} {ls : List (List UInt8)} (h : LsO w D v ls) (hd : D' ≤ D) : LsO w D' v ls := by
  obtain ⟨vs, h1, h2⟩ := h
  exact ⟨vs, ownsRow_mono h1 hd, h2⟩
theorem LsO.shape {w : World} {D : Nat} {v : Value} {ls : List (List UInt8)} (h : LsO w D v ls) : ∃ A c, v = .slice A ls.length c ∧ ls.length ≤ c := ownsRow_shape h.choose_spec.1
theorem LsO.ls {w : World} {D n c : Nat} {A : Option Addr} {ls : List (List UInt8)} (h : LsO w D (.slice A n c) ls) : Ls w A ls := by
  obtain ⟨vs, h1, h2⟩ := h
  have hn : n = ls.length := by
    obtain ⟨A', c', e, _⟩ := ownsRow_shape h1
    injection e
  subst hn
  exact h2.ls h1
theorem LsO.turned {w w' : World} {D : Nat} {v : Value} {ls : List (List UInt8)} {row : Option Nat} (h : LsO w D v ls) (hn : NoBy w row) (hg : w.grownBy w' row) (hne : v.ownBlock = none ∨ v.ownBlock ≠ row) : LsO w' D v ls := by
  obtain ⟨vs, h1, h2⟩ := h
  exact ⟨vs, h1.kept hg hne, h2.noBy hn hg⟩
/-- The turn of a record's block. -/
theorem LsO.rec {w w' : World} {D g : Nat} {t : TypeId} {cs : Array Value} {v : Value} {ls : List (List UInt8)} (h : LsO w D v ls) (hr : Rec w g t cs) (ht : t ≠ 22) (hv : ∀ u ∈ cs.toList, ∀ x, u ≠ B8 x) (hg : w.grownBy w' (some g)) : LsO w' D v ls := by
  refine h.turned (NoBy.ofRec hr hv) hg ?_
  obtain ⟨vs, h1, _⟩ := h
  rcases h1.2 with ⟨rfl, _⟩ | ⟨g', cap, cur, rfl, _, hh, _⟩
  · exact .inl rfl
  · right
    intro e
    injection e with e
    subst e
    rw [hr] at hh
    injection hh with hh
    injection hh with _ hh
    exact ht hh
theorem OwnL.lsO {w : World} {B D : Nat} {v : Value} {ls : List (List UInt8)} (h : OwnL w B D v ls) : LsO w D v ls := by
  obtain ⟨vs, h1, h2⟩ := h
  exact ⟨vs, h1, by have := h1.1; omega, fun j u x hu hx => (h2 j u x hu hx).1⟩
end Go.Proofs.Ytjcngipaeoegcaa
