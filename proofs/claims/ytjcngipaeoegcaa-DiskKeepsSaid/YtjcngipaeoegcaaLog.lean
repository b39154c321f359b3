/-
  Disks: what a file tells, as the program holds it.
-/
import Derived.Test.YtjcngipaeoegcaaD8
namespace Go.Proofs.Ytjcngipaeoegcaa
open Go.RowKit

namespace Disk
def genOf (o : Option (Bool × File)) : Nat := match o with | none => 0 | some (_, f) => f.gen
/-- One file more. -/
def pick (o : Option (Bool × File)) (s : Bool) (x : List UInt8) : Option (Bool × File) := match file x with
  | none => o
  | some f => if genOf o < f.gen then some (s, f) else o
theorem file_gen {x : List UInt8} {f : File} (h : file x = some f) : 1 ≤ f.gen ∧ f.gen ≤ 1000000 := by
  unfold file at h
  split at h
  · cases h
  · rename_i hd t _
    cases hp : parse hd with
    | none => rw [hp] at h; cases h
    | some q =>
      obtain ⟨g, rs⟩ := q
      rw [hp] at h
      injection h with h
      subst h
      exact (parse_own _ _ _ hp).2
theorem pick_none (s : Bool) (x : List UInt8) : pick none s x = (file x).map fun f => (s, f) := by
  unfold pick
  cases hx : file x with
  | none => rfl
  | some f =>
    have h : genOf none < f.gen := (file_gen hx).1
    simp only [Option.map_some]
    rw [if_pos h]
theorem pick_two (a b : List UInt8) : pick (pick none false a) true b = which a b := by
  rw [pick_none]
  unfold which pick
  cases ha : file a with
  | none =>
    cases hb : file b with
    | none => rfl
    | some g =>
      have h : genOf none < g.gen := (file_gen hb).1
      simp only [Option.map_none]
      rw [if_pos h]
  | some f =>
    cases hb : file b with
    | none => rfl
    | some g => rfl
end Disk

def place (s : Bool) : Value := .func (.func (if s then 37 else 36)) #[] #[]
def LogIs (w : World) (D : Nat) (o : Option (Bool × Disk.File)) (v0 v1 v2 v3 : Value) : Prop :=
  v0 = .int .i64 (Disk.genOf o : Int) ∧ match o with
  | none => v1 = .slice none 0 0 ∧ v2 = .slice none 0 0 ∧ v3 = .nilFunc
  | some (s, f) => (∃ A c, v1 = .slice A f.recs.length c ∧ LsN w D v1 f.recs) ∧ Bs w v2 f.good ∧ v3 = place s
theorem LogIs.ext {w w' : World} {D : Nat} {o : Option (Bool × Disk.File)} {v0 v1 v2 v3 : Value} (h : LogIs w D o v0 v1 v2 v3) (he : Ext w w') : LogIs w' D o v0 v1 v2 v3 := by
  obtain ⟨h0, h⟩ := h
  refine ⟨h0, ?_⟩
  cases o with
  | none => exact h
  | some p =>
    obtain ⟨⟨A, c, h1, h2⟩, h3, h4⟩ := h
    exact ⟨⟨A, c, h1, h2.ext he⟩, h3.ext he, h4⟩
theorem LogIs.noByte {w : World} {D : Nat} {o : Option (Bool × Disk.File)} {v0 v1 v2 v3 : Value} (h : LogIs w D o v0 v1 v2 v3) : ∀ u ∈ (#[v0, v1, v2, v3] : Array Value).toList, ∀ x, u ≠ B8 x := by
  obtain ⟨h0, h⟩ := h
  subst h0
  intro u hu x e
  simp only [List.mem_cons, List.not_mem_nil, or_false] at hu
  cases o with
  | none =>
    obtain ⟨rfl, rfl, rfl⟩ := h
    rcases hu with rfl | rfl | rfl | rfl <;> cases e
  | some p =>
    obtain ⟨⟨A, c, rfl, _⟩, ⟨A', c', rfl, _⟩, rfl⟩ := h
    rcases hu with rfl | rfl | rfl | rfl <;> cases e
theorem LogIs.cells {w : World} {D : Nat} {o : Option (Bool × Disk.File)} {v0 v1 v2 v3 : Value} (h : LogIs w D o v0 v1 v2 v3) : (#[v0, v1, v2, v3] : Array Value).all (·.oneCell') = true := by
  obtain ⟨h0, h⟩ := h
  subst h0
  cases o with
  | none =>
    obtain ⟨rfl, rfl, rfl⟩ := h
    simp [Value.oneCell']
  | some p =>
    obtain ⟨⟨A, c, rfl, _⟩, ⟨A', c', rfl, _⟩, rfl⟩ := h
    simp [Value.oneCell', place]
/-- The turn of a record's block without bytes, not of []byte. -/
theorem LogIs.turned {w w' : World} {D g : Nat} {t : TypeId} {cs : Array Value} {o : Option (Bool × Disk.File)} {v0 v1 v2 v3 : Value} (h : LogIs w D o v0 v1 v2 v3) (hr : Rec w g t cs) (ht : t ≠ 22) (hv : ∀ u ∈ cs.toList, ∀ x, u ≠ B8 x) (hg : w.grownBy w' (some g)) : LogIs w' D o v0 v1 v2 v3 := by
  obtain ⟨h0, h⟩ := h
  refine ⟨h0, ?_⟩
  cases o with
  | none => exact h
  | some p =>
    obtain ⟨⟨A, c, h1, h2⟩, h3, h4⟩ := h
    refine ⟨⟨A, c, h1, h2.1.rec hr ht hv hg, ?_⟩, h3.noBy (NoBy.ofRec hr hv) hg, h4⟩
    -- the row itself is as it was
    intro g' cs' t' fr hg' hh
    have hne : some g' ≠ some g := by
      intro e
      injection e with e
      subst e
      obtain ⟨vs, ho, _⟩ := h2.1
      rcases ho.2 with ⟨rfl, _⟩ | ⟨g2, cap, cur, rfl, _, hh2, _⟩
      · cases hg'
      · injection hg' with hg'
        subst hg'
        rw [hr] at hh2
        injection hh2 with hh2
        injection hh2 with _ hh2
        exact ht hh2
    exact h2.2 g' cs' t' fr hg' ((hg.block g' (h2.1.lt g' hg').2 hne).symm.trans hh)

theorem run_cut27 (A : Option Addr) (n c k : Nat) (hk : k ≤ n) (i : Int) (hi : i = (k : Int)) (w : World) :
    (Instr.slice 27 (.slice A n c) (some (.int .i64 i)) none none).run Try.prog w = .ok (.slice (if c = k then A else A.map (·.add k)) (n - k) (c - k)) w := by
  subst hi
  have h1 : (k : Int) ≤ (n : Int) := by omega
  have hs : (sizeOf 22).run Try.prog w = .ok 1 w := by kernel_rfl
  have he : Try.prog.elem 27 = 22 := by kernel_rfl
  have hu : Try.prog.underlying 27 = some (.slice (Try.prog.elem 27)) := by rw [he]; exact Try.underlying27
  rw [run_slice_any w 27 A n c hu]
  simp [Instr.sliceBounds, run_sliceBound, he, hs, sliced, h1, Result.andThen]
theorem Ls.cut {w : World} {A : Option Addr} {ls : List (List UInt8)} (h : Ls w A ls) {k c : Nat} (hc : ls.length ≤ c) : Ls w (if c = k then A else A.map (·.add k)) (ls.drop k) := by
  obtain ⟨vs, hl, hr, hb⟩ := h
  refine ⟨vs.drop k, by simp [hl], hr.cut (by omega), fun j u x h1 h2 => ?_⟩
  rw [List.getElem?_drop] at h1 h2
  exact hb _ u x h1 h2

end Go.Proofs.Ytjcngipaeoegcaa
