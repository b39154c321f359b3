/-
  A row of slices that a call owns holds no byte, spare cells and all: so an append onto it turns no bytes. No program in sight.
-/
import Derived.Test.YtjcngipaeoegcaaLists
namespace Go.Proofs.Ytjcngipaeoegcaa
open Go.RowKit

def NoB (w : World) (v : Value) : Prop := ∀ g cs t fr, v.ownBlock = some g → w.heap[g]? = some (.cells cs t fr) → ∀ u ∈ cs.toList, ∀ x, u ≠ B8 x
theorem NoB.nil (w : World) (n c : Nat) : NoB w (.slice none n c) := fun g _ _ _ h => by cases h
theorem NoB.ext {w w' : World} {v : Value} (h : NoB w v) (hv : ∀ g, v.ownBlock = some g → g < w.heap.size) (he : Ext w w') : NoB w' v := fun g cs t fr hg hh =>
  h g cs t fr hg ((he.block g (hv g hg)).symm.trans hh)

/-- Bytes stand while such a row is turned. -/
theorem Bs.noB {w w' : World} {v u : Value} {x : List UInt8} (h : Bs w u x) (hn : NoB w v) (hg : w.grownBy w' v.ownBlock) : Bs w' u x := by
  obtain ⟨A, c, rfl, hc, hr⟩ := h
  refine ⟨A, c, rfl, hc, ?_⟩
  rcases x with _ | ⟨b, x⟩
  · exact Row.nil _ _
  · refine grown_cells hg hr fun ad e e2 => ?_
    subst e
    obtain ⟨ad', e3, hcell⟩ := hr (by simp)
    injection e3 with e3
    subst e3
    have h0 := hcell 0 (B8 b) (by simp)
    have : ad.add 0 = ad := by unfold Addr.add; simp
    rw [this] at h0
    unfold World.cell? at h0
    cases hh : w.heap[ad.block]? with
    | none => rw [hh] at h0; simp at h0
    | some o =>
      rw [hh] at h0
      cases o <;> simp at h0
      rename_i cs t fr
      have hm := List.mem_of_getElem? (by rw [← Array.getElem?_toList] at h0; exact h0.2)
      exact hn ad.block cs t fr e2 hh _ hm b rfl

theorem zero_cells_mem {z u : Value} {n : Nat} (hz : z.cells = #[z]) (h : u ∈ (Builtin.zeroCells z.cells n).toList) : u = z := by
  rw [hz] at h
  simp [Builtin.zeroCells, Nat.mod_one] at h
  exact h.2.symm

theorem append_noB {P : Program} {w w' : World} {t e ty : TypeId} {v : Value} {n base : Nat} {xs : List Value} (ht : P.underlying t = some (.slice e)) {i : TypeInfo} {z : Value} (hi : P.info? e = some i) (hz : i.zero = some z) (hsz : i.size = 1) (hby : i.bytes ≤ 1000)
    (hzc : z.cells = #[z]) (hzb : ∀ x, z ≠ B8 x) (hown : w.ownsRow base e 1 v n xs) (hxs : ∀ y ∈ xs, ∀ x, y ≠ B8 x) (hn : NoB w v) {ad : Addr} {u : Value} {c : Nat} (hc : w.cell? ad = some u) (hu1 : u.oneCell' = true) (hu : ∀ x, u ≠ B8 x)
    (hb : n + 1 ≤ 100000000000) {A' : Option Addr} {c' : Nat} (hrun : (Builtin.append_ #[t, t] ty #[v, .slice (some ad) 1 c]).run P w = .ok (.slice A' (n + 1) c') w') : NoB w' (.slice A' (n + 1) c') := by
  have hnews : ∀ (j : Nat) y, [u][j]? = some y → w.cell? (ad.add j) = some y := by
    intro j y hy
    cases j with
    | zero =>
      simp at hy
      subst hy
      have : ad.add 0 = ad := by unfold Addr.add; simp
      rw [this]; exact hc
    | succ j => simp at hy
  have hbytes : (n + 1) * i.bytes ≤ 140737488355328 := Nat.le_trans (Nat.mul_le_mul hb hby) (by omega)
  rcases hown.2 with ⟨rfl, rfl⟩ | ⟨g, cap, cur, rfl, hbg, hg, hnc, hcm, hcs, htake⟩
  · have h := run_append_nil (P := P) w t ty e i z ht hi hz ad 1 c [u] (by simp [hsz]) hnews (by omega) (by omega) (by omega)
    rw [h] at hrun
    injection hrun with h1 h2
    injection h1 with h3 h4 h5
    subst h3
    subst h2
    intro g cs t' fr hgo hh y hy x
    injection hgo with hgo
    subst hgo
    have hnew := heap_alloc_new w.drew (.cells ([u].toArray ++ Builtin.zeroCells z.cells (grownCap w 1 0 e - 1)) e)
    rw [show w.drew.heap.size = w.heap.size from rfl] at hnew
    rw [hnew] at hh
    injection hh with hh
    injection hh with hh
    subst hh
    rw [Array.toList_append, List.mem_append] at hy
    rcases hy with hy | hy
    · simp at hy; subst hy; exact hu x
    · rw [zero_cells_mem hzc hy]; exact hzb x
  · by_cases hroom : n + 1 ≤ cap
    · have h := run_append_room (P := P) w t ty e i ht hi g n cap cur hg ad 1 c [u] (by simp [hsz]) hnews (by simpa using hu1) hroom (by rw [hsz]; simp; omega)
      rw [h] at hrun
      injection hrun with h1 h2
      injection h1 with h3 h4 h5
      subst h3
      subst h2
      intro g' cs t' fr hgo hh y hy x
      injection hgo with hgo
      subst hgo
      rw [setRow_heap w g cur _ e _ hg] at hh
      injection hh with hh
      injection hh with hh
      subst hh
      have hcur := hn g cur e (0, 0) rfl hg
      simp only [List.mem_append] at hy
      rcases hy with (hy | hy) | hy
      · exact hcur y (List.mem_of_mem_take hy) x
      · simp at hy; subst hy; exact hu x
      · exact hcur y (List.mem_of_mem_drop hy) x
    · have holds : ∀ (j : Nat) y, xs[j]? = some y → w.cell? ((⟨g, 0, none⟩ : Addr).add j) = some y := hown.cells (g := g) rfl
      have h := run_append_grow (P := P) w t ty e i z ht hi hz ⟨g, 0, none⟩ n cap xs (by rw [hsz]; exact hown.1) holds ad 1 c [u] (by simp [hsz]) hnews (by omega) (by omega) (growslice_fits (by omega) hbytes)
      rw [h] at hrun
      injection hrun with h1 h2
      injection h1 with h3 h4 h5
      subst h3
      subst h2
      intro g' cs t' fr hgo hh y hy x
      injection hgo with hgo
      subst hgo
      have hnew := heap_alloc_new w.drew (.cells (xs.toArray ++ [u].toArray ++ Builtin.zeroCells z.cells (grownCap w (n + 1) cap e - (n + 1))) e)
      rw [show w.drew.heap.size = w.heap.size from rfl] at hnew
      rw [hnew] at hh
      injection hh with hh
      injection hh with hh
      subst hh
      rw [Array.toList_append, Array.toList_append, List.mem_append, List.mem_append] at hy
      rcases hy with (hy | hy) | hy
      · exact hxs y (by simpa using hy) x
      · simp at hy; subst hy; exact hu x
      · rw [zero_cells_mem hzc hy]; exact hzb x

section
variable {P : Program} {w : World} {t e : TypeId} {v : Value} {n base : Nat} {xs : List Value} {o : Oper} {a : Act} {Q : Exit → Act → World → Prop}
/-- A type of slices of slices. -/
structure SlTy (P : Program) (t e : TypeId) : Prop where
  hs : P.underlying t = some (.slice e)
  hi : ∃ i bytes, P.info? e = some i ∧ i.zero = some (.slice none 0 0) ∧ i.size = 1 ∧ i.bytes = bytes ∧ bytes ≤ 1000
theorem SlTy.row (h : SlTy P t e) : RowTy P t e := ⟨h.hs, by obtain ⟨i, b, h1, h2, h3, h4, h5⟩ := h.hi; exact ⟨i, _, b, h1, h2, h3, h4, rfl, h5⟩⟩
theorem wpList_append_noB (st : SlTy P t e) {ops : Array Oper} {rest : List Oper} (hgd : Region.wanted o (yielded ops a.tmps) = true) (s x : Operand) (ho : o.op = .call { callee := .builtin .append, args := #[s, x], argTypes := #[t, t] })
    (hown : w.ownsRow base e 1 v n xs) (hxs : ∀ y ∈ xs, ∀ x, y ≠ B8 x) (hnb : NoB w v) (hs : a.eval s = v) {ad : Addr} {c : Nat} {u : Value} (hx : a.eval x = .slice (some ad) 1 c) (hc : w.cell? ad = some u) (hu1 : u.oneCell' = true) (hu : ∀ x, u ≠ B8 x)
    (hn : n + 1 ≤ 100000000000) (hbase : base ≤ w.heap.size)
    (hk : ∀ A' c' w', w'.ownsRow base e 1 (.slice A' (n + 1) c') (n + 1) (xs ++ [u]) → w.grownBy w' v.ownBlock → NoB w' (.slice A' (n + 1) c') → wpList P ops Q rest (a.put o.dst (.slice A' (n + 1) c')) w') : wpList P ops Q (o :: rest) a w :=
  wpList_step fun _ hK => by
    rw [if_pos hgd]
    obtain ⟨A', c', w', hrun, h2, h3, _⟩ := run_append_some (P := P) st.row o.type hown (c := c) (m := 1) (news := [u]) rfl (row_one hc) (by simpa using hu1) hn hbase
    obtain ⟨i, b, hi1, hi2, hi3, hi4, hi5⟩ := st.hi
    have h4 := append_noB st.hs hi1 hi2 hi3 (by omega) rfl (by intro x h; cases h) hown hxs hnb hc hu1 hu hn hrun
    unfold Oper.wp execOp
    simp only [ho, resolve, invoke, builtin, Sem.run_bind, Sem.run_pure, Result.andThen_ok, List.map_toArray, List.map_cons, List.map_nil, hs, hx, hrun]
    exact hK _ _ (hk A' c' w' h2 h3 h4)
end

end Go.Proofs.Ytjcngipaeoegcaa
