/-
  An append of several onto a row of slices turns no bytes. No program in sight.
-/
import Derived.Test.YtjcngipaeoegcaaNoBy
namespace Go.Proofs.Ytjcngipaeoegcaa
open Go.RowKit

theorem append_noB_many {P : Program} {w w' : World} {t e ty : TypeId} {v : Value} {n base : Nat} {xs : List Value} (ht : P.underlying t = some (.slice e)) {i : TypeInfo} {z : Value} (hi : P.info? e = some i) (hz : i.zero = some z) (hsz : i.size = 1) (hby : i.bytes ≤ 1000)
    (hzc : z.cells = #[z]) (hzb : ∀ x, z ≠ B8 x) (hown : w.ownsRow base e 1 v n xs) (hxs : ∀ y ∈ xs, ∀ x, y ≠ B8 x) (hn : NoB w v) {ad : Addr} {news : List Value} {m c : Nat} (hl : news.length = m) (hr : Row w (some ad) news) (hu1 : ∀ u ∈ news, u.oneCell' = true) (hu : ∀ u ∈ news, ∀ x, u ≠ B8 x)
    (hb : n + m ≤ 100000000000) {A' : Option Addr} {c' : Nat} (hm0 : 0 < m) (hrun : (Builtin.append_ #[t, t] ty #[v, .slice (some ad) m c]).run P w = .ok (.slice A' (n + m) c') w') : NoB w' (.slice A' (n + m) c') := by
  have hnews : ∀ (j : Nat) y, news[j]? = some y → w.cell? (ad.add j) = some y := by
    intro j y hy
    obtain ⟨ad', e, hc⟩ := hr (by intro e; rw [e] at hy; simp at hy)
    injection e with e
    subst e
    exact hc j y hy
  have hbytes : (n + m) * i.bytes ≤ 140737488355328 := Nat.le_trans (Nat.mul_le_mul hb hby) (by omega)
  rcases hown.2 with ⟨rfl, rfl⟩ | ⟨g, cap, cur, rfl, hbg, hg, hnc, hcm, hcs, htake⟩
  · have h := run_append_nil (P := P) w t ty e i z ht hi hz ad m c news (by rw [hsz]; omega) hnews hm0 (by omega) (by simp only [Nat.zero_add] at hbytes; omega)
    rw [h] at hrun
    injection hrun with h1 h2
    injection h1 with h3 h4 h5
    subst h3
    subst h2
    intro g cs t' fr hgo hh y hy x
    injection hgo with hgo
    subst hgo
    have hnew := heap_alloc_new w.drew (.cells (news.toArray ++ Builtin.zeroCells z.cells (grownCap w m 0 e - m)) e)
    rw [show w.drew.heap.size = w.heap.size from rfl] at hnew
    rw [hnew] at hh
    injection hh with hh
    injection hh with hh
    subst hh
    rw [Array.toList_append, List.mem_append] at hy
    rcases hy with hy | hy
    · exact hu y (by simpa using hy) x
    · rw [zero_cells_mem hzc hy]; exact hzb x
  · by_cases hroom : n + m ≤ cap
    · have h := run_append_room (P := P) w t ty e i ht hi g n cap cur hg ad m c news (by rw [hsz]; omega) hnews hu1 hroom (by rw [hsz, hl]; omega)
      rw [h] at hrun
      injection hrun with h1 h2
      injection h1 with h3 h4 h5
      subst h3
      subst h2
      intro g' cs t' fr hgo hh y hy x
      injection hgo with hgo
      subst hgo
      rw [setRow_heap w g cur _ e _ hg] at hh
      injection hh with hh
      injection hh with hh
      subst hh
      have hcur := hn g cur e (0, 0) rfl hg
      simp only [List.mem_append] at hy
      rcases hy with (hy | hy) | hy
      · exact hcur y (List.mem_of_mem_take hy) x
      · exact hu y hy x
      · exact hcur y (List.mem_of_mem_drop hy) x
    · have holds : ∀ (j : Nat) y, xs[j]? = some y → w.cell? ((⟨g, 0, none⟩ : Addr).add j) = some y := hown.cells (g := g) rfl
      have h := run_append_grow (P := P) w t ty e i z ht hi hz ⟨g, 0, none⟩ n cap xs (by rw [hsz]; exact hown.1) holds ad m c news (by rw [hsz]; omega) hnews (by omega) (by omega) (growslice_fits (by omega) hbytes)
      rw [h] at hrun
      injection hrun with h1 h2
      injection h1 with h3 h4 h5
      subst h3
      subst h2
      intro g' cs t' fr hgo hh y hy x
      injection hgo with hgo
      subst hgo
      have hnew := heap_alloc_new w.drew (.cells (xs.toArray ++ news.toArray ++ Builtin.zeroCells z.cells (grownCap w (n + m) cap e - (n + m))) e)
      rw [show w.drew.heap.size = w.heap.size from rfl] at hnew
      rw [hnew] at hh
      injection hh with hh
      injection hh with hh
      subst hh
      rw [Array.toList_append, Array.toList_append, List.mem_append, List.mem_append] at hy
      rcases hy with (hy | hy) | hy
      · exact hxs y (by simpa using hy) x
      · exact hu y (by simpa using hy) x
      · rw [zero_cells_mem hzc hy]; exact hzb x

theorem BsL.one {w : World} {vs : List Value} {ls : List (List UInt8)} (h : BsL w vs ls) : ∀ u ∈ vs, u.oneCell' = true := by
  intro y hy
  obtain ⟨j, hj, rfl⟩ := List.mem_iff_getElem.1 hy
  obtain ⟨A, c, e2, _⟩ := h.2 j _ _ (List.getElem?_eq_getElem hj) (List.getElem?_eq_getElem (by rw [← h.1]; exact hj))
  rw [e2]
  rfl
theorem BsL.append {w : World} {v1 v2 : List Value} {l1 l2 : List (List UInt8)} (h1 : BsL w v1 l1) (h2 : BsL w v2 l2) : BsL w (v1 ++ v2) (l1 ++ l2) := by
  refine ⟨by simp [h1.1, h2.1], fun j u x hu hx => ?_⟩
  have e1 := h1.1
  rcases Nat.lt_or_ge j v1.length with hj | hj
  · rw [List.getElem?_append_left hj] at hu
    rw [List.getElem?_append_left (by omega)] at hx
    exact h1.2 j u x hu hx
  · rw [List.getElem?_append_right hj] at hu
    rw [List.getElem?_append_right (by omega), ← e1] at hx
    exact h2.2 _ u x hu hx

section
variable {P : Program} {w : World} {t : TypeId} {v : Value} {base : Nat} {o : Oper} {a : Act} {Q : Exit → Act → World → Prop} {l1 l2 : List (List UInt8)}
/-- A slice of slices that the call owns, whose row holds no byte. -/
def LsN (w : World) (D : Nat) (v : Value) (ls : List (List UInt8)) : Prop := LsO w D v ls ∧ NoB w v
theorem LsN.nil (w : World) (D : Nat) : LsN w D (.slice none 0 0) [] := ⟨LsO.nil _ _, NoB.nil _ _ _⟩
theorem LsO.lt {w : World} {D : Nat} {v : Value} {ls : List (List UInt8)} (h : LsO w D v ls) : ∀ g, v.ownBlock = some g → D ≤ g ∧ g < w.heap.size := World.ownsRow.lt h.choose_spec.1
theorem LsN.ext {w w' : World} {D : Nat} {v : Value} {ls : List (List UInt8)} (h : LsN w D v ls) (he : Ext w w') : LsN w' D v ls := ⟨h.1.ext he, h.2.ext (fun g hg => (h.1.lt g hg).2) he⟩
theorem Ls.vals {w : World} {A : Option Addr} {ls : List (List UInt8)} (h : Ls w A ls) : ∃ vs, Row w A vs ∧ BsL w vs ls := by
  obtain ⟨vs, hl, hr, hb⟩ := h
  exact ⟨vs, hr, hl, hb⟩

/-- append of a slice of slices behind one that the call owns. -/
theorem run_append_lists (st : SlTy P t 22) (ty : TypeId) (h : LsN w base v l1) {A : Option Addr} {m c : Nat} (hm : l2.length = m) (hr : Ls w A l2) (hn : l1.length + m ≤ 100000000000) (hbase : base ≤ w.heap.size) :
    ∃ A' c' w', (Builtin.append_ #[t, t] ty #[v, .slice A m c]).run P w = .ok (.slice A' (l1.length + m) c') w' ∧ LsN w' base (.slice A' (l1.length + m) c') (l1 ++ l2) ∧ w.grownBy w' v.ownBlock := by
  obtain ⟨⟨vs, hown, hbs⟩, hnb⟩ := h
  obtain ⟨us, hrow, hbu⟩ := hr.vals
  have hul : us.length = m := by rw [hbu.1, hm]
  obtain ⟨A', c', w', hrun, h2, h3, _⟩ := run_append_some (P := P) st.row ty hown (c := c) hul hrow hbu.one hn hbase
  obtain ⟨i, b, hi1, hi2, hi3, hi4, hi5⟩ := st.hi
  have h4 : NoB w' (.slice A' (l1.length + m) c') := by
    rcases Nat.eq_zero_or_pos m with h0 | h0
    · subst h0
      have hus : us = [] := List.eq_nil_of_length_eq_zero hul
      subst hus
      -- nothing was laid
      cases A with
      | none =>
        have hsame : w' = w ∧ Value.slice A' (l1.length + 0) c' = v := by
          have hr2 : (Builtin.append_ #[t, t] ty #[v, .slice none 0 c]).run P w = .ok v w := by
            rcases hown.2 with ⟨h2, h0⟩ | ⟨g, cap, cur, h2, _, _, hnc, _⟩
            · cases h2
              simp [Builtin.append_, run_underlying st.hs, sizeOf, typeInfo, hi1, Builtin.lenOf, Builtin.firstCells]
            · cases h2
              simp [Builtin.append_, run_underlying st.hs, sizeOf, typeInfo, hi1, Builtin.lenOf, Builtin.firstCells, hnc, storeCells]
          rw [hr2] at hrun
          injection hrun with e1 e2
          exact ⟨e2.symm, e1.symm⟩
        rw [hsame.1, hsame.2]
        exact hnb
      | some ad =>
        have hsame : w' = w ∧ Value.slice A' (l1.length + 0) c' = v := by
          have hr2 : (Builtin.append_ #[t, t] ty #[v, .slice (some ad) 0 c]).run P w = .ok v w := by
            rcases hown.2 with ⟨h2, h0⟩ | ⟨g, cap, cur, h2, _, _, hnc, _⟩
            · cases h2
              simp [Builtin.append_, run_underlying st.hs, sizeOf, typeInfo, hi1, Builtin.lenOf, Builtin.firstCells, loadCells, loadCellsFrom]
            · cases h2
              simp [Builtin.append_, run_underlying st.hs, sizeOf, typeInfo, hi1, Builtin.lenOf, Builtin.firstCells, hnc, storeCells, loadCells, loadCellsFrom]
          rw [hr2] at hrun
          injection hrun with e1 e2
          exact ⟨e2.symm, e1.symm⟩
        rw [hsame.1, hsame.2]
        exact hnb
    · obtain ⟨ad, rfl, _⟩ := hrow (by intro e; rw [e] at hul; simp at hul; omega)
      exact append_noB_many st.hs hi1 hi2 hi3 (by omega) rfl (by intro x h; cases h) hown hbs.slices hnb hul hrow hbu.one hbu.slices hn h0 hrun
  refine ⟨A', c', w', hrun, ⟨⟨vs ++ us, ?_, (hbs.noB hnb h3).append (hbu.noB hnb h3)⟩, h4⟩, h3⟩
  rw [List.length_append, hm]
  exact h2
theorem wp_append_lists (st : SlTy P t 22) {K : Act → World → Prop} (s x : Operand) (ho : o.op = .call { callee := .builtin .append, args := #[s, x], argTypes := #[t, t] })
    (h : LsN w base v l1) (hs : a.eval s = v) {A : Option Addr} {m c : Nat} (hx : a.eval x = .slice A m c) (hm : l2.length = m) (hr : Ls w A l2) (hn : l1.length + m ≤ 100000000000) (hbase : base ≤ w.heap.size)
    (hk : ∀ A' c' w', LsN w' base (.slice A' (l1.length + m) c') (l1 ++ l2) → w.grownBy w' v.ownBlock → K (a.put o.dst (.slice A' (l1.length + m) c')) w') : o.wp P a w K Q := by
  obtain ⟨A', c', w', hrun, h2, h3⟩ := run_append_lists (P := P) st o.type h (c := c) hm hr hn hbase
  unfold Oper.wp execOp
  simp only [ho, resolve, invoke, builtin, Sem.run_bind, Sem.run_pure, Result.andThen_ok, List.map_toArray, List.map_cons, List.map_nil, hs, hx, hrun]
  exact hk A' c' w' h2 h3
theorem wpList_append_lists (st : SlTy P t 22) {ops : Array Oper} {rest : List Oper} (hgd : Region.wanted o (yielded ops a.tmps) = true) (s x : Operand) (ho : o.op = .call { callee := .builtin .append, args := #[s, x], argTypes := #[t, t] })
    (h : LsN w base v l1) (hs : a.eval s = v) {A : Option Addr} {m c : Nat} (hx : a.eval x = .slice A m c) (hm : l2.length = m) (hr : Ls w A l2) (hn : l1.length + m ≤ 100000000000) (hbase : base ≤ w.heap.size)
    (hk : ∀ A' c' w', LsN w' base (.slice A' (l1.length + m) c') (l1 ++ l2) → w.grownBy w' v.ownBlock → wpList P ops Q rest (a.put o.dst (.slice A' (l1.length + m) c')) w') : wpList P ops Q (o :: rest) a w :=
  wpList_step fun _ hK => by
    rw [if_pos hgd]
    exact wp_append_lists st s x ho h hs hx hm hr hn hbase fun A' c' w' h2 h3 => hK _ _ (hk A' c' w' h2 h3)
end

end Go.Proofs.Ytjcngipaeoegcaa
