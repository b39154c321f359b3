/-
  Bytes that a call owns, and append onto them. The types' numbers: 22 is []byte, 5 is byte.
-/
import Derived.Test.YtjcngipaeoegcaaMem
import Derived.Maps.AppendAt
namespace Go.Proofs.Ytjcngipaeoegcaa
open Go.RowKit

structure ByteTy (P : Program) (t e : TypeId) : Prop where
  hs : P.underlying t = some (.slice e)
  he : P.underlying e = some (.int .u8)
  hi : ∃ i, P.info? e = some i ∧ i.zero = some (.int .u8 0) ∧ i.size = 1 ∧ i.bytes = 1

/-- The slice v is the call's own (its block is B or later) and holds these bytes. -/
def Own (w : World) (B : Nat) (v : Value) (l : List UInt8) : Prop := w.ownsRow B 5 1 v l.length (l.map B8)

section
variable {w w' : World} {B : Nat} {v : Value} {l : List UInt8}
theorem Own.nil (w : World) (B : Nat) : Own w B (.slice none 0 0) [] := ⟨by simp, .inl ⟨rfl, rfl⟩⟩
theorem Own.shape (h : Own w B v l) : ∃ A c, v = .slice A l.length c ∧ l.length ≤ c := by
  rcases h.2 with ⟨rfl, h0⟩ | ⟨g, cap, cur, rfl, _, _, hc, _⟩
  · exact ⟨none, 0, by rw [h0], by omega⟩
  · exact ⟨_, cap, rfl, hc⟩
theorem Own.bs (h : Own w B v l) : Bs w v l := by
  obtain ⟨A, c, rfl, hc⟩ := h.shape
  exact ⟨A, c, rfl, hc, Row.of_own (n := l.length) h⟩
theorem Own.row {A : Option Addr} {n c : Nat} (h : Own w B (.slice A n c) l) : Row w A (l.map B8) := by
  obtain ⟨A', c', e, _, hr⟩ := h.bs
  injection e with e1
  rw [e1]
  exact hr
theorem Own.block (h : Own w B v l) : ∀ g, v.ownBlock = some g → B ≤ g ∧ g < w.heap.size := World.ownsRow.lt h
theorem Own.ext (h : Own w B v l) (he : Ext w w') : Own w' B v l := by
  refine ⟨h.1, ?_⟩
  rcases h.2 with h2 | ⟨g, cap, cur, hv, hg, hh, r⟩
  · exact .inl h2
  · exact .inr ⟨g, cap, cur, hv, hg, (he.block g (lt_of_block hh)).trans hh, r⟩
theorem Own.keep (h : Own w B v l) (hb : ∀ g, v.ownBlock = some g → w'.heap[g]? = w.heap[g]?) : Own w' B v l := by
  refine ⟨h.1, ?_⟩
  rcases h.2 with h2 | ⟨g, cap, cur, hv, hg, hh, r⟩
  · exact .inl h2
  · exact .inr ⟨g, cap, cur, hv, hg, (hb g (by rw [hv]; rfl)).trans hh, r⟩
theorem Own.mono {B' : Nat} (h : Own w B v l) (hb : B' ≤ B) : Own w B' v l := by
  refine ⟨h.1, ?_⟩
  rcases h.2 with h2 | ⟨g, cap, cur, hv, hg, r⟩
  · exact .inl h2
  · exact .inr ⟨g, cap, cur, hv, by omega, r⟩
theorem Own.ne_block (h : Own w B v l) {k : Nat} {cs : Array Value} {t : TypeId} {fr : Nat × Nat} (hk : w.heap[k]? = some (.cells cs t fr)) (ht : t ≠ 5) : some k ≠ v.ownBlock := by
  intro e
  rcases h.2 with ⟨rfl, _⟩ | ⟨g, cap, cur, rfl, _, hh, _⟩
  · cases e
  · have : k = g := by injection e
    subst this
    rw [hh] at hk
    injection hk with hk
    injection hk with _ h2
    exact ht h2.symm
/-- One byte is stored. -/
theorem Own.stored {g n c : Nat} (h : Own w B (.slice (some ⟨g, 0, none⟩) n c) l) (hn : l.length = n) (j : Nat) (x : UInt8) :
    Own (w.setCell ⟨g, j, none⟩ (B8 x)) B (.slice (some ⟨g, 0, none⟩) n c) (l.set j x) := by
  subst hn
  have := World.ownsRow.stored (h : w.ownsRow B 5 1 (.slice (some ⟨g, 0, none⟩) l.length c) l.length (l.map B8)) j (B8 x) |>.1
  unfold Own
  rw [List.length_set, List.map_set]
  exact this
theorem Own.cell {g n c : Nat} (h : Own w B (.slice (some ⟨g, 0, none⟩) n c) l) {j : Nat} (hj : j < l.length) : w.cell? ⟨g, j, none⟩ = some (B8 (l.getD j 0)) := by
  have hr := h.row
  obtain ⟨ad, e, hc⟩ := hr (by intro e; rw [List.map_eq_nil_iff] at e; subst e; simp at hj)
  injection e with e
  subst e
  have := hc j (B8 (l.getD j 0)) (by rw [List.getElem?_map, List.getD_eq_getElem?_getD, List.getElem?_eq_getElem hj]; rfl)
  rwa [show (⟨g, 0, none⟩ : Addr).add j = ⟨g, j, none⟩ by unfold Addr.add; split <;> simp_all] at this
theorem Own.free {g n c : Nat} (h : Own w B (.slice (some ⟨g, 0, none⟩) n c) l) (j : Nat) : w.frozen? ⟨g, j, none⟩ = false := by
  rcases h.2 with ⟨e, _⟩ | ⟨g', cap, cur, e, _, hh, _⟩
  · cases e
  · injection e with e
    injection e with e
    injection e with e
    subst e
    exact frozen_of_row w g j cur 5 hh
/-- A new block of bytes is the call's own. -/
theorem Own.new (w : World) (B : Nat) (hB : B ≤ w.heap.size) (l : List UInt8) (n : Nat) (hn : n = l.length) (hm : l.length ≤ 1000000000000) (cs : Array Value) (hc : cs.toList = l.map B8) :
    Own (w.alloc (.cells cs 5)) B (.slice (some ⟨w.heap.size, 0, none⟩) n n) l := by
  subst hn
  have hs : cs.size = l.length := by rw [← Array.length_toList, hc, List.length_map]
  refine ⟨by simp, .inr ⟨w.heap.size, l.length, cs, rfl, hB, heap_alloc_new w _, Nat.le_refl _, by simp only [maxLen]; omega, by omega, ?_⟩⟩
  rw [hc, List.take_of_length_le (by simp)]

variable {P : Program}
theorem run_append_nothing {t ty e : TypeId} {i : TypeInfo} (ht : P.underlying t = some (.slice e)) (hi : P.info? e = some i) (h : Own w B v l) (c : Nat) :
    (Builtin.append_ #[t, t] ty #[v, .slice none 0 c]).run P w = .ok v w := by
  rcases h.2 with ⟨rfl, h0⟩ | ⟨g, cap, cur, rfl, _, _, hnc, _⟩
  · simp [Builtin.append_, run_underlying ht, sizeOf, typeInfo, hi, Builtin.lenOf, Builtin.firstCells]
  · simp [Builtin.append_, run_underlying ht, sizeOf, typeInfo, hi, Builtin.lenOf, Builtin.firstCells, hnc, storeCells]

theorem b8_one (l : List UInt8) : ∀ u ∈ l.map B8, u.oneCell' = true := by
  intro u hu
  obtain ⟨x, _, rfl⟩ := List.mem_map.1 hu
  rfl

/-- append, whatever stands behind: the new row, and what else has turned. -/
theorem run_append_bytes {t ty : TypeId} (bt : ByteTy P t 5) (h : Own w B v l) {A : Option Addr} {m c : Nat} {l2 : List UInt8} (hm : l2.length = m) (hr : Row w A (l2.map B8))
    (hb : l.length + l2.length ≤ 100000000000000) (hB : B ≤ w.heap.size) :
    ∃ A' c' w', (Builtin.append_ #[t, t] ty #[v, .slice A m c]).run P w = .ok (.slice A' (l.length + m) c') w' ∧ Own w' B (.slice A' (l.length + m) c') (l ++ l2) ∧ w.grownBy w' v.ownBlock ∧
      ((Value.slice A' (l.length + m) c').ownBlock = v.ownBlock ∨ (Value.slice A' (l.length + m) c').ownBlock = some w.heap.size) := by
  obtain ⟨i, hi, hz, hsz, hby⟩ := bt.hi
  subst hm
  by_cases hA : A = none
  · subst hA
    have h0 : l2 = [] := by
      rcases l2 with _ | ⟨x, l2⟩
      · rfl
      · obtain ⟨ad, e, _⟩ := hr (by simp)
        cases e
    subst h0
    obtain ⟨A', c', rfl, _⟩ := h.shape
    exact ⟨A', c', w, run_append_nothing bt.hs hi h c, by simpa using h, World.grownBy.refl w _, .inl rfl⟩
  · obtain ⟨ad, rfl⟩ := Option.ne_none_iff_exists'.1 hA
    have hcells : ∀ j u, (l2.map B8)[j]? = some u → w.cell? (ad.add j) = some u := by
      intro j u hu
      obtain ⟨ad', e, hc⟩ := hr (by intro e; rw [e] at hu; simp at hu)
      injection e with e
      subst e
      exact hc j u hu
    obtain ⟨v', w', hrun, hown, hg, _, hbl⟩ := run_append_own_at (P := P) w B t ty 5 i (.int .u8 0) 1 1 bt.hs hi hz hsz hby rfl (by omega) v l.length (l.map B8) h ad l2.length c (l2.map B8)
      (by simp) hcells (b8_one l2) (by simp only [maxLen]; omega) (by omega) hB
    have hown' : Own w' B v' (l ++ l2) := by
      unfold Own
      rw [List.length_append, List.map_append]
      exact hown
    obtain ⟨A', c', rfl, _⟩ := hown'.shape
    rw [List.length_append] at hown' hrun hbl
    exact ⟨A', c', w', hrun, hown', hg, hbl⟩

theorem wp_append_bytes {t : TypeId} (bt : ByteTy P t 5) {o : Oper} {a : Act} {K : Act → World → Prop} {Q : Exit → Act → World → Prop} (s x : Operand)
    (ho : o.op = .call { callee := .builtin .append, args := #[s, x], argTypes := #[t, t] })
    (h : Own w B v l) (hs : a.eval s = v) {A : Option Addr} {m c : Nat} {l2 : List UInt8} (hx : a.eval x = .slice A m c) (hm : l2.length = m) (hr : Row w A (l2.map B8))
    (hb : l.length + l2.length ≤ 100000000000000) (hB : B ≤ w.heap.size)
    (hk : ∀ A' c' w', Own w' B (.slice A' (l.length + m) c') (l ++ l2) → w.grownBy w' v.ownBlock →
      ((Value.slice A' (l.length + m) c').ownBlock = v.ownBlock ∨ (Value.slice A' (l.length + m) c').ownBlock = some w.heap.size) → K (a.put o.dst (.slice A' (l.length + m) c')) w') : o.wp P a w K Q := by
  obtain ⟨A', c', w', hrun, h2, h3, h4⟩ := run_append_bytes (P := P) (ty := o.type) bt h (c := c) hm hr hb hB
  unfold Oper.wp execOp
  simp only [ho, resolve, invoke, builtin, Sem.run_bind, Sem.run_pure, Result.andThen_ok, List.map_toArray, List.map_cons, List.map_nil, hs, hx, hrun]
  exact hk A' c' w' h2 h3 h4

theorem wpList_append_bytes {t : TypeId} (bt : ByteTy P t 5) {ops : Array Oper} {rest : List Oper} {o : Oper} {a : Act} {Q : Exit → Act → World → Prop} (hgd : Region.wanted o (yielded ops a.tmps) = true) (s x : Operand)
    (ho : o.op = .call { callee := .builtin .append, args := #[s, x], argTypes := #[t, t] })
    (h : Own w B v l) (hs : a.eval s = v) {A : Option Addr} {m c : Nat} {l2 : List UInt8} (hx : a.eval x = .slice A m c) (hm : l2.length = m) (hr : Row w A (l2.map B8))
    (hb : l.length + l2.length ≤ 100000000000000) (hB : B ≤ w.heap.size)
    (hk : ∀ A' c' w', Own w' B (.slice A' (l.length + m) c') (l ++ l2) → w.grownBy w' v.ownBlock →
      ((Value.slice A' (l.length + m) c').ownBlock = v.ownBlock ∨ (Value.slice A' (l.length + m) c').ownBlock = some w.heap.size) → wpList P ops Q rest (a.put o.dst (.slice A' (l.length + m) c')) w') : wpList P ops Q (o :: rest) a w :=
  wpList_step fun _ hK => by
    rw [if_pos hgd]
    exact wp_append_bytes bt s x ho h hs hx hm hr hb hB fun A' c' w' h2 h3 h4 => hK _ _ (hk A' c' w' h2 h3 h4)

/-- What an append leaves alone. -/
theorem Own.below {W : World} {B' : Nat} (h : Own w B' v l) (hg : w.grownBy w' v.ownBlock) (hbel : Below B W w) (hsz : B ≤ w.heap.size) (hB : B ≤ B') : Below B W w' :=
  hbel.grown hg hsz fun k hk => Nat.le_trans hB (h.block k hk).1
theorem grown_cells {row : Option Nat} (hg : w.grownBy w' row) {A : Option Addr} {xs : List Value} (hr : Row w A xs) (hne : ∀ ad, A = some ad → row ≠ some ad.block) : Row w' A xs := fun hx => by
  obtain ⟨ad, e, hc⟩ := hr hx
  exact ⟨ad, e, fun j u hu => (World.cell?_of_block (w := w) (hg.block (ad.add j).block (block_lt_of_cell (hc j u hu)) (by rw [add_block]; exact fun h => hne ad e h.symm))).trans (hc j u hu)⟩
end
end Go.Proofs.Ytjcngipaeoegcaa
