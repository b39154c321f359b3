/-
  Slices of slices of bytes that a call owns; what a step that turns one block leaves alone. No program in sight.
-/
import Derived.Test.YtjcngipaeoegcaaOwn
import Derived.RangeFuncBox
import Derived.Maps.AppendAt
namespace Go.Proofs.Ytjcngipaeoegcaa
open Go.RowKit

/-- A slice of bytes that stands whatever the call writes into blocks of its own of other types: it was there ahead of the call, or its block is one of bytes. -/
def Elem (w : World) (B : Nat) (u : Value) (x : List UInt8) : Prop := Bs w u x ∧ ∀ g, x ≠ [] → u.ownBlock = some g → g < B ∨ ∃ cs fr, w.heap[g]? = some (.cells cs 5 fr)
theorem Own.elem {w : World} {B B' : Nat} {u : Value} {x : List UInt8} (h : Own w B u x) : Elem w B' u x := by
  refine ⟨h.bs, fun g _ hg => .inr ?_⟩
  rcases h.2 with ⟨rfl, _⟩ | ⟨g', cap, cur, rfl, _, hh, _⟩
  · cases hg
  · injection hg with hg
    subst hg
    exact ⟨_, _, hh⟩
theorem Elem.ext {w w' : World} {B : Nat} {u : Value} {x : List UInt8} (h : Elem w B u x) (he : Ext w w') : Elem w' B u x := by
  refine ⟨h.1.ext he, fun g hx hg => ?_⟩
  rcases h.2 g hx hg with h1 | ⟨cs, fr, h1⟩
  · exact .inl h1
  · exact .inr ⟨cs, fr, (he.block g (lt_of_block h1)).trans h1⟩
/-- What was there ahead of the call. -/
theorem Bs.elem {w w' : World} {u : Value} {x : List UInt8} (h : Bs w u x) (hg : ∀ g, x ≠ [] → u.ownBlock = some g → g < w.heap.size) (he : Ext w w') : Elem w' w.heap.size u x :=
  ⟨h.ext he, fun g hx hgu => .inl (hg g hx hgu)⟩

/-- The turn of a block of the call's own that is no bytes. -/
def Turns (B : Nat) (w : World) (row : Option Nat) : Prop := ∀ g, row = some g → B ≤ g ∧ ∃ o, w.heap[g]? = some o ∧ ∀ cs fr, o ≠ .cells cs 5 fr
theorem Turns.none (B : Nat) (w : World) : Turns B w none := fun g e => by cases e
theorem Turns.box {B g : Nat} {w : World} {t : TypeId} {v : Value} (h : Boxed w g t v) (ht : t ≠ 5) (hB : B ≤ g) : Turns B w (some g) := fun g' e => by
  cases e
  exact ⟨hB, _, h, fun cs fr e => by injection e with _ e; exact ht e⟩
theorem Turns.row {B D : Nat} {w : World} {e : TypeId} {size : Nat} {v : Value} {k : Nat} {xs : List Value} (h : w.ownsRow D e size v k xs) (he : e ≠ 5) (hB : B ≤ D) : Turns B w v.ownBlock := fun g hg => by
  rcases h.2 with ⟨rfl, _⟩ | ⟨g', cap, cur, rfl, hD, hh, _⟩
  · cases hg
  · injection hg with hg
    subst hg
    exact ⟨Nat.le_trans hB hD, _, hh, fun cs fr e' => by injection e' with _ e'; exact he e'⟩
theorem Turns.other {B g : Nat} {w : World} {o : Obj} (h : w.heap[g]? = some o) (ho : o.isCells = false) (hB : B ≤ g) : Turns B w (some g) := fun g' e => by
  cases e
  exact ⟨hB, _, h, fun cs fr e => by subst e; cases ho⟩

theorem Elem.turned {w w' : World} {B : Nat} {u : Value} {x : List UInt8} {row : Option Nat} (h : Elem w B u x) (hg : w.grownBy w' row) (ht : Turns B w row) : Elem w' B u x := by
  have hne : x ≠ [] → ∀ g, u.ownBlock = some g → row ≠ some g := by
    intro hx g hgu e
    obtain ⟨hB, o, hh, ht5⟩ := ht g e
    rcases h.2 g hx hgu with h1 | ⟨cs', fr', h1⟩
    · omega
    · rw [hh] at h1
      injection h1 with h1
      exact ht5 _ _ h1
  obtain ⟨⟨A, c, rfl, hc, hr⟩, hb⟩ := h
  refine ⟨⟨A, c, rfl, hc, ?_⟩, fun g hx hgu => ?_⟩
  · by_cases hx : x = []
    · subst hx; exact Row.nil _ _
    · exact grown_cells hg hr fun ad e => by subst e; exact hne hx ad.block rfl
  · rcases hb g hx hgu with h1 | ⟨cs, fr, h1⟩
    · exact .inl h1
    · exact .inr ⟨cs, fr, (hg.block g (lt_of_block h1) (fun e => hne hx g hgu e.symm)).trans h1⟩
theorem Own.turned {w w' : World} {B D : Nat} {u : Value} {x : List UInt8} {row : Option Nat} (h : Own w D u x) (hg : w.grownBy w' row) (ht : Turns B w row) : Own w' D u x := by
  refine h.keep fun g hgu => hg.block g (h.block g hgu).2 ?_
  intro e
  obtain ⟨_, o, hh, ht5⟩ := ht g e.symm
  rcases h.2 with ⟨rfl, _⟩ | ⟨g', cap, cur, rfl, _, hh', _⟩
  · cases hgu
  · injection hgu with hgu
    subst hgu
    rw [hh] at hh'
    injection hh' with hh'
    exact ht5 _ _ hh'

/-- Each of the values reads as its list. -/
def Elems (w : World) (B : Nat) (vs : List Value) (ls : List (List UInt8)) : Prop := ∀ (j : Nat) u x, vs[j]? = some u → ls[j]? = some x → Elem w B u x
theorem Elems.nil (w : World) (B : Nat) : Elems w B [] [] := fun j u x h => by simp at h
theorem Elems.ext {w w' : World} {B : Nat} {vs : List Value} {ls : List (List UInt8)} (h : Elems w B vs ls) (he : Ext w w') : Elems w' B vs ls := fun j u x hu hx => (h j u x hu hx).ext he
theorem Elems.turned {w w' : World} {B : Nat} {vs : List Value} {ls : List (List UInt8)} {row : Option Nat} (h : Elems w B vs ls) (hg : w.grownBy w' row) (ht : Turns B w row) : Elems w' B vs ls := fun j u x hu hx => (h j u x hu hx).turned hg ht
theorem Elems.snoc {w : World} {B : Nat} {vs : List Value} {ls : List (List UInt8)} (h : Elems w B vs ls) (hl : vs.length = ls.length) {u : Value} {x : List UInt8} (hu : Elem w B u x) : Elems w B (vs ++ [u]) (ls ++ [x]) := by
  intro j u' x' h1 h2
  rcases Nat.lt_trichotomy j vs.length with hj | hj | hj
  · rw [List.getElem?_append_left hj] at h1
    rw [List.getElem?_append_left (by omega)] at h2
    exact h j u' x' h1 h2
  · subst hj
    rw [List.getElem?_append_right (Nat.le_refl _)] at h1
    rw [List.getElem?_append_right (by omega), hl] at h2
    simp at h1 h2
    subst h1
    subst h2
    exact hu
  · rw [List.getElem?_eq_none (by simp; omega)] at h1
    cases h1

/-- A slice of slices that the call owns, from block D on; what it holds stands. -/
def OwnL (w : World) (B D : Nat) (v : Value) (ls : List (List UInt8)) : Prop := ∃ vs : List Value, w.ownsRow D 22 1 v ls.length vs ∧ Elems w B vs ls
theorem OwnL.nil (w : World) (B D : Nat) : OwnL w B D (.slice none 0 0) [] := ⟨[], World.ownsRow_nil _ _ _ _, Elems.nil _ _⟩
theorem ownsRow_shape {w : World} {D : Nat} {e : TypeId} {size : Nat} {v : Value} {k : Nat} {xs : List Value} (h : w.ownsRow D e size v k xs) : ∃ A c, v = .slice A k c ∧ k ≤ c := by
  rcases h.2 with ⟨rfl, h0⟩ | ⟨g, cap, cur, rfl, _, _, hc, _⟩
  · exact ⟨none, 0, by rw [h0], by omega⟩
  · exact ⟨_, cap, rfl, hc⟩
theorem OwnL.shape {w : World} {B D : Nat} {v : Value} {ls : List (List UInt8)} (h : OwnL w B D v ls) : ∃ A c, v = .slice A ls.length c ∧ ls.length ≤ c := ownsRow_shape h.choose_spec.1
theorem ownsRow_ext {w w' : World} {D : Nat} {e : TypeId} {size : Nat} {v : Value} {k : Nat} {xs : List Value} (h : w.ownsRow D e size v k xs) (he : Ext w w') : w'.ownsRow D e size v k xs := by
  refine ⟨h.1, ?_⟩
  rcases h.2 with h2 | ⟨g, cap, cur, hv, hg, hh, r⟩
  · exact .inl h2
  · exact .inr ⟨g, cap, cur, hv, hg, (he.block g (lt_of_block hh)).trans hh, r⟩
theorem ownsRow_mono {w : World} {D D' : Nat} {e : TypeId} {size : Nat} {v : Value} {k : Nat} {xs : List Value} (h : w.ownsRow D e size v k xs) (hd : D' ≤ D) : w.ownsRow D' e size v k xs := by
  refine ⟨h.1, ?_⟩
  rcases h.2 with h2 | ⟨g, cap, cur, hv, hg, hh, r⟩
  · exact .inl h2
  · exact .inr ⟨g, cap, cur, hv, by omega, hh, r⟩
theorem OwnL.ext {w w' : World} {B D : Nat} {v : Value} {ls : List (List UInt8)} (h : OwnL w B D v ls) (he : Ext w w') : OwnL w' B D v ls := by
  obtain ⟨vs, h1, h2⟩ := h
  exact ⟨vs, ownsRow_ext h1 he, h2.ext he⟩
theorem OwnL.mono {w : World} {B D D' : Nat} {v : Value} {ls : List (List UInt8)} (h : OwnL w B D v ls) (hd : D' ≤ D) : OwnL w B D' v ls := by
  obtain ⟨vs, h1, h2⟩ := h
  exact ⟨vs, ownsRow_mono h1 hd, h2⟩

/-- A slice of slices, as it reads: its row of values, and each of them. -/
def Ls (w : World) (A : Option Addr) (ls : List (List UInt8)) : Prop := ∃ vs : List Value, vs.length = ls.length ∧ Row w A vs ∧ ∀ (j : Nat) u x, vs[j]? = some u → ls[j]? = some x → Bs w u x
theorem ownsRow_row {w : World} {D : Nat} {e : TypeId} {n c : Nat} {A : Option Addr} {xs : List Value} (h : w.ownsRow D e 1 (.slice A n c) n xs) : Row w A xs := Row.of_own h
theorem OwnL.ls {w : World} {B D : Nat} {A : Option Addr} {n c : Nat} {ls : List (List UInt8)} (h : OwnL w B D (.slice A n c) ls) : Ls w A ls := by
  obtain ⟨vs, h1, h2⟩ := h
  have hn : n = ls.length := by
    obtain ⟨A', c', e, _⟩ := ownsRow_shape h1
    injection e
  subst hn
  exact ⟨vs, by simpa using h1.1, ownsRow_row h1, fun j u x hu hx => (h2 j u x hu hx).1⟩
theorem Ls.ext {w w' : World} {A : Option Addr} {ls : List (List UInt8)} (h : Ls w A ls) (he : Ext w w') : Ls w' A ls := by
  obtain ⟨vs, hl, h1, h2⟩ := h
  exact ⟨vs, hl, h1.ext he, fun j u x hu hx => (h2 j u x hu hx).ext he⟩
theorem Ls.at_ {w : World} {A : Option Addr} {ls : List (List UInt8)} (h : Ls w A ls) {k : Nat} (hk : k < ls.length) : ∃ ad u, A = some ad ∧ w.cell? (ad.add k) = some u ∧ Bs w u ls[k] := by
  obtain ⟨vs, hl, h1, h2⟩ := h
  obtain ⟨ad, e, hc⟩ := h1.at_ (k := k) (by omega)
  exact ⟨ad, _, e, hc, h2 k _ _ (List.getElem?_eq_getElem (by omega)) (List.getElem?_eq_getElem hk)⟩

theorem Boxed.turned {w w' : World} {g : Nat} {t : TypeId} {v : Value} {row : Option Nat} (h : Boxed w g t v) (hg : w.grownBy w' row) (hne : row ≠ some g) : Boxed w' g t v := h.kept hg (fun e => hne e.symm)
theorem Boxed.ext {w w' : World} {g : Nat} {t : TypeId} {v : Value} (h : Boxed w g t v) (he : Ext w w') : Boxed w' g t v := (he.block g h.lt).trans h

theorem wrap_nat (m : Nat) (h : m ≤ 9223372036854775807) : IntKind.i64.wrap (m : Int) = (m : Int) := by
  have h1 : wrap64 (m : Int) = (m : Int) := by unfold wrap64; omega
  rw [← h1]
  unfold wrap64 IntKind.wrap
  simp [IntKind.bits, IntKind.signed]
  omega
theorem row_ne_other {w : World} {D : Nat} {e : TypeId} {size : Nat} {v : Value} {k : Nat} {xs : List Value} (h : w.ownsRow D e size v k xs) {g : Nat} {o : Obj} (hg : w.heap[g]? = some o) (ho : o.isCells = false) : v.ownBlock ≠ some g := by
  intro e'
  rcases h.2 with ⟨rfl, _⟩ | ⟨g', cap, cur, rfl, _, hh, _⟩
  · cases e'
  · injection e' with e'
    subst e'
    rw [hh] at hg
    injection hg with hg
    subst hg
    cases ho
theorem row_ne_low {w : World} {D : Nat} {e : TypeId} {size : Nat} {v : Value} {k : Nat} {xs : List Value} (h : w.ownsRow D e size v k xs) {g : Nat} (hg : g < D) : v.ownBlock ≠ some g := fun e' => by
  have := (World.ownsRow.lt h g e').1
  omega
/-- A type of slices whose elements fill one cell each. -/
structure RowTy (P : Program) (t e : TypeId) : Prop where
  hs : P.underlying t = some (.slice e)
  hi : ∃ i z bytes, P.info? e = some i ∧ i.zero = some z ∧ i.size = 1 ∧ i.bytes = bytes ∧ z.cells.size = 1 ∧ bytes ≤ 1000
section
variable {P : Program} {w : World} {t e : TypeId} {v : Value} {n base : Nat} {xs : List Value} {o : Oper} {a : Act} {Q : Exit → Act → World → Prop}
/-- append of some, whatever stands behind. -/
theorem run_append_some (rt : RowTy P t e) (ty : TypeId) (hown : w.ownsRow base e 1 v n xs) {A : Option Addr} {m c : Nat} {news : List Value} (hl : news.length = m) (hr : Row w A news) (hu : ∀ u ∈ news, u.oneCell' = true)
    (hn : n + m ≤ 100000000000) (hbase : base ≤ w.heap.size) :
    ∃ A' c' w', (Builtin.append_ #[t, t] ty #[v, .slice A m c]).run P w = .ok (.slice A' (n + m) c') w' ∧ w'.ownsRow base e 1 (.slice A' (n + m) c') (n + m) (xs ++ news) ∧ w.grownBy w' v.ownBlock ∧
      ((Value.slice A' (n + m) c').ownBlock = v.ownBlock ∨ (Value.slice A' (n + m) c').ownBlock = some w.heap.size) := by
  obtain ⟨i, z, bytes, hi, hz, hsz, hby, hzs, hb⟩ := rt.hi
  by_cases hA : A = none
  · subst hA
    have h0 : news = [] := by
      rcases news with _ | ⟨x, l⟩
      · rfl
      · obtain ⟨ad, e, _⟩ := hr (by simp)
        cases e
    subst h0
    subst hl
    obtain ⟨A', c', rfl, _⟩ := ownsRow_shape hown
    refine ⟨A', c', w, ?_, by simpa using hown, World.grownBy.refl w _, .inl rfl⟩
    rcases hown.2 with ⟨h2, h0⟩ | ⟨g, cap, cur, h2, _, _, hnc, _⟩
    · cases h2
      simp [Builtin.append_, run_underlying rt.hs, sizeOf, typeInfo, hi, Builtin.lenOf, Builtin.firstCells]
    · cases h2
      simp [Builtin.append_, run_underlying rt.hs, sizeOf, typeInfo, hi, Builtin.lenOf, Builtin.firstCells, hnc, storeCells]
  · obtain ⟨ad, rfl⟩ := Option.ne_none_iff_exists'.1 hA
    have hcells : ∀ j u, news[j]? = some u → w.cell? (ad.add j) = some u := by
      intro j u hu
      obtain ⟨ad', e, hc⟩ := hr (by intro e; rw [e] at hu; simp at hu)
      injection e with e
      subst e
      exact hc j u hu
    obtain ⟨v', w', hrun, hown', hg, _, hbl⟩ := run_append_own_at (P := P) w base t ty e i z 1 bytes rt.hs hi hz hsz hby hzs (by omega) v n xs hown ad m c news (by omega) hcells hu (by simp only [maxLen]; omega)
      (Nat.le_trans (Nat.mul_le_mul hn hb) (by omega)) hbase
    obtain ⟨A', c', rfl, _⟩ := ownsRow_shape hown'
    exact ⟨A', c', w', hrun, hown', hg, hbl⟩

theorem wp_append_some (rt : RowTy P t e) {K : Act → World → Prop} (s x : Operand) (ho : o.op = .call { callee := .builtin .append, args := #[s, x], argTypes := #[t, t] })
    (hown : w.ownsRow base e 1 v n xs) (hs : a.eval s = v) {A : Option Addr} {m c : Nat} {news : List Value} (hx : a.eval x = .slice A m c) (hl : news.length = m) (hr : Row w A news) (hu : ∀ u ∈ news, u.oneCell' = true)
    (hn : n + m ≤ 100000000000) (hbase : base ≤ w.heap.size)
    (hk : ∀ A' c' w', w'.ownsRow base e 1 (.slice A' (n + m) c') (n + m) (xs ++ news) → w.grownBy w' v.ownBlock →
      ((Value.slice A' (n + m) c').ownBlock = v.ownBlock ∨ (Value.slice A' (n + m) c').ownBlock = some w.heap.size) → K (a.put o.dst (.slice A' (n + m) c')) w') : o.wp P a w K Q := by
  obtain ⟨A', c', w', hrun, h2, h3, h4⟩ := run_append_some (P := P) rt o.type hown (c := c) hl hr hu hn hbase
  unfold Oper.wp execOp
  simp only [ho, resolve, invoke, builtin, Sem.run_bind, Sem.run_pure, Result.andThen_ok, List.map_toArray, List.map_cons, List.map_nil, hs, hx, hrun]
  exact hk A' c' w' h2 h3 h4

theorem wpList_append_some (rt : RowTy P t e) {ops : Array Oper} {rest : List Oper} (hgd : Region.wanted o (yielded ops a.tmps) = true) (s x : Operand) (ho : o.op = .call { callee := .builtin .append, args := #[s, x], argTypes := #[t, t] })
    (hown : w.ownsRow base e 1 v n xs) (hs : a.eval s = v) {A : Option Addr} {m c : Nat} {news : List Value} (hx : a.eval x = .slice A m c) (hl : news.length = m) (hr : Row w A news) (hu : ∀ u ∈ news, u.oneCell' = true)
    (hn : n + m ≤ 100000000000) (hbase : base ≤ w.heap.size)
    (hk : ∀ A' c' w', w'.ownsRow base e 1 (.slice A' (n + m) c') (n + m) (xs ++ news) → w.grownBy w' v.ownBlock →
      ((Value.slice A' (n + m) c').ownBlock = v.ownBlock ∨ (Value.slice A' (n + m) c').ownBlock = some w.heap.size) → wpList P ops Q rest (a.put o.dst (.slice A' (n + m) c')) w') : wpList P ops Q (o :: rest) a w :=
  wpList_step fun _ hK => by
    rw [if_pos hgd]
    exact wp_append_some rt s x ho hown hs hx hl hr hu hn hbase fun A' c' w' h2 h3 h4 => hK _ _ (hk A' c' w' h2 h3 h4)
end
theorem row_one {w : World} {ad : Addr} {u : Value} (h : w.cell? ad = some u) : Row w (some ad) [u] := fun _ => ⟨ad, rfl, fun j u' hu => by
  cases j with
  | zero =>
    simp at hu
    subst hu
    have : ad.add 0 = ad := by unfold Addr.add; simp
    rw [this]
    exact h
  | succ j => simp at hu⟩

end Go.Proofs.Ytjcngipaeoegcaa
