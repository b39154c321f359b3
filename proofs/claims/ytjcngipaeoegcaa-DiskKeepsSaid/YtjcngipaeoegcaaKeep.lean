/-
  An append leaves what the slice itself held as it was. No program in sight.
-/
import Derived.Test.YtjcngipaeoegcaaLists
namespace Go.Proofs.Ytjcngipaeoegcaa
open Go.RowKit

section
variable {P : Program} {w w' : World} {t e : TypeId} {v : Value} {n base : Nat} {xs : List Value} {o : Oper} {a : Act} {Q : Exit → Act → World → Prop}
theorem append_keeps (rt : RowTy P t e) {ty : TypeId} (hown : w.ownsRow base e 1 v n xs) {A : Option Addr} {m c : Nat} {news : List Value} (hl : news.length = m) (hr : Row w A news) (hu : ∀ u ∈ news, u.oneCell' = true)
    (hn : n + m ≤ 100000000000) {v' : Value} (hrun : (Builtin.append_ #[t, t] ty #[v, .slice A m c]).run P w = .ok v' w') : w'.ownsRow base e 1 v n xs := by
  obtain ⟨i, z, bytes, hi, hz, hsz, hby, hzs, hb⟩ := rt.hi
  by_cases hA : A = none
  · subst hA
    have h0 : news = [] := by
      rcases news with _ | ⟨x, l⟩
      · rfl
      · obtain ⟨ad, e, _⟩ := hr (by simp)
        cases e
    subst h0
    subst hl
    have hr2 : (Builtin.append_ #[t, t] ty #[v, .slice none 0 c]).run P w = .ok v w := by
      rcases hown.2 with ⟨h2, h0⟩ | ⟨g, cap, cur, h2, _, _, hnc, _⟩
      · cases h2
        simp [Builtin.append_, run_underlying rt.hs, sizeOf, typeInfo, hi, Builtin.lenOf, Builtin.firstCells]
      · cases h2
        simp [Builtin.append_, run_underlying rt.hs, sizeOf, typeInfo, hi, Builtin.lenOf, Builtin.firstCells, hnc, storeCells]
    rw [show ([] : List Value).length = 0 from rfl] at hrun
    rw [hr2] at hrun
    injection hrun with _ h2
    subst h2
    exact hown
  · obtain ⟨ad, rfl⟩ := Option.ne_none_iff_exists'.1 hA
    have hnews : ∀ (j : Nat) u, news[j]? = some u → w.cell? (ad.add j) = some u := by
      intro j u hu
      obtain ⟨ad', e, hc⟩ := hr (by intro e; rw [e] at hu; simp at hu)
      injection e with e
      subst e
      exact hc j u hu
    have hbytes : (n + m) * i.bytes ≤ 140737488355328 := by rw [hby]; exact Nat.le_trans (Nat.mul_le_mul hn hb) (by omega)
    rcases hown.2 with ⟨rfl, rfl⟩ | ⟨g, cap, cur, rfl, hbg, hg, hnc, hcm, hcs, htake⟩
    · have hx : xs = [] := List.eq_nil_of_length_eq_zero (by simpa using hown.1)
      subst hx
      exact World.ownsRow_nil _ _ _ _
    · by_cases hroom : n + m ≤ cap
      · have hfit : n * i.size + news.length ≤ cur.size := by rw [hl, hcs, hsz]; omega
        have h := run_append_room (P := P) w t ty e i rt.hs hi g n cap cur hg ad m c news (by rw [hsz]; omega) hnews hu hroom hfit
        rw [h] at hrun
        injection hrun with h1 h2
        subst h2
        refine ⟨hown.1, .inr ⟨g, cap, _, rfl, hbg, setRow_heap w g cur _ e _ hg, hnc, hcm, ?_, ?_⟩⟩
        · simp only [List.size_toArray, List.length_append, List.length_take, List.length_drop, Array.length_toList]
          omega
        · simp only [hsz]
          rw [htake, List.append_assoc]
          have := hown.1
          rw [← this]
          exact List.take_left
      · have holds : ∀ (j : Nat) y, xs[j]? = some y → w.cell? ((⟨g, 0, none⟩ : Addr).add j) = some y := hown.cells (g := g) rfl
        have h := run_append_grow (P := P) w t ty e i z rt.hs hi hz ⟨g, 0, none⟩ n cap xs (by rw [hsz]; exact hown.1) holds ad m c news (by rw [hsz]; omega) hnews (by omega) (by omega) (growslice_fits (by omega) hbytes)
        rw [h] at hrun
        injection hrun with h1 h2
        subst h2
        exact ownsRow_ext hown ((Ext.drew' w).alloc' _)

theorem wpList_append_keep (rt : RowTy P t e) {ops : Array Oper} {rest : List Oper} (hgd : Region.wanted o (yielded ops a.tmps) = true) (s x : Operand) (ho : o.op = .call { callee := .builtin .append, args := #[s, x], argTypes := #[t, t] })
    (hown : w.ownsRow base e 1 v n xs) (hs : a.eval s = v) {A : Option Addr} {m c : Nat} {news : List Value} (hx : a.eval x = .slice A m c) (hl : news.length = m) (hr : Row w A news) (hu : ∀ u ∈ news, u.oneCell' = true)
    (hn : n + m ≤ 100000000000) (hbase : base ≤ w.heap.size)
    (hk : ∀ A' c' w', w'.ownsRow base e 1 (.slice A' (n + m) c') (n + m) (xs ++ news) → w'.ownsRow base e 1 v n xs → w.grownBy w' v.ownBlock → wpList P ops Q rest (a.put o.dst (.slice A' (n + m) c')) w') : wpList P ops Q (o :: rest) a w :=
  wpList_step fun _ hK => by
    rw [if_pos hgd]
    obtain ⟨A', c', w', hrun, h2, h3, _⟩ := run_append_some (P := P) rt o.type hown (c := c) hl hr hu hn hbase
    have h4 := append_keeps rt hown hl hr hu hn hrun
    unfold Oper.wp execOp
    simp only [ho, resolve, invoke, builtin, Sem.run_bind, Sem.run_pure, Result.andThen_ok, List.map_toArray, List.map_cons, List.map_nil, hs, hx, hrun]
    exact hK _ _ (hk A' c' w' h2 h4 h3)

theorem wpList_append_bytes_keep {B : Nat} {l : List UInt8} (rt : RowTy P t 5) {ops : Array Oper} {rest : List Oper} (hgd : Region.wanted o (yielded ops a.tmps) = true) (s x : Operand) (ho : o.op = .call { callee := .builtin .append, args := #[s, x], argTypes := #[t, t] })
    (h : Own w B v l) (hs : a.eval s = v) {A : Option Addr} {m c : Nat} {l2 : List UInt8} (hx : a.eval x = .slice A m c) (hm : l2.length = m) (hr : Row w A (l2.map B8)) (hb : l.length + m ≤ 100000000000) (hB : B ≤ w.heap.size)
    (hk : ∀ A' c' w', Own w' B (.slice A' (l.length + m) c') (l ++ l2) → Own w' B v l → w.grownBy w' v.ownBlock → wpList P ops Q rest (a.put o.dst (.slice A' (l.length + m) c')) w') : wpList P ops Q (o :: rest) a w :=
  wpList_append_keep rt hgd s x ho h hs hx (by simpa using hm) hr (b8_one l2) hb hB fun A' c' w' h1 h2 h3 => hk A' c' w' (by unfold Own; rw [List.length_append, List.map_append, hm]; exact h1) h2 h3
end

end Go.Proofs.Ytjcngipaeoegcaa
