/-
  Plain facts on memory: a slice that reads as a list, nil let in; and what a step that makes memory leaves alone. No program in sight.
-/
import Derived.WalkKit
import Derived.Deep.AppendLies
import Derived.Lib.SlBytesConst
import Derived.Lib.Hide
namespace Go.Proofs.Ytjcngipaeoegcaa
open Go.RowKit

/-- All that was there is as it was. -/
abbrev Ext (w w' : World) : Prop := Below w.heap.size w w'

def B8 (x : UInt8) : Value := .int .u8 (x.toNat : Int)

/-- From the address A on memory holds these cells (of no cells nothing is said). -/
def Row (w : World) (A : Option Addr) (xs : List Value) : Prop :=
  xs ≠ [] → ∃ ad, A = some ad ∧ ∀ j u, xs[j]? = some u → w.cell? (ad.add j) = some u

theorem add_block (a : Addr) (n : Nat) : (a.add n).block = a.block := by unfold Addr.add; split <;> rfl
theorem add_add (a : Addr) (i j : Nat) : (a.add i).add j = a.add (i + j) := by
  unfold Addr.add
  by_cases hi : i = 0 <;> by_cases hj : j = 0 <;> simp [hi, hj, Nat.add_assoc]

section
variable {w w' : World} {A : Option Addr} {xs : List Value}
theorem Row.nil (w : World) (A : Option Addr) : Row w A [] := fun h => absurd rfl h
theorem Row.ext (h : Row w A xs) (hb : Ext w w') : Row w' A xs := fun hx => by
  obtain ⟨ad, e, hc⟩ := h hx
  exact ⟨ad, e, fun j u hu => (hb.cell (block_lt_of_cell (hc j u hu))).trans (hc j u hu)⟩
theorem Row.same (h : Row w A xs) (hb : ∀ p v, w.cell? p = some v → w'.cell? p = some v) : Row w' A xs := fun hx => by
  obtain ⟨ad, e, hc⟩ := h hx
  exact ⟨ad, e, fun j u hu => hb _ _ (hc j u hu)⟩
theorem Row.at_ {k : Nat} (h : Row w A xs) (hk : k < xs.length) : ∃ ad, A = some ad ∧ w.cell? (ad.add k) = some xs[k] := by
  obtain ⟨ad, e, hc⟩ := h (by intro e; subst e; simp at hk)
  exact ⟨ad, e, hc k _ (List.getElem?_eq_getElem hk)⟩
theorem Row.cut (h : Row w A xs) {k cap : Nat} (hc : xs.length ≤ cap) : Row w (if cap = k then A else A.map (·.add k)) (xs.drop k) := fun hx => by
  have hk : k < xs.length := by
    rcases Nat.lt_or_ge k xs.length with h1 | h1
    · exact h1
    · exact absurd (List.drop_eq_nil_of_le h1) hx
  obtain ⟨ad, rfl, hcell⟩ := h (by intro e; subst e; simp at hk)
  rw [if_neg (by omega)]
  refine ⟨ad.add k, rfl, fun j u hu => ?_⟩
  rw [add_add]
  exact hcell _ u (by rw [← hu, List.getElem?_drop])
theorem Row.take (h : Row w A xs) (k : Nat) : Row w A (xs.take k) := fun hx => by
  obtain ⟨ad, rfl, hcell⟩ := h (by intro e; subst e; simp at hx)
  refine ⟨ad, rfl, fun j u hu => hcell j u ?_⟩
  rw [List.getElem?_take] at hu
  split at hu
  · exact hu
  · cases hu
/-- A row that the call owns reads so. -/
theorem Row.of_own {base : Nat} {e : TypeId} {n c : Nat} (h : w.ownsRow base e 1 (.slice A n c) n xs) : Row w A xs := fun hx => by
  have hn : 0 < n := by
    rcases Nat.eq_zero_or_pos n with h0 | h0
    · subst h0
      exact absurd (List.eq_nil_of_length_eq_zero (by simpa using h.1)) hx
    · exact h0
  obtain ⟨g, cap, hv, _, _⟩ := h.form hn
  have hA : A = some ⟨g, 0, none⟩ := by injection hv
  subst hA
  exact ⟨_, rfl, h.cells (g := g) rfl⟩
end

/-- A slice's value that reads as these bytes. -/
def Bs (w : World) (v : Value) (l : List UInt8) : Prop := ∃ A c, v = .slice A l.length c ∧ l.length ≤ c ∧ Row w A (l.map B8)
theorem Bs.ext {w w' : World} {v : Value} {l : List UInt8} (h : Bs w v l) (hb : Ext w w') : Bs w' v l := by
  obtain ⟨A, c, e, hc, hr⟩ := h
  exact ⟨A, c, e, hc, hr.ext hb⟩
theorem Bs.nil (w : World) : Bs w (.slice none 0 0) [] := ⟨none, 0, rfl, Nat.le_refl _, Row.nil _ _⟩

theorem Ext.trans' {a b c : World} (h : Ext a b) (k : Ext b c) : Ext a c := Below.trans h (k.mono h.size)
theorem Ext.drew' (a : World) : Ext a a.drew := (Below.refl _ _).drew
theorem Ext.alloc' {a b : World} (h : Ext a b) (o : Obj) : Ext a (b.alloc o) := h.alloc h.size o
theorem Ext.cellAt {w w' : World} (h : Ext w w') {p : Addr} {v : Value} (hp : w.cell? p = some v) : w'.cell? p = some v := (h.cell (block_lt_of_cell hp)).trans hp

/-- A whole row is stored into a block of the call's own; the world behind it under a name. -/
theorem wpList_store_named {P : Program} {ops : Array Oper} {rest : List Oper} {o : Oper} {a : Act} {w : World} {Q : Exit → Act → World → Prop} (hgd : o.guard = none) (ty : TypeId) (x y : Operand) (ho : o.op = .store ty x y)
    (g : Nat) (cells : Array Value) (hx : a.eval x = .pointer (some ⟨g, 0, none⟩)) (hy : a.eval y = .agg cells)
    (t : TypeId) (old : Array Value) (hg : w.heap[g]? = some (.cells old t (0, 0))) (hi : (P.info? ty).map (·.size) = some cells.size)
    (hold : old.size = cells.size) (h1 : cells.all (·.oneCell') = true) (w0 : World) (hw0 : Ext w0 w) (hg0 : w0.heap.size ≤ g)
    (h : ∀ w2, Ext w0 w2 → w2.heap[g]? = some (.cells cells t (0, 0)) → w2.heap.size = w.heap.size → (∀ k, k ≠ g → w2.heap[k]? = w.heap[k]?) → wpList P ops Q rest (a.put o.dst undef) w2) : wpList P ops Q (o :: rest) a w :=
  wpList_store_row hgd ty x y ho g cells hx hy t old hg hi hold h1
    (h _ (hw0.trans ⟨rfl, rfl, rfl, by simp, fun k hk => setRow_other w g k _ (by omega)⟩) (setRow_heap w g old cells t _ hg) (by simp) (fun k hk => setRow_other w g k _ hk))

/-- A new block reads as what it holds, whatever its mark. -/
theorem Row.newM (w : World) (cs : Array Value) (t : TypeId) (m : Nat × Nat) : Row (w.alloc (.cells cs t m)) (some ⟨w.heap.size, 0, none⟩) cs.toList := fun _ =>
  ⟨_, rfl, fun j u hu => by
    have hadd : (⟨w.heap.size, 0, none⟩ : Addr).add j = ⟨w.heap.size, j, none⟩ := by unfold Addr.add; split <;> simp_all
    rw [hadd, cell_of_row _ _ _ _ _ _ (heap_alloc_new w _), ← hu]; simp⟩
theorem Ext.a1 (w : World) (o : Obj) : Ext w (w.alloc o) := (Below.refl _ _).alloc (Nat.le_refl _) o

section
variable {P : Program}
/-- '[]byte' of a constant, behind one block more, and behind two. -/
theorem bytes_const1 (t e : TypeId) (ht : P.underlying t = some (.slice e)) (he : P.underlying e = some (.int .u8)) (w : World) (C : Array Value) (n c : Nat) :
    (convert t t (.slice (some ⟨w.heap.size, 0, none⟩) n c)).run P (w.alloc (.cells C e)) = .ok (.slice (some ⟨w.heap.size, 0, none⟩) n c) (w.alloc (.cells C e (C.size, C.size + 1))) :=
  Lib.run_convert_bytes_const w t e C n c ht he
theorem bytes_const2 (t e : TypeId) (ht : P.underlying t = some (.slice e)) (he : P.underlying e = some (.int .u8)) (w : World) (A : Obj) (C : Array Value) (n c : Nat) :
    (convert t t (.slice (some ⟨w.heap.size + 1, 0, none⟩) n c)).run P ((w.alloc A).alloc (.cells C e)) = .ok (.slice (some ⟨w.heap.size + 1, 0, none⟩) n c) ((w.alloc A).alloc (.cells C e (C.size, C.size + 1))) := by
  simpa using Lib.run_convert_bytes_const (w.alloc A) t e C n c ht he
end

/-- What came in as a slice of bytes, as a list. -/
theorem bytes_of_ints {w : World} {a : Option Addr} {len cap : Nat} {zs : List Int} (h : (a = none ∧ len = 0 ∧ cap = 0 ∧ zs = []) ∨
    ∃ x, a = some x ∧ len ≤ cap ∧ cap ≤ maxLen ∧ zs.length = cap ∧ (∀ i, i < zs.length → w.cell? (x.add i) = some (.int .u8 (zs.getD i 0))) ∧ ∀ n ∈ zs, (Lit.int .u8 n).wf = true) :
    ∃ l : List UInt8, l.length = len ∧ len ≤ cap ∧ cap ≤ maxLen ∧ Row w a (l.map B8) := by
  rcases h with ⟨rfl, rfl, rfl, rfl⟩ | ⟨x, rfl, hl, hm, hz, hcell, hwz⟩
  · exact ⟨[], rfl, Nat.le_refl _, by simp [maxLen], Row.nil _ _⟩
  · refine ⟨(zs.take len).map fun n => UInt8.ofNat n.toNat, by simp; omega, hl, hm, fun _ => ⟨x, rfl, fun j u hu => ?_⟩⟩
    have hj : j < len := by
      rcases Nat.lt_or_ge j len with h1 | h1
      · exact h1
      · rw [List.getElem?_eq_none (by simp; omega)] at hu; cases hu
    have hjz : j < zs.length := by omega
    have hwf := hwz zs[j] (List.getElem_mem hjz)
    have hb : 0 ≤ zs[j] ∧ zs[j] < 256 := by
      simp [Lit.wf, IntKind.min, IntKind.max, IntKind.bits, IntKind.signed] at hwf
      omega
    rw [hcell j hjz, ← hu]
    simp only [List.getElem?_map, List.getElem?_take, hj, if_true, List.getElem?_eq_getElem hjz, Option.map_some, B8]
    rw [List.getD_eq_getElem?_getD, List.getElem?_eq_getElem hjz, Option.getD_some]
    have e : ((UInt8.ofNat zs[j].toNat).toNat : Int) = zs[j] := by
      simp; omega
    rw [e]

theorem nat_of_u32 {a : Int} (h : (Lit.int .u32 a).wf = true) : ∃ n : Nat, n < 4294967296 ∧ a = (n : Int) := by
  simp [Lit.wf, IntKind.min, IntKind.max, IntKind.bits, IntKind.signed] at h
  exact ⟨a.toNat, by omega, by omega⟩
theorem nat_of_u16 {a : Int} (h : (Lit.int .u16 a).wf = true) : ∃ n : Nat, n < 65536 ∧ a = (n : Int) := by
  simp [Lit.wf, IntKind.min, IntKind.max, IntKind.bits, IntKind.signed] at h
  exact ⟨a.toNat, by omega, by omega⟩
theorem int_of_i64 {a : Int} (h : (Lit.int .i64 a).wf = true) : -9223372036854775808 ≤ a ∧ a ≤ 9223372036854775807 := by
  simp [Lit.wf, IntKind.min, IntKind.max, IntKind.bits, IntKind.signed] at h
  omega

/-- Bytes as a text. -/
def Str (l : List UInt8) : Value := .string ⟨l.toArray⟩
theorem str_beq (l m : List UInt8) : ((⟨l.toArray⟩ : ByteArray).toList == (⟨m.toArray⟩ : ByteArray).toList) = (l == m) := by rw [ByteArray.toList_mk, ByteArray.toList_mk]
section
variable {P : Program}
theorem push_all (l : List UInt8) : ∀ s : ByteArray, (l.map fun x => (x.toNat : Int)).foldl (fun r n => r.push (UInt8.ofNat n.toNat)) s = ⟨s.data ++ l.toArray⟩ := by
  induction l with
  | nil => intro s; simp
  | cons x l ih =>
    intro s
    simp only [List.map_cons, List.foldl_cons]
    rw [ih]
    simp [ByteArray.push]
theorem run_text {w : World} {src dst e : TypeId} {a : Option Addr} {l : List UInt8} {c : Nat} (hs : P.underlying src = some (.slice e)) (he : P.underlying e = some (.int .u8)) (hd : P.underlying dst = some .string)
    (hr : Row w a (l.map B8)) : (convert src dst (.slice a l.length c)).run P w = .ok (Str l) w := by
  rw [run_convert_bytes_string w src dst e a l.length c hs he hd]
  rcases l with _ | ⟨x, l⟩
  · cases a with
    | none => rfl
    | some a =>
      have := run_bytesToString (P := P) w a 0 c [] (by simpa using run_loadCells_list (P := P) w a [] (fun j v h => by simp at h))
      exact this
  · obtain ⟨ad, rfl, hc⟩ := hr (by simp)
    have h1 := run_loadCells_list (P := P) w ad ((x :: l).map B8) hc
    have h2 := run_bytesToString (P := P) w ad (x :: l).length c ((x :: l).map fun x => (x.toNat : Int)) (by
      simp only [List.length_map] at h1
      rw [h1, List.map_map]
      rfl)
    rw [h2, push_all]
    simp [Str]
end

theorem b8_at {w : World} {A : Option Addr} {l : List UInt8} (hr : Row w A (l.map B8)) {k : Nat} (hk : k < l.length) :
    ∃ ad c, A = some ad ∧ c < 256 ∧ l[k].toNat = c ∧ w.cell? (ad.add k) = some (.int .u8 (c : Int)) := by
  obtain ⟨ad, e, h⟩ := hr.at_ (k := k) (by simpa using hk)
  refine ⟨ad, l[k].toNat, e, l[k].toNat_lt, rfl, ?_⟩
  simpa [B8] using h
theorem take_snoc {l : List UInt8} {k : Nat} (h : k < l.length) : l.take (k + 1) = l.take k ++ [l[k]] := by
  rw [List.take_succ_eq_append_getElem h]

end Go.Proofs.Ytjcngipaeoegcaa
