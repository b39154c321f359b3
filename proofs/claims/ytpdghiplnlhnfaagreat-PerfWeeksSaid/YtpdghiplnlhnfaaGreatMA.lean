/-
  Joined: Ax1, Ax2, Ax3, Ax4. Nothing is proved here of a statement.
-/
import Derived.Below
import Derived.Laws.AppendOwn
import Derived.Laws.Tables
import Derived.Laws.Cells
import Derived.Laws.Slices
import Derived.Laws.StructEq
import Derived.DataElems
namespace Go.Proofs.YtpdghiplnlhnfaaGreat.Ax
set_option linter.unusedSimpArgs false
set_option linter.unusedVariables false
open Go

/-- A value, as it reads: 'v': it is this; 'sl': a slice whose elements (of e cells each) read so; 'tl': a slice of the call's own, as object id stands at a stamp;
'em': a slice of nothing that is not nil; 'vw': n elements of a slice, from i on; 'ptr': into a block of the call's own; 'ep': into a slice's element; 'mp': a map of the call's own; 'ag', 'tup', 'fn': of values; 'bad': nothing is known. -/
inductive AV where
  | v (x : Value)
  | sl (e : Nat) (xs : List (List AV))
  | tl (id st : Nat)
  | em
  | vw (a : AV) (e i n : Nat)
  | ptr (id off : Nat)
  | ep (a : AV) (e i k : Nat)
  | mp (id : Nat)
  | ag (cs : List AV)
  | tup (cs : List AV)
  | fn (f : Fn) (first cs : List AV)
  | bad

structure Ctx where
  rd : Addr → Value → Prop
  n : Nat
  live : Nat → Prop
  β : Nat → Nat
  cur : Nat → Value
  tok : Nat → Option Nat

/-- What a value of an own slice says, as long as the stamp is the last. -/
def Tok (c : Ctx) (id st : Nat) (u : Value) : Prop := c.live id ∧ ∀ s, c.tok id = some s → st ≤ s ∧ (st = s → u = c.cur id)

mutual
def AR (c : Ctx) : AV → Value → Prop
  | .v x, u => u = x
  | .sl e xs, u => ∃ A k, u = .slice A xs.length k ∧ xs.length ≤ k ∧ ARows c A e 0 xs
  | .tl id st, u => (∃ A n k, u = .slice A n k) ∧ Tok c id st u
  | .em, u => ∃ A k, u = .slice (some A) 0 k
  | .vw a e i n, u => ∃ A m cp A' k, AR c a (.slice A m cp) ∧ i + n ≤ m ∧ n ≤ k ∧ u = .slice A' n k ∧ (0 < n → ∃ ad, A = some ad ∧ A' = some (ad.add (i * e))) ∧ (i = 0 → (A' = A ∨ A' = A.map (·.add 0)) ∧ k = cp)
  | .ptr id off, u => c.live id ∧ u = .pointer (some ⟨c.β id, off, none⟩)
  | .ep a e i k, u => ∃ A m cp, AR c a (.slice (some A) m cp) ∧ i < m ∧ u = .pointer (some (A.add (i * e + k)))
  | .mp id, u => c.live id ∧ u = .map (some (c.β id))
  | .ag cs, u => ∃ vs, u = .agg vs ∧ ARs c cs vs.toList
  | .tup cs, u => ∃ vs, u = .tuple vs ∧ ARs c cs vs.toList
  | .fn f fs cs, u => ∃ us vs, u = .func f us vs ∧ ARs c fs us.toList ∧ ARs c cs vs.toList
  | .bad, _ => True
def ARs (c : Ctx) : List AV → List Value → Prop
  | [], vs => vs = []
  | a :: as, vs => ∃ v r, vs = v :: r ∧ AR c a v ∧ ARs c as r
def ARows (c : Ctx) (A : Option Addr) (e : Nat) : Nat → List (List AV) → Prop
  | _, [] => True
  | i, r :: rs => (r.length = e ∧ ACells c A (i * e) r) ∧ ARows c A e (i + 1) rs
def ACells (c : Ctx) (A : Option Addr) : Nat → List AV → Prop
  | _, [] => True
  | k, a :: as => (∃ ad u, A = some ad ∧ c.rd (ad.add k) u ∧ AR c a u) ∧ ACells c A (k + 1) as
end

/-- One context says no less than another one. -/
structure Le (c c' : Ctx) : Prop where
  rd : ∀ a u, c.rd a u → c'.rd a u
  n : c.n ≤ c'.n
  live : ∀ i, c.live i → c'.live i
  β : ∀ i, c.live i → c'.β i = c.β i
  tok : ∀ i, c.live i → ∀ s, c'.tok i = some s → ∃ s0, c.tok i = some s0 ∧ ((s = s0 ∧ c'.cur i = c.cur i) ∨ s0 < s)
theorem Le.refl (c : Ctx) : Le c c := ⟨fun _ _ h => h, Nat.le_refl _, fun _ h => h, fun _ _ => rfl, fun _ _ s h => ⟨s, h, .inl ⟨rfl, rfl⟩⟩⟩
theorem Le.trans {a b c : Ctx} (h : Le a b) (k : Le b c) : Le a c :=
  ⟨fun x u hx => k.rd x u (h.rd x u hx), Nat.le_trans h.n k.n, fun i hi => k.live i (h.live i hi), fun i hi => (k.β i (h.live i hi)).trans (h.β i hi), fun i hi s hs => by
    obtain ⟨s1, h1, h2⟩ := k.tok i (h.live i hi) s hs
    obtain ⟨s0, h3, h4⟩ := h.tok i hi s1 h1
    refine ⟨s0, h3, ?_⟩
    rcases h2 with ⟨rfl, h5⟩ | h5
    · rcases h4 with ⟨rfl, h6⟩ | h6
      · exact .inl ⟨rfl, h5.trans h6⟩
      · exact .inr h6
    · rcases h4 with ⟨rfl, _⟩ | h6
      · exact .inr h5
      · exact .inr (by omega)⟩
theorem Tok.le {c c' : Ctx} (h : Le c c') {id st : Nat} {u : Value} (ht : Tok c id st u) : Tok c' id st u :=
  ⟨h.live id ht.1, fun s hs => by
    obtain ⟨s0, h1, h2⟩ := h.tok id ht.1 s hs
    obtain ⟨h3, h4⟩ := ht.2 s0 h1
    rcases h2 with ⟨rfl, h5⟩ | h5
    · exact ⟨h3, fun e => by rw [h5]; exact h4 e⟩
    · exact ⟨by omega, fun e => by omega⟩⟩

mutual
theorem AR.le {c c' : Ctx} (h : Le c c') : ∀ (a : AV) (u : Value), AR c a u → AR c' a u
  | .v _, _, e => e
  | .sl e xs, u, ⟨A, k, h1, h2, h3⟩ => ⟨A, k, h1, h2, ARows.le h A e 0 xs h3⟩
  | .tl id st, u, h1 => ⟨h1.1, Tok.le h h1.2⟩
  | .em, _, h1 => h1
  | .vw a e i n, u, ⟨A, m, cp, A', k, h1, h2⟩ => ⟨A, m, cp, A', k, AR.le h a _ h1, h2⟩
  | .ptr id off, u, ⟨h1, h2⟩ => ⟨h.live id h1, by rw [h.β id h1]; exact h2⟩
  | .ep a e i k, u, ⟨A, m, cp, h1, h2, h3⟩ => ⟨A, m, cp, AR.le h a _ h1, h2, h3⟩
  | .mp id, u, ⟨h1, h2⟩ => ⟨h.live id h1, by rw [h.β id h1]; exact h2⟩
  | .ag cs, u, ⟨vs, h1, h2⟩ => ⟨vs, h1, ARs.le h cs _ h2⟩
  | .tup cs, u, ⟨vs, h1, h2⟩ => ⟨vs, h1, ARs.le h cs _ h2⟩
  | .fn f fs cs, u, ⟨us, vs, h1, h2, h3⟩ => ⟨us, vs, h1, ARs.le h fs _ h2, ARs.le h cs _ h3⟩
  | .bad, _, _ => True.intro
theorem ARs.le {c c' : Ctx} (h : Le c c') : ∀ (as : List AV) (vs : List Value), ARs c as vs → ARs c' as vs
  | [], _, e => e
  | a :: as, vs, ⟨v, r, h1, h2, h3⟩ => ⟨v, r, h1, AR.le h a v h2, ARs.le h as r h3⟩
theorem ARows.le {c c' : Ctx} (h : Le c c') (A : Option Addr) (e : Nat) : ∀ (i : Nat) (rs : List (List AV)), ARows c A e i rs → ARows c' A e i rs
  | _, [], _ => True.intro
  | i, r :: rs, ⟨⟨h1, h2⟩, h3⟩ => ⟨⟨h1, ACells.le h A (i * e) r h2⟩, ARows.le h A e (i + 1) rs h3⟩
theorem ACells.le {c c' : Ctx} (h : Le c c') (A : Option Addr) : ∀ (k : Nat) (as : List AV), ACells c A k as → ACells c' A k as
  | _, [], _ => True.intro
  | k, a :: as, ⟨⟨ad, u, h1, h2, h3⟩, h4⟩ => ⟨⟨ad, u, h1, h.rd _ _ h2, AR.le h a u h3⟩, ACells.le h A (k + 1) as h4⟩
end

/-! Values that name no object from a number on. -/
mutual
def AV.lt (n : Nat) : AV → Bool
  | .v _ => true
  | .sl _ xs => ltRows n xs
  | .tl id _ => decide (id < n)
  | .em => true
  | .vw a _ _ _ => a.lt n
  | .ptr id _ => decide (id < n)
  | .ep a _ _ _ => a.lt n
  | .mp id => decide (id < n)
  | .ag cs => ltList n cs
  | .tup cs => ltList n cs
  | .fn _ fs cs => ltList n fs && ltList n cs
  | .bad => true
def ltList (n : Nat) : List AV → Bool
  | [] => true
  | a :: as => a.lt n && ltList n as
def ltRows (n : Nat) : List (List AV) → Bool
  | [] => true
  | r :: rs => ltList n r && ltRows n rs
end
/-- A context that forgets the objects from a number on. -/
structure Less (n : Nat) (c c' : Ctx) : Prop where
  rd : ∀ a u, c.rd a u → c'.rd a u
  sz : c'.n = n
  live : ∀ i, i < n → c.live i → c'.live i
  β : ∀ i, i < n → c'.β i = c.β i
  tok : ∀ i, i < n → c'.tok i = c.tok i
  cur : ∀ i, i < n → c'.cur i = c.cur i
mutual
theorem AR.less {n : Nat} {c c' : Ctx} (h : Less n c c') : ∀ (a : AV) (u : Value), a.lt n = true → AR c a u → AR c' a u
  | .v _, _, _, e => e
  | .sl e xs, u, l, ⟨A, k, h1, h2, h3⟩ => ⟨A, k, h1, h2, ARows.less h A e 0 xs (by simpa [AV.lt] using l) h3⟩
  | .tl id st, u, l, h1 => by
    have l : id < n := by simpa [AV.lt] using l
    exact ⟨h1.1, h.live id l h1.2.1, fun s hs => by rw [h.tok id l] at hs; rw [h.cur id l]; exact h1.2.2 s hs⟩
  | .em, _, _, h1 => h1
  | .vw a e i n, u, l, ⟨A, m, cp, A', k, h1, h2⟩ => ⟨A, m, cp, A', k, AR.less h a _ (by simpa [AV.lt] using l) h1, h2⟩
  | .ptr id off, u, l, ⟨h1, h2⟩ => by
    have l : id < n := by simpa [AV.lt] using l
    exact ⟨h.live id l h1, by rw [h.β id l]; exact h2⟩
  | .ep a e i k, u, l, ⟨A, m, cp, h1, h2, h3⟩ => ⟨A, m, cp, AR.less h a _ (by simpa [AV.lt] using l) h1, h2, h3⟩
  | .mp id, u, l, ⟨h1, h2⟩ => by
    have l : id < n := by simpa [AV.lt] using l
    exact ⟨h.live id l h1, by rw [h.β id l]; exact h2⟩
  | .ag cs, u, l, ⟨vs, h1, h2⟩ => ⟨vs, h1, ARs.less h cs _ (by simpa [AV.lt] using l) h2⟩
  | .tup cs, u, l, ⟨vs, h1, h2⟩ => ⟨vs, h1, ARs.less h cs _ (by simpa [AV.lt] using l) h2⟩
  | .fn f fs cs, u, l, ⟨us, vs, h1, h2, h3⟩ => by
    have l : ltList n fs = true ∧ ltList n cs = true := by simpa [AV.lt] using l
    exact ⟨us, vs, h1, ARs.less h fs _ l.1 h2, ARs.less h cs _ l.2 h3⟩
  | .bad, _, _, _ => True.intro
theorem ARs.less {n : Nat} {c c' : Ctx} (h : Less n c c') : ∀ (as : List AV) (vs : List Value), ltList n as = true → ARs c as vs → ARs c' as vs
  | [], _, _, e => e
  | a :: as, vs, l, ⟨v, r, h1, h2, h3⟩ => by
    have l : a.lt n = true ∧ ltList n as = true := by simpa [ltList] using l
    exact ⟨v, r, h1, AR.less h a v l.1 h2, ARs.less h as r l.2 h3⟩
theorem ARows.less {n : Nat} {c c' : Ctx} (h : Less n c c') (A : Option Addr) (e : Nat) : ∀ (i : Nat) (rs : List (List AV)), ltRows n rs = true → ARows c A e i rs → ARows c' A e i rs
  | _, [], _, _ => True.intro
  | i, r :: rs, l, ⟨⟨h1, h2⟩, h3⟩ => by
    have l : ltList n r = true ∧ ltRows n rs = true := by simpa [ltRows] using l
    exact ⟨⟨h1, ACells.less h A (i * e) r l.1 h2⟩, ARows.less h A e (i + 1) rs l.2 h3⟩
theorem ACells.less {n : Nat} {c c' : Ctx} (h : Less n c c') (A : Option Addr) : ∀ (k : Nat) (as : List AV), ltList n as = true → ACells c A k as → ACells c' A k as
  | _, [], _, _ => True.intro
  | k, a :: as, l, ⟨⟨ad, u, h1, h2, h3⟩, h4⟩ => by
    have l : a.lt n = true ∧ ltList n as = true := by simpa [ltList] using l
    exact ⟨⟨ad, u, h1, h.rd _ _ h2, AR.less h a u l.1 h3⟩, ACells.less h A (k + 1) as l.2 h4⟩
end
end Go.Proofs.YtpdghiplnlhnfaaGreat.Ax

namespace Go.Proofs.YtpdghiplnlhnfaaGreat.Ax
set_option linter.unusedSimpArgs false
set_option linter.unusedVariables false
open Go Go.RowKit

/-- What the call has made: a block with these cells; a slice that may be appended to, row by row of e cells; a map; nothing any more; nothing yet. -/
inductive Ob where
  | box (ty : TypeId) (cs : List AV)
  | row (ty e : Nat) (xs : List (List AV)) (st : Nat)
  | mapo (es : List (AV × AV))
  | gone
  | res
def Ob.isRes : Ob → Bool
  | .res => true
  | _ => false

/-- Where it lies. -/
structure Gh where
  β : Nat → Nat
  cur : Nat → Value

def Ob.blk (g : Gh) (i : Nat) : Ob → Option Nat
  | .box _ _ => some (g.β i)
  | .row _ _ _ _ => (g.cur i).ownBlock
  | .mapo _ => some (g.β i)
  | .gone | .res => none
/-- The blocks that no reading may lean on. -/
def kept (g : Gh) (h : List Ob) (b : Nat) : Prop := ∃ (i : Nat) (o : Ob), h[i]? = some o ∧ o.blk g i = some b

def Ob.tok : Option Ob → Option Nat
  | some (.row _ _ _ st) => some st
  | _ => none

def ctx (w : World) (g : Gh) (h : List Ob) : Ctx :=
  { rd := fun a u => ¬ kept g h a.block ∧ w.cell? a = some u
    n := h.length
    live := fun i => ∃ o, h[i]? = some o ∧ o.isRes = false
    β := g.β
    cur := g.cur
    tok := fun i => Ob.tok h[i]? }

def MapRel (c : Ctx) : List (AV × AV) → List MapEntry → Prop
  | [], es => es = []
  | (k, v) :: r, es => ∃ e q, es = e :: q ∧ AR c k e.key ∧ AR c v e.val ∧ MapRel c r q
theorem MapRel.le {c c' : Ctx} (h : Le c c') : ∀ (l : List (AV × AV)) (es : List MapEntry), MapRel c l es → MapRel c' l es
  | [], _, e => e
  | (_, _) :: r, _, ⟨e, q, h1, h2, h3, h5⟩ => ⟨e, q, h1, AR.le h _ _ h2, AR.le h _ _ h3, MapRel.le h r q h5⟩
def Ob.ok (B : Nat) (w : World) (c : Ctx) (i : Nat) : Ob → Prop
  | .box ty cs => B ≤ c.β i ∧ ∃ vs, w.heap[c.β i]? = some (.cells vs ty (0, 0)) ∧ ARs c cs vs.toList
  | .row ty e xs _ => 0 < e ∧ (∀ x ∈ xs, x.length = e) ∧ ∃ cells, w.ownsRow B ty e (c.cur i) xs.length cells ∧ ARs c xs.flatten cells
  | .mapo l => B ≤ c.β i ∧ ∃ es k l', w.heap[c.β i]? = some (.map es k) ∧ l'.Perm l ∧ MapRel c l' es.toList ∧ (es.toList.map (·.key)).Nodup
  | .gone | .res => True

structure HOk (B : Nat) (w : World) (g : Gh) (h : List Ob) : Prop where
  ok : ∀ (i : Nat) (o : Ob), h[i]? = some o → o.ok B w (ctx w g h) i
  apart : ∀ (i j : Nat) (o p : Ob) (b : Nat), i ≠ j → h[i]? = some o → h[j]? = some p → o.blk g i = some b → p.blk g j ≠ some b

section
variable {B : Nat} {w w' : World} {g g' : Gh} {h h' : List Ob} {i : Nat} {o o' : Ob}

theorem ok_lt {c : Ctx} (ho : o.ok B w c i) (hβ : c.β = g.β) (hc : c.cur = g.cur) {b : Nat} (hb : o.blk g i = some b) : B ≤ b ∧ b < w.heap.size := by
  cases o with
  | box ty cs =>
    obtain ⟨h1, vs, h2, _⟩ := ho
    rw [hβ] at h1 h2
    injection hb with hb
    subst hb
    exact ⟨h1, (Array.getElem?_eq_some_iff.1 h2).1⟩
  | row ty e xs st =>
    obtain ⟨_, _, cells, h2, _⟩ := ho
    rw [hc] at h2
    exact World.ownsRow.lt h2 b hb
  | mapo l =>
    obtain ⟨h1, vs, k, l', h2, _⟩ := ho
    rw [hβ] at h1 h2
    injection hb with hb
    subst hb
    exact ⟨h1, (Array.getElem?_eq_some_iff.1 h2).1⟩
  | gone => cases hb
  | res => cases hb
theorem HOk.lt (k : HOk B w g h) (hi : h[i]? = some o) {b : Nat} (hb : o.blk g i = some b) : B ≤ b ∧ b < w.heap.size := ok_lt (k.ok i o hi) rfl rfl hb

theorem ownsRow_same {D : Nat} {e : TypeId} {size : Nat} {v : Value} {k : Nat} {xs : List Value} (h : w.ownsRow D e size v k xs) (hb : ∀ b, v.ownBlock = some b → w'.heap[b]? = w.heap[b]?) : w'.ownsRow D e size v k xs := by
  refine ⟨h.1, ?_⟩
  rcases h.2 with h2 | ⟨g, cap, cur, hv, hg, hh, r⟩
  · exact .inl h2
  · subst hv
    exact .inr ⟨g, cap, cur, rfl, hg, (hb g rfl).trans hh, r⟩
/-- An object stands, in a world in which its block is as it was. -/
theorem Ob.ok_le {c c' : Ctx} (hi : o.isRes = false → c.live i) (ho : o.ok B w c i) (hl : Le c c') (hc : c'.cur i = c.cur i) (hβ : c.β = g.β) (hcu : c.cur = g.cur) (hb : ∀ b, o.blk g i = some b → w'.heap[b]? = w.heap[b]?) : o.ok B w' c' i := by
  cases o with
  | box ty cs =>
    obtain ⟨h1, vs, h2, h3⟩ := ho
    have hi := hi rfl
    refine ⟨by rw [hl.β i hi]; exact h1, vs, ?_, ARs.le hl _ _ h3⟩
    rw [hl.β i hi]
    exact (hb _ (by rw [hβ]; rfl)).trans h2
  | row ty e xs st =>
    obtain ⟨h1, h4, cells, h2, h3⟩ := ho
    refine ⟨h1, h4, cells, ?_, ARs.le hl _ _ h3⟩
    rw [hc]
    exact ownsRow_same h2 fun b hv => hb b (by rw [hcu] at hv; exact hv)
  | mapo l =>
    obtain ⟨h1, vs, k, l', h2, hp, h3, h5⟩ := ho
    have hi := hi rfl
    refine ⟨by rw [hl.β i hi]; exact h1, vs, k, l', ?_, hp, MapRel.le hl _ _ h3, h5⟩
    rw [hl.β i hi]
    exact (hb _ (by rw [hβ]; rfl)).trans h2
  | gone => trivial
  | res => trivial

/-- The world has more, and nothing that was has turned. -/
theorem Le.ext (hb : Below w.heap.size w w') : Le (ctx w g h) (ctx w' g h) :=
  ⟨fun a _ hr => ⟨hr.1, (World.cell?_of_block (w := w) (hb.block a.block (World.block_lt_of_cell? w a hr.2))).trans hr.2⟩, Nat.le_refl _, fun _ h => h, fun _ _ => rfl, fun _ _ s hs => ⟨s, hs, .inl ⟨rfl, rfl⟩⟩⟩
theorem get_lt (hi : h[i]? = some o) : i < h.length := (List.getElem?_eq_some_iff.1 hi).1
theorem live_of (hi : h[i]? = some o) (ho : o.isRes = false) : (ctx w g h).live i := ⟨o, hi, ho⟩
theorem HOk.ext (k : HOk B w g h) (hb : Below w.heap.size w w') : HOk B w' g h :=
  ⟨fun i o hi => Ob.ok_le (g := g) (live_of hi) (k.ok i o hi) (Le.ext hb) rfl rfl rfl fun b hv => hb.block b (k.lt hi hv).2, k.apart⟩

theorem blk_same {j : Nat} {p : Ob} (hβ : g'.β j = g.β j) (hc : g'.cur j = g.cur j) : p.blk g' j = p.blk g j := by
  cases p with
  | box ty cs => exact congrArg some hβ
  | row ty e n st => exact congrArg Value.ownBlock hc
  | mapo _ => exact congrArg some hβ
  | gone => rfl
  | res => rfl

/-- One object turns; or one that was nothing yet is made. -/
theorem Le.turn (hi : h[i]? = some o) (hr' : o'.isRes = false) (hg : w.grownBy w' (o.blk g i)) (hβ : ∀ j, j ≠ i → g'.β j = g.β j) (hc : ∀ j, j ≠ i → g'.cur j = g.cur j)
    (hk : ∀ b, o'.blk g' i = some b → o.blk g i = some b ∨ w.heap.size ≤ b)
    (ht : o.isRes = false → g'.β i = g.β i ∧ ∀ s, Ob.tok (some o') = some s → ∃ s0, Ob.tok (some o) = some s0 ∧ ((s = s0 ∧ g'.cur i = g.cur i) ∨ s0 < s)) : Le (ctx w g h) (ctx w' g' (h.set i o')) := by
  have hil := get_lt hi
  have hlive : ∀ j, j = i → (ctx w g h).live j → o.isRes = false := fun j e ⟨p, h1, h2⟩ => by
    subst e; rw [hi] at h1; injection h1 with h1; subst h1; exact h2
  refine ⟨fun a u hr => ?_, by simp [ctx], fun j ⟨p, hp, hpl⟩ => ?_, fun j hj => ?_, fun j hj s hs => ?_⟩
  · obtain ⟨h1, h2⟩ := hr
    have hlt := World.block_lt_of_cell? w a h2
    refine ⟨fun ⟨j, p, hp, hkp⟩ => ?_, ?_⟩
    · by_cases hji : j = i
      · subst hji
        rw [List.getElem?_set_self hil] at hp
        injection hp with hp
        subst hp
        rcases hk _ hkp with h3 | h3
        · exact h1 ⟨j, o, hi, h3⟩
        · omega
      · rw [List.getElem?_set_ne (fun e => hji e.symm)] at hp
        exact h1 ⟨j, p, hp, by rw [blk_same (hβ j hji) (hc j hji)] at hkp; exact hkp⟩
    · exact (World.cell?_of_block (w := w) (hg.block a.block hlt (fun e => h1 ⟨i, o, hi, e.symm⟩))).trans h2
  · by_cases hji : j = i
    · subst hji; exact ⟨o', List.getElem?_set_self hil, hr'⟩
    · exact ⟨p, by rw [List.getElem?_set_ne (fun e => hji e.symm)]; exact hp, hpl⟩
  · by_cases hji : j = i
    · have := (ht (hlive j hji hj)).1
      rw [hji]; exact this
    · exact hβ j hji
  · by_cases hji : j = i
    · have ht := (ht (hlive j hji hj)).2
      subst hji
      have hs' : Ob.tok (some o') = some s := by
        have := hs
        simp only [ctx, List.getElem?_set_self hil] at this
        exact this
      obtain ⟨s0, h1, h2⟩ := ht s hs'
      exact ⟨s0, by simp only [ctx, hi]; exact h1, h2⟩
    · refine ⟨s, ?_, .inl ⟨rfl, hc j hji⟩⟩
      have := hs
      simp only [ctx, List.getElem?_set_ne (fun e => hji e.symm)] at this
      exact this
theorem HOk.turn (k : HOk B w g h) (hi : h[i]? = some o) (hg : w.grownBy w' (o.blk g i)) (hβ : ∀ j, j ≠ i → g'.β j = g.β j) (hc : ∀ j, j ≠ i → g'.cur j = g.cur j)
    (hb : ∀ b, o'.blk g' i = some b → o.blk g i = some b ∨ w.heap.size ≤ b) (hl : Le (ctx w g h) (ctx w' g' (h.set i o'))) (ho : o'.ok B w' (ctx w' g' (h.set i o')) i) : HOk B w' g' (h.set i o') := by
  have hil := get_lt hi
  have blk' : ∀ (j : Nat) (p : Ob), j ≠ i → p.blk g' j = p.blk g j := fun j p hj => blk_same (hβ j hj) (hc j hj)
  refine ⟨fun j p hp => ?_, fun j1 j2 p q b hne hp hq hpb hqb => ?_⟩
  · by_cases hji : j = i
    · subst hji
      rw [List.getElem?_set_self hil] at hp
      injection hp with hp
      subst hp
      exact ho
    · rw [List.getElem?_set_ne (fun e => hji e.symm)] at hp
      refine Ob.ok_le (g := g) (live_of hp) (k.ok j p hp) hl (hc j hji) rfl rfl fun b hv => ?_
      exact hg.block b (k.lt hp hv).2 fun e => k.apart j i p o b hji hp hi hv e.symm
  · have key : ∀ (j : Nat) (p : Ob) (b : Nat), j ≠ i → h[j]? = some p → p.blk g j = some b → o'.blk g' i ≠ some b := fun j p b hji hp hpb e => by
      rcases hb b e with h1 | h1
      · exact k.apart j i p o b hji hp hi hpb h1
      · have := (k.lt hp hpb).2; omega
    by_cases h1 : j1 = i
    · subst h1
      have h2 : j2 ≠ j1 := fun e => hne e.symm
      rw [List.getElem?_set_self hil] at hp
      injection hp with hp
      subst hp
      rw [List.getElem?_set_ne (fun e => h2 e.symm)] at hq
      rw [blk' j2 q h2] at hqb
      exact key j2 q b h2 hq hqb hpb
    · rw [List.getElem?_set_ne (fun e => h1 e.symm)] at hp
      rw [blk' j1 p h1] at hpb
      by_cases h2 : j2 = i
      · subst h2
        rw [List.getElem?_set_self hil] at hq
        injection hq with hq
        subst hq
        exact key j1 p b h1 hp hpb hqb
      · rw [List.getElem?_set_ne (fun e => h2 e.symm)] at hq
        rw [blk' j2 q h2] at hqb
        exact k.apart j1 j2 p q b hne hp hq hpb hqb

/-- One object more. -/
theorem get_app {j : Nat} {p : Ob} (hp : (h ++ [o])[j]? = some p) : (j < h.length ∧ h[j]? = some p) ∨ (j = h.length ∧ p = o) := by
  rcases Nat.lt_or_ge j h.length with hj | hj
  · rw [List.getElem?_append_left hj] at hp; exact .inl ⟨hj, hp⟩
  · rw [List.getElem?_append_right hj] at hp
    have hj0 : j - h.length = 0 := by
      rcases Nat.eq_zero_or_pos (j - h.length) with e | e
      · exact e
      · rw [List.getElem?_eq_none (by simp; omega)] at hp; cases hp
    rw [hj0] at hp
    injection hp with hp
    exact .inr ⟨by omega, hp.symm⟩
theorem Le.more (hb : Below w.heap.size w w') (hβ : ∀ j, j < h.length → g'.β j = g.β j) (hc : ∀ j, j < h.length → g'.cur j = g.cur j) (hk : ∀ b, o.blk g' h.length = some b → w.heap.size ≤ b) : Le (ctx w g h) (ctx w' g' (h ++ [o])) := by
  have lv : ∀ j, (ctx w g h).live j → j < h.length := fun j ⟨p, hp, _⟩ => get_lt hp
  refine ⟨fun a u hr => ?_, by simp [ctx], fun j ⟨p, hp, hpl⟩ => ⟨p, by rw [List.getElem?_append_left (get_lt hp)]; exact hp, hpl⟩, fun j hj => hβ j (lv j hj), fun j hj s hs => ?_⟩
  · obtain ⟨h1, h2⟩ := hr
    have hlt := World.block_lt_of_cell? w a h2
    refine ⟨fun ⟨j, p, hp, hkp⟩ => ?_, (World.cell?_of_block (w := w) (hb.block a.block hlt)).trans h2⟩
    rcases get_app hp with ⟨hj, hp⟩ | ⟨rfl, rfl⟩
    · exact h1 ⟨j, p, hp, by rw [blk_same (hβ j hj) (hc j hj)] at hkp; exact hkp⟩
    · have := hk _ hkp
      omega
  · have hj := lv j hj
    refine ⟨s, ?_, .inl ⟨rfl, hc j hj⟩⟩
    have := hs
    simp only [ctx, List.getElem?_append_left hj] at this
    exact this
theorem HOk.more (k : HOk B w g h) (hb : Below w.heap.size w w') (hβ : ∀ j, j < h.length → g'.β j = g.β j) (hc : ∀ j, j < h.length → g'.cur j = g.cur j)
    (hbl : ∀ b, o.blk g' h.length = some b → w.heap.size ≤ b) (hl : Le (ctx w g h) (ctx w' g' (h ++ [o]))) (ho : o.ok B w' (ctx w' g' (h ++ [o])) h.length) : HOk B w' g' (h ++ [o]) := by
  have blk' : ∀ (j : Nat) (p : Ob), j < h.length → p.blk g' j = p.blk g j := fun j p hj => blk_same (hβ j hj) (hc j hj)
  refine ⟨fun j p hp => ?_, fun j1 j2 p q b hne hp hq hpb hqb => ?_⟩
  · rcases get_app hp with ⟨hj, hp⟩ | ⟨rfl, rfl⟩
    · exact Ob.ok_le (g := g) (live_of hp) (k.ok j p hp) hl (hc j hj) rfl rfl fun b hv => hb.block b (k.lt hp hv).2
    · exact ho
  · rcases get_app hp with ⟨h1, hp'⟩ | ⟨rfl, rfl⟩
    · rw [blk' j1 p h1] at hpb
      rcases get_app hq with ⟨h2, hq'⟩ | ⟨rfl, rfl⟩
      · rw [blk' j2 q h2] at hqb
        exact k.apart j1 j2 p q b hne hp' hq' hpb hqb
      · have := hbl b hqb
        have := (k.lt hp' hpb).2
        omega
    · rcases get_app hq with ⟨h2, hq'⟩ | ⟨rfl, rfl⟩
      · rw [blk' j2 q h2] at hqb
        have := hbl b hpb
        have := (k.lt hq' hqb).2
        omega
      · exact hne rfl

/-! What is not wanted any more is let go. -/
def ltOb (n : Nat) : Ob → Bool
  | .box _ cs => ltList n cs
  | .row _ _ xs _ => ltRows n xs
  | .mapo es => es.all fun x => x.1.lt n && x.2.lt n
  | .gone | .res => true
theorem ltList_append (n : Nat) : ∀ (a b : List AV), ltList n a = true → ltList n b = true → ltList n (a ++ b) = true
  | [], _, _, h => h
  | x :: a, b, h, k => by
    have h : x.lt n = true ∧ ltList n a = true := by simpa [ltList] using h
    simp [ltList, h.1, ltList_append n a b h.2 k]
theorem ltRows_flatten (n : Nat) : ∀ (xs : List (List AV)), ltRows n xs = true → ltList n xs.flatten = true
  | [], _ => rfl
  | r :: rs, h => by
    have h : ltList n r = true ∧ ltRows n rs = true := by simpa [ltRows] using h
    exact ltList_append n r _ h.1 (ltRows_flatten n rs h.2)
theorem less_take (w : World) (g : Gh) (h L : List Ob) : Less h.length (ctx w g (h ++ L)) (ctx w g h) :=
  { rd := fun a u hr => ⟨fun ⟨j, p, hp, hb⟩ => hr.1 ⟨j, p, by rw [List.getElem?_append_left (get_lt hp)]; exact hp, hb⟩, hr.2⟩
    sz := rfl
    live := fun i hi ⟨o, h1, h2⟩ => ⟨o, by rw [List.getElem?_append_left hi] at h1; exact h1, h2⟩
    β := fun _ _ => rfl
    tok := fun i hi => by show Ob.tok _ = Ob.tok _; rw [List.getElem?_append_left hi]
    cur := fun _ _ => rfl }
theorem MapRel.less {n : Nat} {c c' : Ctx} (h : Less n c c') : ∀ (l : List (AV × AV)) (es : List MapEntry), (l.all fun x => x.1.lt n && x.2.lt n) = true → MapRel c l es → MapRel c' l es
  | [], _, _, e => e
  | (a, b) :: r, _, hl, ⟨e, q, h1, h2, h3, h5⟩ => by
    simp only [List.all_cons, Bool.and_eq_true] at hl
    exact ⟨e, q, h1, AR.less h _ _ hl.1.1 h2, AR.less h _ _ hl.1.2 h3, MapRel.less h r q hl.2 h5⟩
theorem HOk.take {L : List Ob} (k : HOk B w g (h ++ L)) (hl : ∀ o ∈ h, ltOb h.length o = true) : HOk B w g h := by
  have up : ∀ (j : Nat) (p : Ob), h[j]? = some p → (h ++ L)[j]? = some p := fun j p hp => by rw [List.getElem?_append_left (get_lt hp)]; exact hp
  refine ⟨fun i o hi => ?_, fun i j o p b hne hi hj => k.apart i j o p b hne (up i o hi) (up j p hj)⟩
  have ho := k.ok i o (up i o hi)
  have hlo := hl o (List.mem_of_getElem? hi)
  have hs := less_take w g h L
  cases o with
  | box ty cs =>
    obtain ⟨h1, vs, h2, h3⟩ := ho
    exact ⟨h1, vs, h2, ARs.less hs _ _ hlo h3⟩
  | row ty e xs st =>
    obtain ⟨h1, h4, cells, h2, h3⟩ := ho
    exact ⟨h1, h4, cells, h2, ARs.less hs _ _ (ltRows_flatten _ _ hlo) h3⟩
  | mapo l =>
    obtain ⟨h1, vs, k, l', h2, hp, h3, h5⟩ := ho
    refine ⟨h1, vs, k, l', h2, hp, MapRel.less hs _ _ ?_ h3, h5⟩
    have hlo : (l.all fun x => x.1.lt h.length && x.2.lt h.length) = true := hlo
    rw [List.all_eq_true] at hlo ⊢
    exact fun x hx => hlo x (hp.mem_iff.1 hx)
  | gone => trivial
  | res => trivial

/-! What is nothing yet may be anything: a call does not touch it. -/
def fillO (φ : Nat → Ob) (i : Nat) (o : Ob) : Ob := if o.isRes then φ i else o
def fill (φ : Nat → Ob) (h : List Ob) : List Ob := h.mapIdx (fillO φ)
/-- Nothing is said from here on. -/
def Upto (φ : Nat → Ob) (n : Nat) : Prop := ∀ i, n ≤ i → φ i = .res
theorem Upto.mono {φ : Nat → Ob} {n m : Nat} (k : Upto φ n) (h : n ≤ m) : Upto φ m := fun i hi => k i (Nat.le_trans h hi)
variable {φ : Nat → Ob}
theorem fill_len : (fill φ h).length = h.length := by simp [fill]
theorem fill_get : (fill φ h)[i]? = h[i]?.map (fillO φ i) := by simp [fill]
theorem fill_live (hi : h[i]? = some o) (ho : o.isRes = false) : (fill φ h)[i]? = some o := by
  rw [fill_get, hi]; simp [fillO, ho]
theorem fill_set (ho : o.isRes = false) : fill φ (h.set i o) = (fill φ h).set i o := by
  apply List.ext_getElem?
  intro j
  rw [fill_get]
  by_cases hj : i = j
  · subst hj
    by_cases hl : i < h.length
    · rw [List.getElem?_set_self hl, List.getElem?_set_self (by rw [fill_len]; exact hl)]; simp [fillO, ho]
    · rw [List.getElem?_eq_none (by simp; omega), List.getElem?_eq_none (by simp [fill_len]; omega)]; rfl
  · rw [List.getElem?_set_ne hj, List.getElem?_set_ne hj, fill_get]
theorem fill_app {L : List Ob} (hu : Upto φ h.length) : fill φ (h ++ L) = fill φ h ++ L := by
  apply List.ext_getElem?
  intro j
  rw [fill_get]
  by_cases hj : j < h.length
  · rw [List.getElem?_append_left hj, List.getElem?_append_left (by rw [fill_len]; exact hj), fill_get]
  · rw [List.getElem?_append_right (by omega), List.getElem?_append_right (by rw [fill_len]; omega), fill_len]
    cases hL : L[j - h.length]? with
    | none => rfl
    | some o =>
      simp only [Option.map_some, fillO]
      split
      · rename_i ho
        rw [hu j (by omega)]
        cases o <;> first | rfl | cases ho
      · rfl
theorem fill_none : fill (fun _ => .res) h = h := by
  apply List.ext_getElem?
  intro j
  rw [fill_get]
  cases h[j]? with
  | none => rfl
  | some o => simp only [Option.map_some, fillO]; cases o <;> rfl
/-- What was nothing yet is nothing still. -/
def ResK (h h' : List Ob) : Prop := ∀ i : Nat, h[i]? = some Ob.res → h'[i]? = some Ob.res
theorem ResK.refl : ResK h h := fun _ k => k
theorem ResK.trans {h'' : List Ob} (a : ResK h h') (b : ResK h' h'') : ResK h h'' := fun i k => b i (a i k)
theorem resK_set (hi : h[i]? = some o) (ho : o.isRes = false) : ResK h (h.set i o') := fun j hj => by
  by_cases e : i = j
  · subst e; rw [hi] at hj; injection hj with hj; subst hj; cases ho
  · rw [List.getElem?_set_ne e]; exact hj
theorem resK_app {L : List Ob} : ResK h (h ++ L) := fun j hj => by
  rw [List.getElem?_append_left (List.getElem?_eq_some_iff.1 hj).1]; exact hj
end
end Go.Proofs.YtpdghiplnlhnfaaGreat.Ax

namespace Go.Proofs.YtpdghiplnlhnfaaGreat.Ax
set_option linter.unusedSimpArgs false
set_option linter.unusedVariables false
open Go Go.RowKit

/-- What is asked of a type. -/
inductive K where
  | int (k : IntKind) | bool | str | slice (e : TypeId) | struct (fs : List (Nat × TypeId)) | arr (n : Nat) (e : TypeId) | ptr (e : TypeId) | mapk (k e : TypeId) | other
structure Ty where
  ok : Bool
  agg : Bool
  sz : Nat
  bytes : Nat
  zero : Option (List Value)
  one : Bool
  kind : K
def aggOf : TypeDesc → Bool
  | .struct _ | .array _ _ => true
  | _ => false
def kOf : TypeDesc → K
  | .int k => .int k
  | .bool => .bool
  | .string => .str
  | .slice e => .slice e
  | .struct fs => .struct (fs.toList.map fun f => (f.offset, f.type))
  | .array n e => .arr n e
  | .pointer e => .ptr e
  | .map k e => .mapk k e
  | _ => .other
def oneOf : Option Value → Bool
  | some v => v.oneCell'
  | none => false
def tyOf (P : Program) (t : TypeId) : Ty :=
  match P.underlying t, P.info? t with
  | some d, some i => ⟨true, aggOf d, i.size, i.bytes, i.zero.map fun v => v.cells.toList, oneOf i.zero, kOf d⟩
  | _, _ => ⟨false, false, 0, 0, none, false, .other⟩
theorem ty_ok {P : Program} {t : TypeId} (h : (tyOf P t).ok = true) : ∃ d i, P.underlying t = some d ∧ P.info? t = some i ∧ tyOf P t = ⟨true, aggOf d, i.size, i.bytes, i.zero.map fun v => v.cells.toList, oneOf i.zero, kOf d⟩ := by
  cases hu : P.underlying t with
  | none => rw [tyOf, hu] at h; exact absurd h (by simp)
  | some d =>
    cases hi : P.info? t with
    | none => rw [tyOf, hu, hi] at h; exact absurd h (by simp)
    | some i => exact ⟨d, i, rfl, rfl, by rw [tyOf, hu, hi]⟩

def nth : List AV → Nat → AV
  | [], _ => .bad
  | a :: _, 0 => a
  | _ :: r, n + 1 => nth r n
/-- n cells from k on. -/
def cut : List AV → Nat → Nat → Option (List AV)
  | _, 0, 0 => some []
  | [], _, _ => none
  | a :: r, 0, n + 1 => (cut r 0 n).map (a :: ·)
  | _ :: r, k + 1, n => cut r k n
/-- Cells laid over those from k on. -/
def lay : List AV → Nat → List AV → Option (List AV)
  | cs, 0, [] => some cs
  | [], _, _ => none
  | _ :: r, 0, v :: vs => (lay r 0 vs).map (v :: ·)
  | a :: r, k + 1, vs => (lay r k vs).map (a :: ·)

def ofV : Value → AV
  | .agg cs => .ag (cs.toList.map .v)
  | x => .v x
def ev (T : Nat → AV) : Operand → AV
  | .tmp i => T i
  | .const x => ofV x
  | .func f => .fn (.func f) [] []
  | .global _ => .bad

def AV.one : AV → Bool
  | .v x => x.oneCell'
  | .ag _ | .tup _ | .bad => false
  | _ => true
def AV.cells : AV → Option (List AV)
  | .ag cs => if cs.all AV.one then some cs else none
  | .tup _ | .bad => none
  | .v x => if x.oneCell' then some [.v x] else none
  | a => some [a]
/-- A part of cells: a value of so many. -/
def part (cs : List AV) (k : Nat) (agg : Bool) (n : Nat) : Option AV :=
  if agg then (cut cs k n).map .ag else if k < cs.length then some (nth cs k) else none
/-- The cells of an element. -/
def eOf (h : List Ob) : AV → Option Nat
  | .sl e _ => some e
  | .tl id _ => match h[id]? with
    | some (.row _ e _ _) => some e
    | _ => none
  | .vw a e _ _ => (eOf h a).bind fun e' => if e' = e then some e else none
  | _ => none

def rowsOf (h : List Ob) : AV → Option (List (List AV))
  | .sl _ xs => some xs
  | .tl id st => match h[id]? with
    | some (.row _ _ xs s) => if s = st then some xs else none
    | _ => none
  | .vw a e i n => (rowsOf h a).bind fun xs => if i + n ≤ xs.length ∧ (n = 0 ∨ eOf h a = some e) then some ((xs.drop i).take n) else none
  | .v (.slice none 0 _) => some []
  | .em => some []
  | _ => none
section
variable {c : Ctx}
theorem ars_len : ∀ {as : List AV} {vs : List Value}, ARs c as vs → as.length = vs.length
  | [], vs, e => by have e : vs = [] := e; rw [e]; rfl
  | a :: as, vs, ⟨v, r, h1, _, h3⟩ => by rw [h1]; simp [ars_len h3]
theorem ars_get? : ∀ {as : List AV} {vs : List Value}, ARs c as vs → ∀ i, i < as.length → ∃ u, vs[i]? = some u ∧ AR c (nth as i) u
  | a :: as, vs, ⟨v, r, h1, h2, h3⟩, 0, _ => ⟨v, by rw [h1]; rfl, h2⟩
  | a :: as, vs, ⟨v, r, h1, h2, h3⟩, i + 1, hi => by
    obtain ⟨u, e1, e2⟩ := ars_get? h3 i (by simpa using hi)
    exact ⟨u, by rw [h1]; exact e1, e2⟩
theorem nth_get : ∀ {as : List AV} {i : Nat} {a : AV}, as[i]? = some a → nth as i = a
  | [], _, _, h => by cases h
  | x :: as, 0, a, h => by injection h
  | x :: as, i + 1, a, h => nth_get (as := as) (i := i) h
theorem get_nth : ∀ {as : List AV} {i : Nat}, i < as.length → as[i]? = some (nth as i)
  | x :: as, 0, _ => rfl
  | x :: as, i + 1, h => get_nth (as := as) (i := i) (by simpa using h)
theorem ars_v : ∀ (vs : List Value), ARs c (vs.map .v) vs
  | [] => rfl
  | v :: r => ⟨v, r, rfl, rfl, ars_v r⟩
theorem ars_append : ∀ {as bs : List AV} {us vs : List Value}, ARs c as us → ARs c bs vs → ARs c (as ++ bs) (us ++ vs)
  | [], bs, us, vs, e, h => by have e : us = [] := e; subst e; exact h
  | a :: as, bs, us, vs, ⟨u, r, h1, h2, h3⟩, h => by subst h1; exact ⟨u, r ++ vs, rfl, h2, ars_append h3 h⟩
theorem ofV_ar (x : Value) : AR c (ofV x) x := by
  unfold ofV
  split
  · exact ⟨_, rfl, ars_v _⟩
  · rfl
theorem ars_cut : ∀ {as : List AV} {vs : List Value}, ARs c as vs → ∀ (k n : Nat) {rs : List AV}, cut as k n = some rs → ARs c rs ((vs.drop k).take n) ∧ k + n ≤ vs.length ∧ rs.length = n
  | [], vs, e, 0, 0, rs, h => by have e : vs = [] := e; cases h; rw [e]; exact ⟨rfl, Nat.le_refl _, rfl⟩
  | [], _, _, k + 1, n, rs, h => by cases h
  | [], _, _, 0, n + 1, rs, h => by cases h
  | a :: as, vs, _, 0, 0, rs, h => by cases h; simp [ARs]
  | a :: as, vs, ⟨u, r, h1, h2, h3⟩, 0, n + 1, rs, h => by
    unfold cut at h
    cases hc : cut as 0 n with
    | none => rw [hc] at h; cases h
    | some q =>
      rw [hc] at h
      injection h with h
      subst h
      subst h1
      obtain ⟨e1, e2, e3⟩ := ars_cut h3 0 n hc
      exact ⟨⟨u, _, rfl, h2, e1⟩, by simp; omega, by simp [e3]⟩
  | a :: as, vs, ⟨u, r, h1, h2, h3⟩, k + 1, n, rs, h => by
    unfold cut at h
    subst h1
    obtain ⟨e1, e2, e3⟩ := ars_cut h3 k n h
    exact ⟨e1, by simp; omega, e3⟩
theorem ars_lay : ∀ {as : List AV} {vs : List Value}, ARs c as vs → ∀ (k : Nat) {ns rs : List AV} {us : List Value}, ARs c ns us → lay as k ns = some rs → ARs c rs (vs.take k ++ us ++ vs.drop (k + us.length)) ∧ k + us.length ≤ vs.length
  | as, vs, h, 0, [], rs, us, hu, e => by
    have hu : us = [] := hu
    subst hu
    have : lay as 0 [] = some as := by cases as <;> rfl
    rw [this] at e
    cases e
    exact ⟨by simpa using h, by simp⟩
  | [], vs, e, k + 1, ns, rs, us, hu, h => by cases h
  | [], vs, e, 0, n :: ns, rs, us, hu, h => by cases h
  | a :: as, vs, ⟨u, r, h1, h2, h3⟩, 0, n :: ns, rs, us, ⟨x, us', hx, hx2, hx3⟩, h => by
    unfold lay at h
    cases hc : lay as 0 ns with
    | none => rw [hc] at h; cases h
    | some q =>
      rw [hc] at h
      injection h with h
      subst h
      subst h1
      subst hx
      obtain ⟨e1, e2⟩ := ars_lay h3 0 hx3 hc
      exact ⟨⟨x, _, rfl, hx2, by simpa using e1⟩, by simp; omega⟩
  | a :: as, vs, ⟨u, r, h1, h2, h3⟩, k + 1, ns, rs, us, hu, h => by
    unfold lay at h
    cases hc : lay as k ns with
    | none => rw [hc] at h; cases h
    | some q =>
      rw [hc] at h
      injection h with h
      subst h
      subst h1
      obtain ⟨e1, e2⟩ := ars_lay h3 k hu hc
      refine ⟨⟨u, _, rfl, h2, ?_⟩, by simp; omega⟩
      rw [show k + 1 + us.length = (k + us.length) + 1 by omega]
      exact e1
theorem lay_len : ∀ {as : List AV} {k : Nat} {ns rs : List AV}, lay as k ns = some rs → rs.length = as.length
  | as, 0, [], rs, h => by
    have : lay as 0 [] = some as := by cases as <;> rfl
    rw [this] at h; cases h; rfl
  | [], k + 1, ns, rs, h => by cases h
  | [], 0, n :: ns, rs, h => by cases h
  | a :: as, 0, n :: ns, rs, h => by
    unfold lay at h
    cases hc : lay as 0 ns with
    | none => rw [hc] at h; cases h
    | some q => rw [hc] at h; injection h with h; subst h; simp [lay_len hc]
  | a :: as, k + 1, ns, rs, h => by
    unfold lay at h
    cases hc : lay as k ns with
    | none => rw [hc] at h; cases h
    | some q => rw [hc] at h; injection h with h; subst h; simp [lay_len hc]
theorem one_cell : ∀ {a : AV} {u : Value}, a.one = true → AR c a u → u.oneCell' = true ∧ u.cells = #[u]
  | .v x, u, h, e => by
    have e : u = x := e
    subst e
    refine ⟨h, ?_⟩
    cases u <;> first | rfl | cases h
  | .sl _ _, u, _, ⟨A, k, e, _⟩ => by subst e; exact ⟨rfl, rfl⟩
  | .ptr _ _, u, _, ⟨_, e⟩ => by subst e; exact ⟨rfl, rfl⟩
  | .mp _, u, _, ⟨_, e⟩ => by subst e; exact ⟨rfl, rfl⟩
  | .ep _ _ _ _, u, _, ⟨A, m, cp, _, _, e⟩ => by subst e; exact ⟨rfl, rfl⟩
  | .em, u, _, ⟨A, k, e⟩ => by subst e; exact ⟨rfl, rfl⟩
  | .vw _ _ _ _, u, _, ⟨A, m, cp, A', k, _, _, _, e, _⟩ => by subst e; exact ⟨rfl, rfl⟩
  | .fn _ _ _, u, _, ⟨us, vs, e, _⟩ => by subst e; exact ⟨rfl, rfl⟩
  | .tl id st, u, _, ⟨⟨A, n, k, e⟩, _⟩ => by subst e; exact ⟨rfl, rfl⟩
theorem one_cells : ∀ {as : List AV} {vs : List Value}, as.all AV.one = true → ARs c as vs → ∀ v ∈ vs, v.oneCell' = true
  | [], vs, _, e, v, hv => by have e : vs = [] := e; rw [e] at hv; cases hv
  | a :: as, vs, h, ⟨u, r, h1, h2, h3⟩, v, hv => by
    rw [List.all_cons, Bool.and_eq_true] at h
    subst h1
    rcases List.mem_cons.1 hv with rfl | hv
    · exact (one_cell h.1 h2).1
    · exact one_cells h.2 h3 v hv
theorem cells_of {a : AV} {u : Value} {cs : List AV} (h : a.cells = some cs) (hu : AR c a u) : ARs c cs u.cells.toList ∧ (∀ v ∈ u.cells.toList, v.oneCell' = true) := by
  have key : a.one = true → cs = [a] → ARs c cs u.cells.toList ∧ (∀ v ∈ u.cells.toList, v.oneCell' = true) := fun h1 h2 => by
    obtain ⟨e1, e2⟩ := one_cell h1 hu
    rw [h2, e2]
    exact ⟨⟨u, [], rfl, hu, rfl⟩, by simpa using e1⟩
  cases a with
  | v x =>
    simp only [AV.cells] at h
    split at h
    · rename_i h1; injection h with h; exact key h1 h.symm
    · cases h
  | sl e xs => injection h with h; exact key rfl h.symm
  | tl i s => injection h with h; exact key rfl h.symm
  | ptr i o => injection h with h; exact key rfl h.symm
  | em => injection h with h; exact key rfl h.symm
  | vw a e i k => injection h with h; exact key rfl h.symm
  | ep a e i k => injection h with h; exact key rfl h.symm
  | mp i => injection h with h; exact key rfl h.symm
  | fn f a b => injection h with h; exact key rfl h.symm
  | ag as =>
    simp only [AV.cells] at h
    split at h
    · rename_i h1
      injection h with h
      subst h
      obtain ⟨vs, e1, e2⟩ := hu
      subst e1
      exact ⟨e2, one_cells h1 e2⟩
    · cases h
  | tup _ => cases h
  | bad => cases h
theorem rows_at (A : Option Addr) (e : Nat) : ∀ (xs : List (List AV)) (i0 i : Nat) (r : List AV), ARows c A e i0 xs → xs[i]? = some r → r.length = e ∧ ACells c A ((i0 + i) * e) r
  | r :: rs, i0, 0, _, ⟨h1, _⟩, h => by injection h with h; subst h; exact h1
  | r :: rs, i0, i + 1, q, ⟨_, h2⟩, hi => by
    have := rows_at A e rs (i0 + 1) i q h2 hi
    rw [show i0 + 1 + i = i0 + (i + 1) by omega] at this
    exact this
theorem cells_at (A : Option Addr) : ∀ (as : List AV) (k0 k : Nat) (a : AV), ACells c A k0 as → as[k]? = some a → ∃ ad u, A = some ad ∧ c.rd (ad.add (k0 + k)) u ∧ AR c a u
  | a :: as, k0, 0, _, ⟨h1, _⟩, h => by injection h with h; subst h; exact h1
  | a :: as, k0, k + 1, q, ⟨_, h2⟩, hk => by
    have := cells_at A as (k0 + 1) k q h2 hk
    rw [show k0 + 1 + k = k0 + (k + 1) by omega] at this
    exact this
/-- Cell k of element i. -/
theorem flatten_get {α : Type} {e : Nat} : ∀ {xs : List (List α)}, (∀ x ∈ xs, x.length = e) → ∀ {i k : Nat} {r : List α} {a : α}, xs[i]? = some r → r[k]? = some a → xs.flatten[i * e + k]? = some a
  | x :: xs, h, 0, k, r, a, hi, hk => by
    injection hi with hi
    subst hi
    rw [List.flatten_cons, List.getElem?_append_left (by have := (List.getElem?_eq_some_iff.1 hk).1; omega)]
    simpa using hk
  | x :: xs, h, i + 1, k, r, a, hi, hk => by
    have hx : x.length = e := h x (by simp)
    have := flatten_get (xs := xs) (fun y hy => h y (by simp [hy])) (i := i) hi hk
    rw [List.flatten_cons, List.getElem?_append_right (by rw [hx, Nat.succ_mul]; omega), hx]
    rw [show (i + 1) * e + k - e = i * e + k by rw [Nat.succ_mul]; omega]
    exact this
theorem flatten_len {α : Type} {e : Nat} : ∀ {xs : List (List α)}, (∀ x ∈ xs, x.length = e) → xs.flatten.length = xs.length * e
  | [], _ => by simp
  | x :: xs, h => by
    rw [List.flatten_cons, List.length_append, flatten_len (fun y hy => h y (by simp [hy])), h x (by simp), List.length_cons, Nat.succ_mul]
    omega
end

/-- A slice whose rows are known. -/
structure RowsAt (w : World) (c : Ctx) (e : Nat) (xs : List (List AV)) (A : Option Addr) : Prop where
  len : ∀ r ∈ xs, r.length = e
  cell : ∀ (i k : Nat) (r : List AV) (a : AV), xs[i]? = some r → r[k]? = some a → ∃ ad u, A = some ad ∧ w.cell? (ad.add (i * e + k)) = some u ∧ AR c a u
section
variable {B : Nat} {w : World} {g : Gh} {h : List Ob}
theorem tl_cur {id st : Nat} {u : Value} (hu : AR (ctx w g h) (.tl id st) u) {ty e : Nat} {xs : List (List AV)} (ho : h[id]? = some (.row ty e xs st)) : u = g.cur id :=
  (hu.2.2 st (by simp [ctx, ho, Ob.tok])).2 rfl
theorem owns_slice {D : Nat} {e : TypeId} {size : Nat} {v : Value} {k : Nat} {xs : List Value} (h : w.ownsRow D e size v k xs) : ∃ A cp, v = .slice A k cp ∧ k ≤ cp := by
  rcases h.2 with ⟨h1, h2⟩ | ⟨g, cap, cur, hv, _, _, h3, _⟩
  · subst h2; exact ⟨none, 0, h1, Nat.le_refl _⟩
  · exact ⟨_, cap, hv, h3⟩
theorem rows_ok (hh : HOk B w g h) : ∀ (a : AV) {u : Value} {xs : List (List AV)}, AR (ctx w g h) a u → rowsOf h a = some xs →
    ∃ A k, u = .slice A xs.length k ∧ xs.length ≤ k ∧ (∀ e, eOf h a = some e → RowsAt w (ctx w g h) e xs A) ∧ (eOf h a = none → xs = [])
  | .sl e ys, u, xs, hu, hr => by
    injection hr with hr
    subst hr
    obtain ⟨A, k, h1, h2, h3⟩ := hu
    refine ⟨A, k, h1, h2, fun e' he => ?_, fun he => by cases he⟩
    injection he with he
    subst he
    refine ⟨fun r hr => ?_, fun i k r a hi hk => ?_⟩
    · obtain ⟨i, hi, e1⟩ := List.mem_iff_getElem.1 hr
      exact (rows_at A e _ 0 i r h3 (by rw [List.getElem?_eq_getElem hi, e1])).1
    · have := rows_at A e _ 0 i r h3 hi
      obtain ⟨ad, u, e1, e2, e3⟩ := cells_at A r _ k a this.2 hk
      rw [Nat.zero_add] at e2
      exact ⟨ad, u, e1, e2.2, e3⟩
  | .tl id st, u, xs, hu, hr => by
    simp only [rowsOf] at hr
    split at hr
    · rename_i ty e ys s ho
      split at hr
      · rename_i hs
        injection hr with hr
        subst hs
        subst hr
        have hc := tl_cur hu ho
        obtain ⟨h0, h1, cells, h2, h3⟩ := hh.ok id _ ho
        obtain ⟨A, cp, e1, e2⟩ := owns_slice h2
        refine ⟨A, cp, hc.trans e1, e2, fun e' he => ?_, fun he => by simp [eOf, ho] at he⟩
        simp only [eOf, ho, Option.some.injEq] at he
        subst he
        refine ⟨h1, fun i k r a hi hk => ?_⟩
        have hf := flatten_get h1 hi hk
        obtain ⟨u, hu1, hu2⟩ := ars_get? h3 _ (List.getElem?_eq_some_iff.1 hf).1
        rw [nth_get hf] at hu2
        rcases h2.2 with ⟨e3, e4⟩ | ⟨gg, cap, cur, hv, _⟩
        · have := (List.getElem?_eq_some_iff.1 hi).1
          omega
        · have hA : A = some ⟨gg, 0, none⟩ := by
            have e1' : g.cur id = .slice A ys.length cp := e1
            have hv' : g.cur id = _ := hv
            rw [e1'] at hv'
            injection hv'
          refine ⟨_, u, hA, ?_, hu2⟩
          have e1' : g.cur id = .slice A ys.length cp := e1
          exact World.ownsRow.cells h2 (g := gg) (by show (g.cur id).ownBlock = _; rw [e1', hA]; rfl) _ u hu1
      · cases hr
    · cases hr
  | .vw a e i n, u, xs, hu, hr => by
    have ih := @rows_ok hh a
    obtain ⟨A, m, cp, A', k, h1, h2, h3, h4, h5, _⟩ := hu
    simp only [rowsOf] at hr
    cases hra : rowsOf h a with
    | none => rw [hra] at hr; cases hr
    | some ys =>
      rw [hra] at hr
      simp only [Option.bind_some] at hr
      split at hr
      · rename_i hin
        injection hr with hr
        subst hr
        obtain ⟨A0, k0, e1, e2, e3, e4⟩ := ih h1 hra
        injection e1 with e5 e6 e7
        subst e5 e6 e7
        have hlen : ((ys.drop i).take n).length = n := by simp; omega
        refine ⟨A', k, by rw [hlen]; exact h4, by rw [hlen]; exact h3, fun e' he => ?_, fun he => ?_⟩
        · simp only [eOf] at he
          cases hea : eOf h a with
          | none => rw [hea] at he; cases he
          | some e0 =>
            rw [hea] at he
            simp only [Option.bind_some] at he
            split at he
            · rename_i hee
              injection he with he
              subst hee he
              have hR := e3 _ hea
              refine ⟨fun r hr => hR.len r (List.mem_of_mem_drop (List.mem_of_mem_take hr)), fun j k r a hj hk => ?_⟩
              have hjn : j < n := by
                have := (List.getElem?_eq_some_iff.1 hj).1
                rw [hlen] at this; exact this
              rw [List.getElem?_take, if_pos hjn, List.getElem?_drop] at hj
              obtain ⟨ad, u, z1, z2, z3⟩ := hR.cell (i + j) k r a hj hk
              obtain ⟨ad', z4, z5⟩ := h5 (by omega)
              rw [z1] at z4
              injection z4 with z4
              subst z4
              refine ⟨_, u, z5, ?_, z3⟩
              rw [Addr.add_add, show i * e0 + (j * e0 + k) = (i + j) * e0 + k by rw [Nat.add_mul]; omega]
              exact z2
            · cases he
        · simp only [eOf] at he
          cases hn : (ys.drop i).take n with
          | nil => rfl
          | cons r rs =>
            exfalso
            have hr : r ∈ ys := List.mem_of_mem_drop (List.mem_of_mem_take (by rw [hn]; simp : r ∈ (ys.drop i).take n))
            cases hea : eOf h a with
            | none => rw [e4 hea] at hr; cases hr
            | some e0 =>
              rw [hea] at he
              simp only [Option.bind_some] at he
              split at he
              · cases he
              · rename_i hne
                rcases hin.2 with h0 | h0
                · rw [h0] at hn; simp at hn
                · rw [hea] at h0; injection h0 with h0; exact hne h0
      · cases hr
  | .v x, u, xs, hu, hr => by
    have hu : u = x := hu
    subst hu
    unfold rowsOf at hr
    split at hr
    · rename_i heq; cases heq
    · rename_i heq; cases heq
    · rename_i heq; cases heq
    · rename_i k heq
      injection hr with hr
      subst hr
      injection heq with heq
      exact ⟨none, k, heq, Nat.zero_le _, fun e he => by simp [eOf] at he, fun _ => rfl⟩
    · rename_i heq; cases heq
    · cases hr
  | .em, u, xs, ⟨A, k, e⟩, hr => by
    injection hr with hr
    subst hr
    exact ⟨_, k, e, Nat.zero_le _, fun e he => by simp [eOf] at he, fun _ => rfl⟩
  | .ptr _ _, _, _, _, hr | .ep _ _ _ _, _, _, _, hr | .mp _, _, _, _, hr | .ag _, _, _, _, hr | .tup _, _, _, _, hr | .fn _ _ _, _, _, _, hr | .bad, _, _, _, hr => by cases hr
end
end Go.Proofs.YtpdghiplnlhnfaaGreat.Ax

namespace Go.Proofs.YtpdghiplnlhnfaaGreat.Ax
set_option linter.unusedSimpArgs false
set_option linter.unusedVariables false
open Go Go.RowKit

/-- One step of a call that owns what lies from B on. -/
structure Good (B : Nat) (w : World) (g : Gh) (h : List Ob) (w' : World) (g' : Gh) (h' : List Ob) : Prop where
  ok : HOk B w' g' h'
  le : Le (ctx w g h) (ctx w' g' h')
  below : Below B w w'
  size : B ≤ w'.heap.size
section
variable {B : Nat} {w w' w'' : World} {g g' g'' : Gh} {h h' h'' : List Ob} {P : Program}
theorem Good.refl (hh : HOk B w g h) (hB : B ≤ w.heap.size) : Good B w g h w g h := ⟨hh, Le.refl _, Below.refl _ _, hB⟩
theorem Good.trans (a : Good B w g h w' g' h') (b : Good B w' g' h' w'' g'' h'') : Good B w g h w'' g'' h'' :=
  ⟨b.ok, a.le.trans b.le, a.below.trans b.below, b.size⟩
theorem Good.drew (hh : HOk B w g h) (hB : B ≤ w.heap.size) : Good B w g h w.drew g h :=
  have hb : ∀ D, Below D w w.drew := fun _ => ⟨rfl, rfl, rfl, Nat.le_refl _, fun _ _ => rfl⟩
  ⟨hh.ext (hb _), Le.ext (hb _), hb _, hB⟩

/-! Reading. -/
def PartAt (w : World) (c : Ctx) (ad : Addr) (cs : List AV) : Prop := ∀ (k : Nat) (a : AV), cs[k]? = some a → ∃ u, w.cell? (ad.add k) = some u ∧ AR c a u
theorem cut_get : ∀ {as : List AV} {k n : Nat} {rs : List AV}, cut as k n = some rs → ∀ j, j < n → as[k + j]? = rs[j]? ∧ j < rs.length
  | _, 0, 0, _, _, j, hj => by omega
  | [], k + 1, n, rs, h, _, _ => by cases h
  | [], 0, n + 1, rs, h, _, _ => by cases h
  | a :: as, 0, n + 1, rs, h, j, hj => by
    unfold cut at h
    cases hc : cut as 0 n with
    | none => rw [hc] at h; cases h
    | some q =>
      rw [hc] at h
      injection h with h
      subst h
      cases j with
      | zero => simp
      | succ j =>
        have := cut_get hc j (by omega)
        simp only [Nat.zero_add, List.getElem?_cons_succ, List.length_cons] at this ⊢
        exact ⟨this.1, by omega⟩
  | a :: as, k + 1, n, rs, h, j, hj => by
    unfold cut at h
    have := cut_get h j hj
    rw [show k + 1 + j = (k + j) + 1 by omega, List.getElem?_cons_succ]
    exact this
theorem cut_len : ∀ {as : List AV} {k n : Nat} {rs : List AV}, cut as k n = some rs → rs.length = n
  | as, 0, 0, _, h => by
    have : cut as 0 0 = some [] := by cases as <;> rfl
    rw [this] at h; cases h; rfl
  | [], k + 1, n, rs, h => by cases h
  | [], 0, n + 1, rs, h => by cases h
  | a :: as, 0, n + 1, rs, h => by
    unfold cut at h
    cases hc : cut as 0 n with
    | none => rw [hc] at h; cases h
    | some q => rw [hc] at h; injection h with h; subst h; simp [cut_len hc]
  | a :: as, k + 1, n, rs, h => by unfold cut at h; exact cut_len h
theorem ars_of {c : Ctx} : ∀ {as : List AV} {vs : List Value}, as.length = vs.length → (∀ (k : Nat) (a : AV), as[k]? = some a → ∃ u : Value, vs[k]? = some u ∧ AR c a u) → ARs c as vs
  | [], [], _, _ => rfl
  | [], _ :: _, h, _ => by cases h
  | _ :: _, [], h, _ => by cases h
  | a :: as, v :: vs, hl, h => by
    obtain ⟨u, h1, h2⟩ := h 0 a rfl
    injection h1 with h1
    subst h1
    exact ⟨_, _, rfl, h2, ars_of (by simpa using hl) fun k b hk => h (k + 1) b hk⟩
/-- Cells as a list of values. -/
theorem PartAt.vals {c : Ctx} {ad : Addr} : ∀ {cs : List AV}, PartAt w c ad cs → ∃ vs : List Value, ARs c cs vs ∧ ∀ (j : Nat) (u : Value), vs[j]? = some u → w.cell? (ad.add j) = some u := by
  intro cs hp
  have : ∀ k, ∃ u, k < cs.length → (w.cell? (ad.add k) = some u ∧ AR c (nth cs k) u) := fun k => by
    by_cases hk : k < cs.length
    · obtain ⟨u, h1, h2⟩ := hp k _ (get_nth hk); exact ⟨u, fun _ => ⟨h1, h2⟩⟩
    · exact ⟨undef, fun h => absurd h hk⟩
  obtain ⟨f, hf⟩ := Classical.axiomOfChoice this
  refine ⟨(List.range cs.length).map f, ars_of (by simp) fun k a hk => ?_, fun j u hj => ?_⟩
  · have hlt := (List.getElem?_eq_some_iff.1 hk).1
    refine ⟨f k, by simp [hlt], ?_⟩
    have := (hf k hlt).2
    rw [nth_get hk] at this
    exact this
  · by_cases hlt : j < cs.length
    · simp [hlt] at hj
      subst hj
      exact (hf j hlt).1
    · have : j < ((List.range cs.length).map f).length := (List.getElem?_eq_some_iff.1 hj).1
      simp at this
      omega
theorem load_part {c : Ctx} {t : TypeId} (ht : (tyOf P t).ok = true) {ad : Addr} {cs : List AV} (hp : PartAt w c ad cs) {k : Nat} {x : AV} (hx : part cs k (tyOf P t).agg (tyOf P t).sz = some x) :
    ∃ v, (loadVar t (ad.add k)).run P w = .ok v w ∧ AR c x v := by
  obtain ⟨d, i, hu, hi, e⟩ := ty_ok ht
  rw [e] at hx
  simp only [part] at hx
  have hsub : ∀ n rs, cut cs k n = some rs → PartAt w c (ad.add k) rs := fun n rs hc j a hj => by
    have hl := cut_len hc
    have hjl := (List.getElem?_eq_some_iff.1 hj).1
    have := cut_get hc j (by omega)
    obtain ⟨u, h1, h2⟩ := hp (k + j) a (this.1.trans hj)
    exact ⟨u, by rw [Addr.add_add]; exact h1, h2⟩
  have hagg : (isAgg t).run P w = .ok (aggOf d) w := by
    simp only [isAgg, Sem.run_bind, run_underlying hu, Result.andThen_ok]
    cases d <;> rfl
  have hsz : (sizeOf t).run P w = .ok i.size w := by simp [sizeOf, typeInfo, hi]
  split at hx
  · rename_i ha
    cases hc : cut cs k i.size with
    | none => rw [hc] at hx; cases hx
    | some rs =>
      rw [hc] at hx
      injection hx with hx
      subst hx
      obtain ⟨vs, h1, h2⟩ := (hsub _ _ hc).vals
      have hlen : vs.length = i.size := by rw [← ars_len h1, cut_len hc]
      have hl := run_loadCells_list (P := P) w (ad.add k) vs h2
      rw [hlen] at hl
      refine ⟨.agg vs.toArray, ?_, vs.toArray, rfl, by simpa using h1⟩
      simp only [loadVar, Sem.run_bind, hagg, Result.andThen_ok, ha, if_true, hsz, hl, Sem.run_pure]
  · rename_i ha
    split at hx
    · rename_i hk
      injection hx with hx
      subst hx
      obtain ⟨u, h1, h2⟩ := hp k _ (get_nth hk)
      refine ⟨u, ?_, h2⟩
      simp only [loadVar, Sem.run_bind, hagg, Result.andThen_ok, ha, if_false, Bool.false_eq_true, run_load, h1]
    · cases hx
theorem box_part (hh : HOk B w g h) {id : Nat} {ty : TypeId} {cs : List AV} (ho : h[id]? = some (.box ty cs)) : PartAt w (ctx w g h) ⟨g.β id, 0, none⟩ cs := fun k a hk => by
  obtain ⟨h1, vs, h2, h3⟩ := hh.ok id _ ho
  obtain ⟨u, h4, h5⟩ := ars_get? h3 k (List.getElem?_eq_some_iff.1 hk).1
  rw [nth_get hk] at h5
  refine ⟨u, ?_, h5⟩
  have h2' : w.heap[g.β id]? = some (.cells vs ty (0, 0)) := h2
  rw [Addr.add_lit]
  simp only [World.cell?, h2', Nat.zero_add]
  simpa using h4

/-! Turning a box, and a row, in place; new ones. -/
theorem grownBy_setRow (w : World) (b : Nat) (vs : Array Value) : w.grownBy (w.setRow b vs) (some b) :=
  ⟨rfl, rfl, rfl, by simp, fun k _ hk => setRow_other w b k vs fun e => hk (by rw [e])⟩
theorem turn_box (hh : HOk B w g h) (hB : B ≤ w.heap.size) {id : Nat} {ty : TypeId} {cs cs' : List AV} (ho : h[id]? = some (.box ty cs)) {vs' : Array Value} (hn : ARs (ctx w g h) cs' vs'.toList) :
    Good B w g h (w.setRow (g.β id) vs') g (h.set id (.box ty cs')) := by
  have hg := grownBy_setRow w (g.β id) vs'
  have hl := Le.turn (g' := g) (o' := .box ty cs') ho rfl hg (fun _ _ => rfl) (fun _ _ => rfl) (fun b hb => .inl hb) (fun _ => ⟨rfl, fun s hs => by cases hs⟩)
  obtain ⟨h1, vs, h2, h3⟩ := hh.ok id _ ho
  refine ⟨hh.turn ho hg (fun _ _ => rfl) (fun _ _ => rfl) (fun b hb => .inl hb) hl ⟨h1, vs', setRow_heap w _ vs vs' ty (0, 0) h2, ARs.le hl _ _ hn⟩, hl, ?_, by simpa using hB⟩
  exact (Below.refl B w).grown hg hB fun k hk => by injection hk with hk; subst hk; exact h1
theorem turn_row (hh : HOk B w g h) (hB : B ≤ w.heap.size) {id : Nat} {ty e : Nat} {xs xs' : List (List AV)} {st : Nat} (ho : h[id]? = some (.row ty e xs st)) (hx : ∀ x ∈ xs', x.length = e) {v' : Value} {cells : List Value} {st' : Nat}
    (hg : w.grownBy w' (g.cur id).ownBlock) (hown : w'.ownsRow B ty e v' xs'.length cells) (hn : ARs (ctx w g h) xs'.flatten cells) (hst : st' = st ∧ v' = g.cur id ∨ st < st') (hbl : ∀ b, v'.ownBlock = some b → (g.cur id).ownBlock = some b ∨ w.heap.size ≤ b) :
    Good B w g h w' ⟨g.β, fun j => if j = id then v' else g.cur j⟩ (h.set id (.row ty e xs' st')) := by
  have hc : ∀ j, j ≠ id → (if j = id then v' else g.cur j) = g.cur j := fun j hj => if_neg hj
  have hblk : ∀ b, (Ob.row ty e xs' st').blk ⟨g.β, fun j => if j = id then v' else g.cur j⟩ id = some b → (Ob.row ty e xs st).blk g id = some b ∨ w.heap.size ≤ b := fun b hb => by
    simp only [Ob.blk, if_true] at hb; exact hbl b hb
  have hl := Le.turn (g' := ⟨g.β, fun j => if j = id then v' else g.cur j⟩) (o' := .row ty e xs' st') ho rfl hg (fun _ _ => rfl) hc hblk (fun _ => ⟨rfl, fun s hs => by
    injection hs with hs
    subst hs
    refine ⟨st, rfl, ?_⟩
    rcases hst with ⟨h1, h2⟩ | h1
    · exact .inl ⟨h1, by simp [h2]⟩
    · exact .inr h1⟩)
  obtain ⟨h0, h1, cells0, h2, h3⟩ := hh.ok id _ ho
  refine ⟨hh.turn ho hg (fun _ _ => rfl) hc hblk hl ⟨h0, hx, cells, ?_, ARs.le hl _ _ hn⟩, hl, ?_, Nat.le_trans hB hg.size⟩
  · simp only [ctx, if_true]; exact hown
  · exact (Below.refl B w).grown hg hB fun k hk => (World.ownsRow.lt h2 k hk).1
theorem more_box (hh : HOk B w g h) (hB : B ≤ w.heap.size) {ty : TypeId} {cs : List AV} {vs : Array Value} (hn : ARs (ctx w g h) cs vs.toList) :
    Good B w g h (w.alloc (.cells vs ty)) ⟨fun j => if j = h.length then w.heap.size else g.β j, g.cur⟩ (h ++ [.box ty cs]) ∧ AR (ctx (w.alloc (.cells vs ty)) ⟨fun j => if j = h.length then w.heap.size else g.β j, g.cur⟩ (h ++ [.box ty cs])) (.ptr h.length 0) (.pointer (some ⟨w.heap.size, 0, none⟩)) := by
  have hb : ∀ D, D ≤ w.heap.size → Below D w (w.alloc (.cells vs ty)) := fun D hD => (Below.refl D w).alloc hD _
  have hβ : ∀ j, j < h.length → (if j = h.length then w.heap.size else g.β j) = g.β j := fun j hj => if_neg (by omega)
  have hk : ∀ b, (Ob.box ty cs).blk ⟨fun j => if j = h.length then w.heap.size else g.β j, g.cur⟩ h.length = some b → w.heap.size ≤ b := fun b hb => by
    simp [Ob.blk] at hb; omega
  have hl := Le.more (g := g) (g' := ⟨fun j => if j = h.length then w.heap.size else g.β j, g.cur⟩) (o := .box ty cs) (hb _ (Nat.le_refl _)) hβ (fun _ _ => rfl) hk
  refine ⟨⟨hh.more (hb _ (Nat.le_refl _)) hβ (fun _ _ => rfl) hk hl ⟨by simp [ctx]; exact hB, vs, ?_, ARs.le hl _ _ hn⟩, hl, hb _ hB, by simp; omega⟩, ⟨.box ty cs, by simp, rfl⟩, by simp [ctx]⟩
  simp only [ctx, if_true]
  exact heap_alloc_new w _
theorem more_row (hh : HOk B w g h) (hB : B ≤ w.heap.size) {ty e : Nat} (he : 0 < e) {xs : List (List AV)} (hx : ∀ x ∈ xs, x.length = e) {v' : Value} {cells : List Value} (st : Nat)
    (hb : Below w.heap.size w w') (hown : w'.ownsRow B ty e v' xs.length cells) (hn : ARs (ctx w g h) xs.flatten cells) (hbl : ∀ b, v'.ownBlock = some b → w.heap.size ≤ b) :
    Good B w g h w' ⟨g.β, fun j => if j = h.length then v' else g.cur j⟩ (h ++ [.row ty e xs st]) ∧ AR (ctx w' ⟨g.β, fun j => if j = h.length then v' else g.cur j⟩ (h ++ [.row ty e xs st])) (.tl h.length st) v' := by
  have hc : ∀ j, j < h.length → (if j = h.length then v' else g.cur j) = g.cur j := fun j hj => if_neg (by omega)
  have hk : ∀ b, (Ob.row ty e xs st).blk ⟨g.β, fun j => if j = h.length then v' else g.cur j⟩ h.length = some b → w.heap.size ≤ b := fun b hb => by
    simp only [Ob.blk, if_true] at hb; exact hbl b hb
  have hl := Le.more (g := g) (g' := ⟨g.β, fun j => if j = h.length then v' else g.cur j⟩) (o := .row ty e xs st) hb (fun _ _ => rfl) hc hk
  obtain ⟨A, cp, e1, _⟩ := owns_slice hown
  refine ⟨⟨hh.more hb (fun _ _ => rfl) hc hk hl ⟨he, hx, cells, ?_, ARs.le hl _ _ hn⟩, hl, hb.mono hB, Nat.le_trans hB hb.size⟩, ⟨A, _, cp, e1⟩, ⟨.row ty e xs st, by simp, rfl⟩, fun s hs => ?_⟩
  · simp only [ctx, if_true]; exact hown
  · simp [ctx, Ob.tok] at hs
    subst hs
    exact ⟨Nat.le_refl _, fun _ => by simp [ctx]⟩
/-- What was nothing yet is made. -/
theorem make_at (hh : HOk B w g h) (hB : B ≤ w.heap.size) {i : Nat} (hi : h[i]? = some .res) {o : Ob} (hr : o.isRes = false) (hb : Below w.heap.size w w') (hβ : ∀ j, j ≠ i → g'.β j = g.β j) (hc : ∀ j, j ≠ i → g'.cur j = g.cur j)
    (hbl : ∀ b, o.blk g' i = some b → w.heap.size ≤ b) (ho : Le (ctx w g h) (ctx w' g' (h.set i o)) → o.ok B w' (ctx w' g' (h.set i o)) i) : Good B w g h w' g' (h.set i o) := by
  have hg : w.grownBy w' ((Ob.res).blk g i) := ⟨hb.os, hb.tape, hb.output, hb.size, fun k hk _ => hb.block k hk⟩
  have hl := Le.turn (g' := g') (o' := o) hi hr hg hβ hc (fun b hb => .inr (hbl b hb)) (fun h => by cases h)
  exact ⟨hh.turn hi hg hβ hc (fun b hb => .inr (hbl b hb)) hl (ho hl), hl, hb.mono hB, Nat.le_trans hB hb.size⟩
theorem box_at (hh : HOk B w g h) (hB : B ≤ w.heap.size) {i : Nat} (hi : h[i]? = some .res) {ty : TypeId} {cs : List AV} {vs : Array Value} (hn : ARs (ctx w g h) cs vs.toList) :
    Good B w g h (w.alloc (.cells vs ty)) ⟨fun j => if j = i then w.heap.size else g.β j, g.cur⟩ (h.set i (.box ty cs)) ∧ AR (ctx (w.alloc (.cells vs ty)) ⟨fun j => if j = i then w.heap.size else g.β j, g.cur⟩ (h.set i (.box ty cs))) (.ptr i 0) (.pointer (some ⟨w.heap.size, 0, none⟩)) := by
  refine ⟨make_at hh hB hi rfl ((Below.refl _ w).alloc (Nat.le_refl _) _) (fun j hj => if_neg hj) (fun _ _ => rfl) (fun b hb => ?_) (fun hl => ⟨?_, vs, ?_, ARs.le hl _ _ hn⟩), ⟨.box ty cs, List.getElem?_set_self (get_lt hi), rfl⟩, by simp [ctx]⟩
  · simp [Ob.blk] at hb; omega
  · simp [ctx]; exact hB
  · simp only [ctx, if_true]; exact heap_alloc_new w _
theorem row_at (hh : HOk B w g h) (hB : B ≤ w.heap.size) {i : Nat} (hi : h[i]? = some .res) {ty e : Nat} (he : 0 < e) {xs : List (List AV)} (hx : ∀ x ∈ xs, x.length = e) {v' : Value} {cells : List Value} (st : Nat)
    (hb : Below w.heap.size w w') (hown : w'.ownsRow B ty e v' xs.length cells) (hn : ARs (ctx w g h) xs.flatten cells) (hbl : ∀ b, v'.ownBlock = some b → w.heap.size ≤ b) :
    Good B w g h w' ⟨g.β, fun j => if j = i then v' else g.cur j⟩ (h.set i (.row ty e xs st)) ∧ AR (ctx w' ⟨g.β, fun j => if j = i then v' else g.cur j⟩ (h.set i (.row ty e xs st))) (.tl i st) v' := by
  obtain ⟨A, cp, e1, _⟩ := owns_slice hown
  refine ⟨make_at hh hB hi rfl hb (fun _ _ => rfl) (fun j hj => if_neg hj) (fun b hb => ?_) (fun hl => ⟨he, hx, cells, ?_, ARs.le hl _ _ hn⟩), ⟨A, _, cp, e1⟩, ⟨.row ty e xs st, List.getElem?_set_self (get_lt hi), rfl⟩, fun s hs => ?_⟩
  · simp only [Ob.blk, if_true] at hb; exact hbl b hb
  · simp only [ctx, if_true]; exact hown
  · simp [ctx, Ob.tok, List.getElem?_set_self (get_lt hi)] at hs
    subst hs
    exact ⟨Nat.le_refl _, fun _ => by simp [ctx]⟩
/-! Maps. -/
theorem more_map (hh : HOk B w g h) (hB : B ≤ w.heap.size) :
    Good B w g h (w.alloc (.map #[] 0)) ⟨fun j => if j = h.length then w.heap.size else g.β j, g.cur⟩ (h ++ [.mapo []]) ∧ AR (ctx (w.alloc (.map #[] 0)) ⟨fun j => if j = h.length then w.heap.size else g.β j, g.cur⟩ (h ++ [.mapo []])) (.mp h.length) (.map (some w.heap.size)) := by
  have hb : ∀ D, D ≤ w.heap.size → Below D w (w.alloc (.map #[] 0)) := fun D hD => (Below.refl D w).alloc hD _
  have hβ : ∀ j, j < h.length → (if j = h.length then w.heap.size else g.β j) = g.β j := fun j hj => if_neg (by omega)
  have hk : ∀ b, (Ob.mapo []).blk ⟨fun j => if j = h.length then w.heap.size else g.β j, g.cur⟩ h.length = some b → w.heap.size ≤ b := fun b hb => by
    simp [Ob.blk] at hb; omega
  have hl := Le.more (g := g) (g' := ⟨fun j => if j = h.length then w.heap.size else g.β j, g.cur⟩) (o := .mapo []) (hb _ (Nat.le_refl _)) hβ (fun _ _ => rfl) hk
  refine ⟨⟨hh.more (hb _ (Nat.le_refl _)) hβ (fun _ _ => rfl) hk hl ⟨by simp [ctx]; exact hB, #[], 0, [], ?_, List.Perm.refl _, rfl, List.nodup_nil⟩, hl, hb _ hB, by simp; omega⟩, ⟨.mapo [], by simp, rfl⟩, by simp [ctx]⟩
  simp only [ctx, if_true]
  exact heap_alloc_new w _
theorem map_at (hh : HOk B w g h) (hB : B ≤ w.heap.size) {i : Nat} (hi : h[i]? = some .res) :
    Good B w g h (w.alloc (.map #[] 0)) ⟨fun j => if j = i then w.heap.size else g.β j, g.cur⟩ (h.set i (.mapo [])) ∧ AR (ctx (w.alloc (.map #[] 0)) ⟨fun j => if j = i then w.heap.size else g.β j, g.cur⟩ (h.set i (.mapo []))) (.mp i) (.map (some w.heap.size)) := by
  refine ⟨make_at hh hB hi rfl ((Below.refl _ w).alloc (Nat.le_refl _) _) (fun j hj => if_neg hj) (fun _ _ => rfl) (fun b hb => ?_) (fun hl => ⟨?_, #[], 0, [], ?_, List.Perm.refl _, rfl, List.nodup_nil⟩), ⟨.mapo [], List.getElem?_set_self (get_lt hi), rfl⟩, by simp [ctx]⟩
  · simp [Ob.blk] at hb; omega
  · simp [ctx]; exact hB
  · simp only [ctx, if_true]; exact heap_alloc_new w _
theorem grownBy_setMap (w : World) (b : Nat) (o : Obj) : w.grownBy { w with heap := w.heap.setIfInBounds b o } (some b) :=
  ⟨rfl, rfl, rfl, by simp, fun k _ hk => Array.getElem?_setIfInBounds_ne (fun e => hk (by rw [e]))⟩
/-- A map turns. -/
theorem turn_map (hh : HOk B w g h) (hB : B ≤ w.heap.size) {id : Nat} {l l2 l' : List (AV × AV)} (ho : h[id]? = some (.mapo l)) {es' : Array MapEntry} {k' : Nat} (hp : l2.Perm l') (hn : MapRel (ctx w g h) l2 es'.toList) (hd : (es'.toList.map (·.key)).Nodup) :
    Good B w g h { w with heap := w.heap.setIfInBounds (g.β id) (.map es' k') } g (h.set id (.mapo l')) := by
  have hg := grownBy_setMap w (g.β id) (.map es' k')
  have hl := Le.turn (g' := g) (o' := .mapo l') ho rfl hg (fun _ _ => rfl) (fun _ _ => rfl) (fun b hb => .inl hb) (fun _ => ⟨rfl, fun s hs => by cases hs⟩)
  obtain ⟨h1, es, k, l0, h2, h3, h4, _⟩ := hh.ok id _ ho
  have hlt : g.β id < w.heap.size := (Array.getElem?_eq_some_iff.1 h2).1
  refine ⟨hh.turn ho hg (fun _ _ => rfl) (fun _ _ => rfl) (fun b hb => .inl hb) hl ⟨h1, es', k', l2, ?_, hp, MapRel.le hl _ _ hn, hd⟩, hl, ?_, by simpa using hB⟩
  · show ({ w with heap := w.heap.setIfInBounds (g.β id) (.map es' k') } : World).heap[g.β id]? = _
    simp [hlt]
  · exact (Below.refl B w).grown hg hB fun k hk => by injection hk with hk; subst hk; exact h1
end
end Go.Proofs.YtpdghiplnlhnfaaGreat.Ax
