/-
  Joined: SortP, Sort. Nothing is proved here of a statement.
-/
import Derived.Test.YtpdghiplnlhnfaaGreatMG
namespace Go.Proofs.YtpdghiplnlhnfaaGreat.Ax
set_option linter.unusedSimpArgs false
set_option linter.unusedVariables false
open Go Go.Proofs
instance : Inhabited Ev := ⟨⟨0, 0, 0, 0, 0, 0, 0, 0, 0, 0, 0⟩⟩
/-- a is ahead of b. -/
def ltE (a b : Ev) : Bool := decide (cmpE a b < 0)
theorem ltE_iff (a b : Ev) : ltE a b = true ↔ (a.at_ < b.at_ ∨ (a.at_ = b.at_ ∧ a.id < b.id)) := by
  simp only [ltE, decide_eq_true_eq]
  unfold cmpE cmpI orI orI orI
  by_cases h1 : a.at_ < b.at_
  · rw [if_pos h1]; simp [h1]
  · rw [if_neg h1]
    by_cases h2 : a.at_ > b.at_
    · rw [if_pos h2]; simp; omega
    · rw [if_neg h2]
      by_cases h3 : a.id < b.id
      · rw [if_pos h3]; simp; omega
      · rw [if_neg h3]
        split <;> simp <;> omega
theorem ltE_not (a b : Ev) : ltE a b = false ↔ ¬ (a.at_ < b.at_ ∨ (a.at_ = b.at_ ∧ a.id < b.id)) := by
  rw [← ltE_iff, Bool.not_eq_true]
/-- Two lists in one, of like ones the first one's first. -/
def mergeE : List Ev → List Ev → List Ev
  | [], b => b
  | a, [] => a
  | x :: a, y :: b => if ltE y x then y :: mergeE (x :: a) b else x :: mergeE a (y :: b)
termination_by a b => a.length + b.length
theorem mergeE_nil (b : List Ev) : mergeE [] b = b := by rw [mergeE]
theorem mergeE_nil2 (a : List Ev) : mergeE a [] = a := by cases a <;> simp [mergeE]
theorem mergeE_cons (x y : Ev) (a b : List Ev) : mergeE (x :: a) (y :: b) = if ltE y x then y :: mergeE (x :: a) b else x :: mergeE a (y :: b) := by rw [mergeE]
def insE (x : Ev) : List Ev → List Ev
  | [] => [x]
  | y :: b => if ltE y x then y :: insE x b else x :: y :: b
/-- The list sorted; like ones keep their order. -/
def stabE : List Ev → List Ev
  | [] => []
  | x :: l => insE x (stabE l)
theorem insE_len (x : Ev) : ∀ l, (insE x l).length = l.length + 1
  | [] => rfl
  | y :: l => by
    simp only [insE]
    split
    · simp [insE_len x l]
    · simp
theorem stabE_len : ∀ l, (stabE l).length = l.length
  | [] => rfl
  | x :: l => by simp [stabE, insE_len, stabE_len l]
theorem merge_one (x : Ev) : ∀ b, mergeE [x] b = insE x b
  | [] => by simp [mergeE, insE]
  | y :: b => by
    rw [mergeE_cons, insE, mergeE_nil]
    split
    · rw [merge_one x b]
    · rfl
theorem insE_cons (x y : Ev) (b : List Ev) : insE x (y :: b) = if ltE y x then y :: insE x b else x :: y :: b := rfl
theorem merge_insE (x : Ev) : ∀ (a b : List Ev), mergeE (insE x a) b = insE x (mergeE a b)
  | [], b => by rw [mergeE_nil, insE, merge_one]
  | s :: a, [] => by rw [mergeE_nil2, mergeE_nil2]
  | s :: a, t :: b => by
    rw [insE_cons]
    by_cases h1 : ltE s x
    · rw [if_pos h1, mergeE_cons, mergeE_cons]
      by_cases h2 : ltE t s
      · rw [if_pos h2, if_pos h2, insE_cons, if_pos (by rw [ltE_iff] at *; omega)]
        have := merge_insE x (s :: a) b
        rw [insE_cons, if_pos h1] at this
        rw [this]
      · rw [if_neg h2, if_neg h2, insE_cons, if_pos h1, merge_insE x a (t :: b)]
    · rw [if_neg h1, mergeE_cons]
      by_cases h2 : ltE t x
      · have h3 : ltE t s = true := by
          rw [Bool.not_eq_true, ltE_not] at h1
          rw [ltE_iff] at *; omega
        rw [if_pos h2, mergeE_cons, if_pos h3, insE_cons, if_pos h2]
        have := merge_insE x (s :: a) b
        rw [insE_cons, if_neg h1] at this
        rw [this]
      · rw [if_neg h2, mergeE_cons]
        split
        · rw [insE_cons, if_neg h2]
        · rw [insE_cons, if_neg h1]
termination_by a b => a.length + b.length
theorem merge_stab (b : List Ev) : ∀ a, mergeE (stabE a) (stabE b) = stabE (a ++ b)
  | [] => by rw [stabE, mergeE_nil, List.nil_append]
  | x :: a => by rw [stabE, merge_insE, merge_stab b a, List.cons_append, stabE]
/-- No one is ahead of one before it. -/
def Srt : List Ev → Prop
  | [] => True
  | x :: l => (∀ y ∈ l, ltE y x = false) ∧ Srt l
theorem mem_insE {x z : Ev} : ∀ {l : List Ev}, z ∈ insE x l ↔ z = x ∨ z ∈ l
  | [] => by simp [insE]
  | y :: l => by
    rw [insE_cons]
    split
    · simp only [List.mem_cons, mem_insE (l := l)]
      constructor <;> (rintro (h | h | h) <;> simp [h])
    · simp
theorem insE_srt (x : Ev) : ∀ {l : List Ev}, Srt l → Srt (insE x l)
  | [], _ => ⟨fun y h => (by cases h), trivial⟩
  | y :: l, ⟨h1, h2⟩ => by
    rw [insE_cons]
    split
    · rename_i h
      refine ⟨fun z hz => ?_, insE_srt x h2⟩
      rcases mem_insE.1 hz with rfl | hz
      · rw [ltE_not]; rw [ltE_iff] at h; omega
      · exact h1 z hz
    · rename_i h
      refine ⟨fun z hz => ?_, h1, h2⟩
      rw [Bool.not_eq_true] at h
      rcases List.mem_cons.1 hz with rfl | hz
      · exact h
      · have := h1 z hz
        rw [ltE_not] at *; omega
theorem stabE_srt : ∀ l, Srt (stabE l)
  | [] => trivial
  | x :: l => insE_srt x (stabE_srt l)
theorem mem_stabE {z : Ev} : ∀ {l : List Ev}, z ∈ stabE l ↔ z ∈ l
  | [] => by simp [stabE]
  | x :: l => by rw [stabE, mem_insE, mem_stabE, List.mem_cons]
theorem srt_app {a b : List Ev} : Srt (a ++ b) ↔ Srt a ∧ Srt b ∧ ∀ x ∈ a, ∀ y ∈ b, ltE y x = false := by
  induction a with
  | nil => simp [Srt]
  | cons x a ih =>
    rw [List.cons_append, Srt, ih, Srt]
    constructor
    · rintro ⟨h1, h2, h3, h4⟩
      refine ⟨⟨fun y hy => h1 y (List.mem_append_left _ hy), h2⟩, h3, fun z hz y hy => ?_⟩
      rcases List.mem_cons.1 hz with rfl | hz
      · exact h1 y (List.mem_append_right _ hy)
      · exact h4 z hz y hy
    · rintro ⟨⟨h1, h2⟩, h3, h4⟩
      refine ⟨fun y hy => ?_, h2, h3, fun z hz y hy => h4 z (List.mem_cons_of_mem _ hz) y hy⟩
      rcases List.mem_append.1 hy with hy | hy
      · exact h1 y hy
      · exact h4 x List.mem_cons_self y hy
theorem merge_len (a b : List Ev) : (mergeE a b).length = a.length + b.length := by
  induction a, b using mergeE.induct with
  | case1 b => simp [mergeE]
  | case2 a h => rw [mergeE_nil2]; simp
  | case3 x a y b h ih => rw [mergeE_cons, if_pos h]; simp only [List.length_cons] at *; omega
  | case4 x a y b h ih => rw [mergeE_cons, if_neg h]; simp only [List.length_cons] at *; omega
/-- Everything of the first stands ahead. -/
theorem merge_lo : ∀ (a b c : List Ev), (∀ x ∈ a, ∀ y ∈ b, ltE y x = false) → mergeE a b = a ++ b
  | [], b, _, _ => by rw [mergeE_nil, List.nil_append]
  | x :: a, [], _, _ => by rw [mergeE_nil2, List.append_nil]
  | x :: a, y :: b, c, h => by
    rw [mergeE_cons, if_neg (by rw [h x List.mem_cons_self y List.mem_cons_self]; simp), merge_lo a (y :: b) c fun z hz => h z (List.mem_cons_of_mem _ hz), List.cons_append]
/-- Lists whose halves lie apart. -/
theorem merge_split {a1 a2 b1 b2 : List Ev} (h1 : ∀ x ∈ a1, ∀ y ∈ b2, ltE y x = false) (h2 : ∀ x ∈ a2, ∀ y ∈ b1, ltE y x = true) : mergeE (a1 ++ a2) (b1 ++ b2) = mergeE a1 b1 ++ mergeE a2 b2 := by
  induction a1, b1 using mergeE.induct with
  | case1 b =>
    rw [mergeE_nil, List.nil_append]
    induction b with
    | nil => rfl
    | cons y b ih =>
      cases a2 with
      | nil => rw [mergeE_nil, mergeE_nil]
      | cons x a =>
        rw [List.cons_append, mergeE_cons, if_pos (h2 x List.mem_cons_self y List.mem_cons_self), ih (fun z hz w hw => h2 z hz w (List.mem_cons_of_mem _ hw)), List.cons_append]
  | case2 a h =>
    rw [mergeE_nil2, List.nil_append]
    clear h h2
    induction a with
    | nil => rfl
    | cons x a ih =>
      cases b2 with
      | nil => rw [mergeE_nil2, mergeE_nil2]
      | cons y b =>
        rw [List.cons_append, mergeE_cons, if_neg (by rw [h1 x List.mem_cons_self y List.mem_cons_self]; simp), ih (fun z hz => h1 z (List.mem_cons_of_mem _ hz)), List.cons_append]
  | case3 x a y b h ih =>
    rw [List.cons_append, List.cons_append, mergeE_cons, mergeE_cons, if_pos h, if_pos h, ← List.cons_append, ih h1 (fun z hz w hw => h2 z hz w (List.mem_cons_of_mem _ hw)), List.cons_append]
  | case4 x a y b h ih =>
    rw [List.cons_append, List.cons_append, mergeE_cons, mergeE_cons, if_neg h, if_neg h, ← List.cons_append, ih (fun z hz => h1 z (List.mem_cons_of_mem _ hz)) h2, List.cons_append]
/-- One more behind: it stands behind all that it is not ahead of. -/
theorem merge_last {a1 a2 : List Ev} {x : Ev} (h1 : ∀ y ∈ a1, ltE x y = false) (h2 : ∀ y ∈ a2, ltE x y = true) : mergeE (a1 ++ a2) [x] = a1 ++ x :: a2 := by
  have := merge_split (a1 := a1) (a2 := a2) (b1 := [x]) (b2 := []) (by simp) (by simpa using h2)
  rw [List.append_nil] at this
  rw [this, mergeE_nil2, merge_lo a1 [x] [] (by simpa using h1)]
  simp
/-- One more ahead. -/
theorem merge_first {b1 b2 : List Ev} {x : Ev} (h1 : ∀ y ∈ b1, ltE y x = true) (h2 : ∀ y ∈ b2, ltE y x = false) : mergeE [x] (b1 ++ b2) = b1 ++ x :: b2 := by
  have := merge_split (a1 := []) (a2 := [x]) (b1 := b1) (b2 := b2) (by simp) (by simpa using h1)
  rw [List.nil_append] at this
  rw [this, mergeE_nil, merge_lo [x] b2 [] (by simpa using h2)]
  simp
theorem stab_last {l : List Ev} {x : Ev} : stabE (l ++ [x]) = mergeE (stabE l) [x] := by rw [← merge_stab, show stabE [x] = [x] from rfl]
theorem srt_last {a : List Ev} {x z : Ev} (h : Srt (a ++ [x])) (hz : ltE z x = false) : ∀ y ∈ a ++ [x], ltE z y = false := by
  intro y hy
  rcases List.mem_append.1 hy with h2 | h2
  · have h3 := (srt_app.1 h).2.2 y h2 x (by simp)
    rw [ltE_not] at *; omega
  · rw [List.mem_singleton.1 h2]; exact hz
theorem srt_last2 {a : List Ev} {x z : Ev} (h : Srt (a ++ [x])) (hz : ltE x z = true) : ∀ y ∈ a ++ [x], ltE y z = true := by
  intro y hy
  rcases List.mem_append.1 hy with h2 | h2
  · have h3 := (srt_app.1 h).2.2 y h2 x (by simp)
    rw [ltE_not] at *; rw [ltE_iff] at *; omega
  · rw [List.mem_singleton.1 h2]; exact hz
theorem srt_head {a : List Ev} {x z : Ev} (h : Srt (x :: a)) (hz : ltE x z = false) : ∀ y ∈ x :: a, ltE y z = false := by
  intro y hy
  rcases List.mem_cons.1 hy with rfl | h2
  · exact hz
  · have h3 := h.1 y h2
    rw [ltE_not] at *; omega
theorem srt_head2 {a : List Ev} {x z : Ev} (h : Srt (x :: a)) (hz : ltE z x = true) : ∀ y ∈ x :: a, ltE z y = true := by
  intro y hy
  rcases List.mem_cons.1 hy with rfl | h2
  · exact hz
  · have h3 := h.1 y h2
    rw [ltE_not] at h3; rw [ltE_iff] at *; omega
/-- Two rows of a list change places. -/
theorem set_two {a b c : List Ev} {x y : Ev} {i j : Nat} (hi : i = a.length) (hj : j = a.length + 1 + b.length) : ((a ++ x :: (b ++ y :: c)).set i y).set j x = a ++ y :: (b ++ x :: c) := by
  subst hi hj
  rw [List.set_append_right _ _ (Nat.le_refl _), Nat.sub_self, List.set_cons_zero, List.set_append_right _ _ (by omega), show a.length + 1 + b.length - a.length = b.length + 1 by omega, List.set_cons_succ, List.set_append_right _ _ (Nat.le_refl _), Nat.sub_self, List.set_cons_zero]
theorem get_a {a c : List Ev} {x : Ev} {i : Nat} (hi : i = a.length) : (a ++ x :: c)[i]? = some x := by
  subst hi
  rw [List.getElem?_append_right (Nat.le_refl _), Nat.sub_self]; rfl
/-- The row in blocks of so many, each sorted. -/
def blkE (n : Nat) (l : List Ev) : List Ev := if h : l.length ≤ n ∨ n = 0 then stabE l else stabE (l.take n) ++ blkE n (l.drop n)
termination_by l.length
decreasing_by simp only [List.length_drop]; omega
theorem blkE_len (n : Nat) (l : List Ev) : (blkE n l).length = l.length := by
  induction l using blkE.induct n with
  | case1 l h => rw [blkE, dif_pos h, stabE_len]
  | case2 l h ih => rw [blkE, dif_neg h, List.length_append, stabE_len, ih]; simp only [List.length_take, List.length_drop]; omega
theorem blkE_le {n : Nat} {l : List Ev} (h : l.length ≤ n) : blkE n l = stabE l := by rw [blkE, dif_pos (.inl h)]
theorem blkE_app {n : Nat} {a l : List Ev} (ha : a.length = n) (hn : 0 < n) : blkE n (a ++ l) = stabE a ++ blkE n l := by
  cases l with
  | nil => rw [List.append_nil, blkE_le (by omega), blkE_le (by simp), stabE, List.append_nil]
  | cons x l =>
    rw [blkE, dif_neg (by simp only [List.length_append, List.length_cons]; omega)]
    subst ha
    rw [List.take_left, List.drop_left]
end Go.Proofs.YtpdghiplnlhnfaaGreat.Ax

namespace Go.Proofs.YtpdghiplnlhnfaaGreat.Ax
set_option linter.unusedSimpArgs false
set_option linter.unusedVariables false
open Go Go.Proofs
set_option maxRecDepth 100000
set_option linter.unusedSimpArgs false
set_option linter.unusedVariables false
attribute [go_sem] ty31 ty61 ty3
abbrev evRow (l : List Ev) (st : Nat) : Ob := .row 61 11 (l.map evC) st
theorem row_get {l : List Ev} {i : Nat} {x : Ev} (h : l[i]? = some x) : (l.map evC)[i]? = some (evC x) := by
  rw [List.getElem?_map, h]; rfl
theorem lay_full : ∀ (q ns : List AV), q.length = ns.length → lay q 0 ns = some ns
  | [], [], _ => rfl
  | a :: q, n :: ns, h => by
    simp only [lay]
    rw [lay_full q ns (by simpa using h)]
    rfl
  | [], _ :: _, h => by cases h
  | _ :: _, [], h => by cases h
/-- A row that another one's write leaves whole. -/
theorem row_set {l : List Ev} {i j : Nat} (e : Ev) (hj : j < l.length) : ∃ q, ((l.map evC).set i (evC e))[j]? = some q ∧ ∀ ns : List AV, ns.length = 11 → lay q 0 ns = some ns := by
  by_cases hij : i = j
  · subst hij
    exact ⟨evC e, List.getElem?_set_self (by simpa using hj), fun ns h => lay_full _ _ h.symm⟩
  · rw [List.getElem?_set_ne hij]
    exact ⟨_, row_get (List.getElem?_eq_getElem hj), fun ns h => lay_full _ _ h.symm⟩
theorem swap_rows {a b c : List Ev} {x y : Ev} {i j : Nat} {l : List Ev} (hl : l = a ++ x :: (b ++ y :: c)) (hi : i = a.length) (hj : j = a.length + 1 + b.length) : ((l.map evC).set i (evC y)).set j (evC x) = (a ++ y :: (b ++ x :: c)).map evC := by
  rw [← set_two hi hj, hl, List.map_set, List.map_set]
theorem swap_rows2 {a b c : List Ev} {x y : Ev} {i j : Nat} {l : List Ev} (hl : l = a ++ x :: (b ++ y :: c)) (hi : i = a.length) (hj : j = a.length + 1 + b.length) : ((l.map evC).set j (evC x)).set i (evC y) = (a ++ y :: (b ++ x :: c)).map evC := by
  rw [List.set_comm _ _ (by omega), swap_rows hl hi hj]
theorem wr_add {a b : Nat} (h : a + b < 4611686018427387904) : wr ((a : Int) + (b : Int)) = ((a + b : Nat) : Int) := by rw [wr_fit (by unfold Fit; omega)]; rfl
theorem wr_sub {a b : Nat} (h : b ≤ a) (h2 : a < 4611686018427387904) : wr ((a : Int) - (b : Int)) = ((a - b : Nat) : Int) := by rw [wr_fit (by unfold Fit; omega)]; omega
theorem wr_pred {a : Nat} (h : 1 ≤ a) (h2 : a < 4611686018427387904) : wr ((a : Int) - 1) = ((a - 1 : Nat) : Int) := wr_sub (b := 1) h h2
theorem t_succ {k m : Nat} (h : k < 4611686018427387904) (hm : m = k + 1) : AV.v (.int .i64 (IntKind.wrap .i64 ((k : Int) + 1))) = i64 (m : Int) := by
  rw [show IntKind.wrap .i64 ((k : Int) + 1) = ((k + 1 : Nat) : Int) from wr_succ h, hm]
theorem dlt {a b : Nat} (e : decide ((a : Int) < (b : Int)) = true) : a < b := by simpa using e
theorem dnlt {a b : Nat} (e : decide ((a : Int) < (b : Int)) = false) : b ≤ a := by simpa using e
theorem key_ins {l U V : List Ev} {x : Ev} (h : stabE l = U ++ V) (hV : ∀ y ∈ V, ltE x y = true) (hU : ∀ y ∈ U, ltE x y = false) : stabE (l ++ [x]) = U ++ x :: V := by
  rw [stab_last, h, merge_last hU hV]
theorem c137 (h : List Ob) (id st a b n : Nat) (P X M Y Q : List Ev) (f : AV) (hi : h[id]? = some (evRow (P ++ (X ++ (M ++ (Y ++ Q)))) st)) (ha : a = P.length) (hb : b = P.length + X.length + M.length) (hX : X.length = n) (hY : Y.length = n) (hl : P.length + X.length + M.length + Y.length < 1099511627776) :
    ACalls Tryz.prog 177 [.tl id st, i64 a, i64 b, i64 n, f] h fun r h' => r = .tup [] ∧ h' = h.set id (evRow (P ++ (Y ++ (M ++ (X ++ Q)))) st) := by
  refine acalls_wp Tryz.f177 [] 38 rfl rfl rfl rfl rfl rfl (by decide) (⟨_, _, ⟨rfl, rfl⟩, resK_set hi rfl⟩) fun B => ?_
  simp only [go_sem]
  refine wp_loop_a (by decide) (fun m T h' => ∃ X1 X2 Y1 Y2, X = X1 ++ X2 ∧ Y = Y1 ++ Y2 ∧ X1.length = Y1.length ∧ h' = h.set id (evRow (P ++ (Y1 ++ (X2 ++ (M ++ (X1 ++ (Y2 ++ Q)))))) st) ∧ T 0 = .tl id st ∧ T 1 = i64 a ∧ T 2 = i64 b ∧ T 3 = i64 n ∧ T 10 = i64 X1.length ∧ m = X2.length) n
    ⟨[], X, [], Y, rfl, rfl, rfl, by rw [List.nil_append, List.nil_append, set_self hi], by simp only [go_sem], by simp only [go_sem], by simp only [go_sem], by simp only [go_sem], by (simp only [go_sem] <;> rfl), hX.symm⟩ ?_
  rintro m T h' ⟨X1, X2, Y1, Y2, rfl, rfl, h12, rfl, t0, t1, t2, t3, t10, rfl⟩
  simp only [go_sem, t10, t3]
  refine ways (fun e => ?_) (fun e => ?_)
  · have hlt : X1.length < n := by simpa using e
    cases X2 with
    | nil => simp at hX; omega
    | cons x X3 =>
    cases Y2 with
    | nil => simp at hY; omega
    | cons y Y3 =>
    simp only [List.length_append, List.length_cons] at hX hY hb hl
    have hg : ∀ o, (h.set id o)[id]? = some o := fun o => get_set_same hi
    obtain ⟨l, hl2⟩ : ∃ l, l = P ++ (Y1 ++ (x :: X3 ++ (M ++ (X1 ++ (y :: Y3 ++ Q))))) := ⟨_, rfl⟩
    have hl3 : l = (P ++ Y1) ++ x :: ((X3 ++ (M ++ X1)) ++ y :: (Y3 ++ Q)) := by rw [hl2]; simp
    have hlen : l.length = P.length + Y1.length + 1 + X3.length + M.length + X1.length + 1 + Y3.length + Q.length := by rw [hl3]; simp; omega
    have i1 : a + X1.length = (P ++ Y1).length := by simp; omega
    have i2 : b + X1.length = (P ++ Y1).length + 1 + (X3 ++ (M ++ X1)).length := by simp; omega
    have ra : (l.map evC)[a + X1.length]? = some (evC x) := row_get (by rw [hl3]; exact get_a i1)
    have rb : (l.map evC)[b + X1.length]? = some (evC y) := row_get (by
      rw [hl3, show (P ++ Y1) ++ x :: ((X3 ++ (M ++ X1)) ++ y :: (Y3 ++ Q)) = ((P ++ Y1) ++ x :: (X3 ++ (M ++ X1))) ++ y :: (Y3 ++ Q) by simp]
      exact get_a (by rw [i2]; simp; omega))
    have la : ((a + X1.length : Nat) : Int) < ((l.length : Nat) : Int) := by omega
    have lb : ((b + X1.length : Nat) : Int) < ((l.length : Nat) : Int) := by omega
    have wa := wr_add (a := a) (b := X1.length) (by omega)
    have wb := wr_add (a := b) (b := X1.length) (by omega)
    obtain ⟨q, q1, q2⟩ := row_set (l := l) (i := a + X1.length) (j := b + X1.length) y (by omega)
    have sw := swap_rows hl3 i1 i2
    rw [← hl2]
    simp only [go_sem]
    refine wp_draw rfl [] 0 [(0, 0, []), (1, 0, []), (2, 0, []), (3, 0, []), (4, 0, []), (5, 0, []), (6, 0, []), (7, 0, []), (8, 0, []), (9, 0, []), (10, 0, []), (11, 0, []), (14, 0, []), (15, 0, []), (16, 0, []), (17, 0, []), (12, 0, []), (13, 0, []), (18, 0, []), (19, 0, []), (20, 0, []), (21, 0, []), (22, 0, []), (23, 0, [])] rfl (by decide) (by decide) ?_
    simp only [go_sem, t1, t2, t10, t0, hg, ra, rb, q1, q2, la, lb, wa, wb, List.length_map, Int.toNat_natCast, Int.natCast_nonneg, List.set_set]
    refine ⟨X3.length, by simp, X1 ++ [x], X3, Y1 ++ [y], Y3, by simp, by simp, by simp [h12], ?_, t3, ?_, rfl⟩
    · rw [sw]; exact congrArg (fun l => h.set id (evRow l st)) (by simp)
    · exact t_succ (by omega) (by simp)
  · have hlt : ¬ X1.length < n := by simpa using e
    have : X2 = [] := List.eq_nil_of_length_eq_zero (by simp at hX; omega)
    subst this
    have : Y2 = [] := List.eq_nil_of_length_eq_zero (by simp at hY hX; omega)
    subst this
    simp only [go_sem]
    exact ⟨.tup [], by simp only [go_sem], .inl ⟨rfl, by simp⟩⟩
theorem c129 (h : List Ob) (id st a m b : Nat) (P A D Q : List Ev) (f : AV) (hi : h[id]? = some (evRow (P ++ (A ++ (D ++ Q))) st)) (ha : a = P.length) (hm : m = P.length + A.length) (hb : b = P.length + A.length + D.length) (hA : 0 < A.length) (hB : 0 < D.length) (hl : P.length + A.length + D.length < 1099511627776) :
    ACalls Tryz.prog 169 [.tl id st, i64 a, i64 m, i64 b, f] h fun r h' => r = .tup [] ∧ h' = h.set id (evRow (P ++ (D ++ (A ++ Q))) st) := by
  have w1 : wr ((m : Int) - (a : Int)) = (A.length : Int) := by rw [wr_sub (by omega) (by omega)]; omega
  have w2 : wr ((b : Int) - (m : Int)) = (D.length : Int) := by rw [wr_sub (by omega) (by omega)]; omega
  refine acalls_wp Tryz.f169 [] 58 rfl rfl rfl rfl rfl rfl (by decide) (⟨_, _, ⟨rfl, rfl⟩, resK_set hi rfl⟩) fun B => ?_
  simp only [go_sem, w1, w2]
  refine wp_loop_a (by decide) (fun n T h' => ∃ L A1 B1 R, P ++ (D ++ (A ++ Q)) = L ++ (B1 ++ (A1 ++ R)) ∧ L.length + A1.length = m ∧ 0 < A1.length ∧ 0 < B1.length ∧ L.length + A1.length + B1.length < 1099511627776 ∧ h' = h.set id (evRow (L ++ (A1 ++ (B1 ++ R))) st) ∧ T 0 = .tl id st ∧ T 2 = i64 m ∧ T 4 = f ∧ T 10 = i64 A1.length ∧ T 11 = i64 B1.length ∧ n = A1.length + B1.length) (A.length + D.length)
    ⟨P, A, D, Q, rfl, hm.symm, hA, hB, hl, by rw [set_self hi], by simp only [go_sem], by simp only [go_sem], by simp only [go_sem], by simp only [go_sem], by simp only [go_sem], rfl⟩ ?_
  rintro n T h' ⟨L, A1, B1, R, heq, hm1, hA1, hB1, hl1, rfl, t0, t2, t4, t10, t11, rfl⟩
  have hg : ∀ o, (h.set id o)[id]? = some o := fun o => get_set_same hi
  have w3 : wr ((m : Int) - (A1.length : Int)) = ((m - A1.length : Nat) : Int) := wr_sub (by omega) (by omega)
  simp only [go_sem, t10, t11]
  refine ways (fun e => ?_) (fun e => ?_)
  · simp only [go_sem, t10, t11]
    have hne : A1.length ≠ B1.length := fun k => by simp [k] at e
    refine ways (fun e2 => ?_) (fun e2 => ?_)
    · have hgt : B1.length < A1.length := by simpa using e2
      obtain ⟨A2, A3, hA2, hA3⟩ : ∃ A2 A3, A1 = A2 ++ A3 ∧ A2.length = B1.length := ⟨A1.take B1.length, A1.drop B1.length, (List.take_append_drop _ _).symm, by simp; omega⟩
      have w4 : wr ((A1.length : Int) - (B1.length : Int)) = ((A3.length : Nat) : Int) := by
        rw [wr_sub (by omega) (by omega), hA2, List.length_append]; omega
      have hlen : A1.length = A2.length + A3.length := by rw [hA2, List.length_append]
      simp only [go_sem, t0, t2, t4, t10, t11, w3]
      refine call_by (c137 _ id st _ _ _ L A2 A3 B1 R f (by rw [hg, hA2]; simp) (by omega) (by omega) hA3 rfl (by omega)) ?_
      rintro _ h1 ⟨rfl, e3⟩
      subst e3
      simp only [go_sem, t0, t2, t4, t10, t11, w4, List.set_set]
      refine ⟨A3.length + A2.length, by omega, L ++ B1, A3, A2, R, by rw [heq, hA2]; simp, by simp; omega, by omega, by omega, by simp; omega, by simp, rfl, by rw [hA3], rfl⟩
    · have hgt : A1.length < B1.length := by
        have : ¬ B1.length < A1.length := by simpa using e2
        omega
      obtain ⟨B2, B3, hB2, hB3⟩ : ∃ B2 B3, B1 = B2 ++ B3 ∧ B3.length = A1.length := ⟨B1.take (B1.length - A1.length), B1.drop (B1.length - A1.length), (List.take_append_drop _ _).symm, by simp; omega⟩
      have hlen : B1.length = B2.length + B3.length := by rw [hB2, List.length_append]
      have w4 : wr ((B1.length : Int) - (A1.length : Int)) = ((B2.length : Nat) : Int) := by
        rw [wr_sub (by omega) (by omega)]; omega
      have w5 : wr (wr ((m : Int) + (B1.length : Int)) - (A1.length : Int)) = ((m + B1.length - A1.length : Nat) : Int) := by
        rw [wr_add (by omega), wr_sub (by omega) (by omega)]
      simp only [go_sem, t0, t2, t4, t10, t11, w3, w5]
      refine call_by (c137 _ id st _ _ _ L A1 B2 B3 R f (by rw [hg, hB2]; simp) (by omega) (by omega) rfl hB3 (by omega)) ?_
      rintro _ h1 ⟨rfl, e3⟩
      subst e3
      simp only [go_sem, t0, t2, t4, t10, t11, w4, List.set_set]
      refine ⟨B3.length + B2.length, by omega, L, B3, B2, A1 ++ R, by rw [heq, hB2]; simp, by omega, by omega, by omega, by omega, by simp, by rw [hB3], rfl, rfl⟩
  · have hne : A1.length = B1.length := by
      have : (A1.length : Int) = B1.length := by simpa using e
      omega
    simp only [go_sem, t0, t2, t4, t10, t11, w3]
    refine call_by (c137 _ id st _ _ _ L A1 [] B1 R f (by rw [hg]; simp) (by omega) (by simp only [List.length_nil]; omega) rfl hne.symm (by simp only [List.length_nil]; omega)) ?_
    rintro _ h1 ⟨rfl, e3⟩
    subst e3
    simp only [go_sem, List.set_set]
    exact ⟨.tup [], by simp only [go_sem], .inl ⟨rfl, by rw [heq]⟩⟩
theorem c116 (h : List Ob) (id st a b : Nat) (P S Q : List Ev) (hi : h[id]? = some (evRow (P ++ (S ++ Q)) st)) (ha : a = P.length) (hb : b = P.length + S.length) (hl : (P ++ (S ++ Q)).length < 1099511627776) :
    ACalls Tryz.prog 150 [.tl id st, i64 a, i64 b, .fn (.func 96) [] []] h fun r h' => r = .tup [] ∧ h' = h.set id (evRow (P ++ (stabE S ++ Q)) st) := by
  have hg : ∀ o, (h.set id o)[id]? = some o := fun o => get_set_same hi
  simp only [List.length_append] at hl
  have w1 : wr ((a : Int) + 1) = ((a + 1 : Nat) : Int) := wr_succ (by omega)
  refine acalls_wp Tryz.f150 [] 53 rfl rfl rfl rfl rfl rfl (by decide) (⟨_, _, ⟨rfl, rfl⟩, resK_set hi rfl⟩) fun B => ?_
  simp only [go_sem, w1]
  refine wp_loop_a (by decide) (fun n T h' => ∃ S1 S2, S = S1 ++ S2 ∧ h' = h.set id (evRow (P ++ (stabE S1 ++ (S2 ++ Q))) st) ∧ T 0 = .tl id st ∧ T 1 = i64 a ∧ T 2 = i64 b ∧ T 3 = .fn (.func 96) [] [] ∧ T 8 = i64 (a + S1.length + (if S = [] then 1 else 0) : Nat) ∧ n = S2.length) (S.length - 1) ?_ ?_
  · cases S with
    | nil => exact ⟨[], [], rfl, by rw [stabE, List.nil_append, set_self hi], by simp only [go_sem], by simp only [go_sem], by simp only [go_sem], by simp only [go_sem], by simp only [go_sem], rfl⟩
    | cons x S => exact ⟨[x], S, rfl, (set_self hi).symm, by simp only [go_sem], by simp only [go_sem], by simp only [go_sem], by simp only [go_sem], by simp only [go_sem], rfl⟩
  rintro n T h' ⟨S1, S2, hS, rfl, t0, t1, t2, t3, t8, rfl⟩
  simp only [go_sem, t8, t2]
  refine ways (fun e => ?_) (fun e => ?_)
  · have hlt : a + S1.length + (if S = [] then 1 else 0) < b := dlt e
    have hne : S ≠ [] := fun k => by rw [k] at hlt hb; simp at hlt hb; omega
    rw [if_neg hne] at t8 hlt
    cases S2 with
    | nil => rw [hS] at hb; simp at hb; omega
    | cons x S3 =>
    have hlS : S.length = S1.length + 1 + S3.length := by rw [hS]; simp; omega
    have hls := stabE_len S1
    simp only [go_sem, t8]
    refine wp_loop_a (by decide) (fun n T h' => ∃ U V, stabE S1 = U ++ V ∧ (∀ y ∈ V, ltE x y = true) ∧ h' = h.set id (evRow (P ++ (U ++ (x :: (V ++ (S3 ++ Q))))) st) ∧ T 0 = .tl id st ∧ T 1 = i64 a ∧ T 2 = i64 b ∧ T 3 = .fn (.func 96) [] [] ∧ T 8 = i64 (a + S1.length : Nat) ∧ T 9 = i64 (a + U.length : Nat) ∧ n = U.length) (stabE S1).length
      ⟨stabE S1, [], by simp, by simp, by simp, by simp only [go_sem, t0], by simp only [go_sem, t1], by simp only [go_sem, t2], by simp only [go_sem, t3], by simp only [go_sem, t8, hne], by simp only [go_sem, t8, hne, hls], rfl⟩ ?_
    rintro n T h' ⟨U, V, hUV, hV, rfl, t0, t1, t2, t3, t8, t9, rfl⟩
    have hUVl : S1.length = U.length + V.length := by rw [← hls, hUV, List.length_append]
    have t8s := t_succ (k := a + S1.length) (m := a + (S1 ++ [x]).length) (by omega) (by simp; omega)
    rcases List.eq_nil_or_concat U with rfl | ⟨U, u, rfl⟩
    · simp only [go_sem]
      refine wp_draw rfl [] 0 [(0, 0, []), (1, 0, []), (2, 0, []), (3, 0, []), (4, 0, []), (5, 0, []), (6, 0, []), (9, 0, []), (10, 0, []), (11, 0, []), (7, 0, []), (8, 0, []), (12, 0, []), (13, 0, []), (14, 0, []), (15, 0, []), (16, 0, [])] rfl (by decide) (by decide) ?_
      have t9 : T 9 = i64 (a : Int) := t9
      simp only [go_sem, t9, t1, t8, gt_iff_lt, Int.lt_irrefl, decide_false, beq_self_eq_true, Bool.false_eq_true, Bool.true_eq_false]
      refine ⟨S3.length, by simp, S1 ++ [x], S3, by rw [hS]; simp, ?_, t0, t2, t3, ?_, rfl⟩
      · rw [key_ins hUV hV (by simp)]; rfl
      · rw [if_neg hne]; exact t8s
    · rw [List.concat_eq_append] at *
      simp only [List.length_append, List.length_cons, List.length_nil] at hUVl t9
      obtain ⟨l, hl2⟩ : ∃ l, l = P ++ (U ++ [u] ++ (x :: (V ++ (S3 ++ Q)))) := ⟨_, rfl⟩
      have hl3 : l = (P ++ U) ++ u :: ([] ++ x :: (V ++ (S3 ++ Q))) := by rw [hl2]; simp
      have hlen : l.length = P.length + U.length + 2 + V.length + S3.length + Q.length := by rw [hl3]; simp; omega
      have i1 : a + U.length = (P ++ U).length := by simp; omega
      have i2 : a + (U.length + 1) = (P ++ U).length + 1 + ([] : List Ev).length := by simp; omega
      have ra : (l.map evC)[a + U.length]? = some (evC u) := row_get (by rw [hl3]; exact get_a i1)
      have rb : (l.map evC)[a + (U.length + 1)]? = some (evC x) := row_get (by
        rw [hl3, show (P ++ U) ++ u :: ([] ++ x :: (V ++ (S3 ++ Q))) = ((P ++ U) ++ [u]) ++ x :: (V ++ (S3 ++ Q)) by simp]
        exact get_a (by rw [i2]; simp; omega))
      have la : ((a + U.length : Nat) : Int) < ((l.length : Nat) : Int) := by omega
      have lb : ((a + (U.length + 1) : Nat) : Int) < ((l.length : Nat) : Int) := by omega
      have f1 : ((a : Nat) : Int) < ((a + (U.length + 1) : Nat) : Int) := by omega
      have wb : wr (((a + (U.length + 1) : Nat) : Int) - 1) = ((a + U.length : Nat) : Int) := by
        rw [wr_pred (by omega) (by omega)]; omega
      obtain ⟨q, q1, q2⟩ := row_set (l := l) (i := a + (U.length + 1)) (j := a + U.length) u (by omega)
      have sw := swap_rows2 hl3 i1 i2
      rw [← hl2]
      simp only [go_sem]
      refine wp_draw rfl [] 0 [(0, 0, []), (1, 0, []), (2, 0, []), (3, 0, []), (4, 0, []), (5, 0, []), (6, 0, []), (9, 0, []), (10, 0, []), (11, 0, []), (7, 0, []), (8, 0, []), (12, 0, []), (13, 0, []), (14, 0, []), (15, 0, []), (16, 0, [])] rfl (by decide) (by decide) ?_
      simp only [go_sem, t9, t1, t0, t3, gt_iff_lt, f1, decide_true, hg, ra, rb, la, lb, wb, List.length_map, Int.toNat_natCast, Int.natCast_nonneg, beq_self_eq_true, Bool.false_eq_true, Bool.true_eq_false]
      refine call_by (c89 x u _) ?_
      rintro _ h1 ⟨rfl, e3⟩
      subst e3
      simp only [go_sem]
      refine ways (fun e4 => ?_) (fun e4 => ?_)
      · have e4 : ltE x u = true := e4
        simp only [go_sem]
        refine wp_draw rfl [] 0 [(0, 0, []), (1, 0, []), (2, 0, []), (3, 0, []), (4, 0, []), (5, 0, []), (6, 0, []), (7, 0, []), (10, 0, []), (11, 0, []), (8, 0, []), (9, 0, []), (12, 0, []), (13, 0, []), (14, 0, []), (15, 0, []), (16, 0, []), (17, 0, [])] rfl (by decide) (by decide) ?_
        simp only [go_sem, t9, t1, t0, t3, hg, ra, rb, q1, q2, la, lb, wb, List.length_map, Int.toNat_natCast, Int.natCast_nonneg, List.set_set]
        refine ⟨U.length, by simp, U, u :: V, by rw [hUV]; simp, fun y hy => ?_, ?_, t2, t8, rfl, rfl⟩
        · rcases List.mem_cons.1 hy with rfl | hy
          · exact e4
          · exact hV y hy
        · rw [sw]; exact congrArg (fun l => h.set id (evRow l st)) (by simp)
      · have e4 : ltE x u = false := e4
        simp only [go_sem, t8]
        have hsr : Srt ((U ++ [u]) ++ V) := by rw [← hUV]; exact stabE_srt _
        refine ⟨S3.length, by simp, S1 ++ [x], S3, by rw [hS]; simp, ?_, t0, t1, t2, t3, ?_, rfl⟩
        · rw [key_ins hUV hV (srt_last (srt_app.1 hsr).1 e4), hl2]; exact congrArg (fun l => h.set id (evRow l st)) (by simp)
        · rw [if_neg hne]; exact t8s
  · have hge := dnlt e
    have hS2 : S2 = [] := by
      apply List.eq_nil_of_length_eq_zero
      rw [hS, List.length_append] at hb
      by_cases hne : S = []
      · rw [hS] at hne; simp at hne; simp [hne]
      · rw [if_neg hne] at hge; omega
    subst hS2
    rw [List.append_nil] at hS
    subst hS
    simp only [go_sem]
    exact ⟨.tup [], by simp only [go_sem], .inl ⟨rfl, by simp⟩⟩
end Go.Proofs.YtpdghiplnlhnfaaGreat.Ax
