/-
  Disks, plain: heads, files.
-/
import Derived.Test.YtjcngipaeoegcaaFrame8
import Derived.Test.YtjcngipaeoegcaaPackCuts
namespace Go.Proofs.Ytjcngipaeoegcaa

namespace Disk
def texts (rs : List (List UInt8)) : List UInt8 := (rs.map fun r => Pack.text [] r).flatten
def head (g : Nat) (rs : List (List UInt8)) : List UInt8 := Pack.one g ++ Pack.one rs.length ++ texts rs

theorem text_eq (b r : List UInt8) : Pack.text b r = b ++ Pack.text [] r := by simp [Pack.text]
theorem texts_snoc (rs : List (List UInt8)) (r : List UInt8) : texts (rs ++ [r]) = texts rs ++ Pack.text [] r := by simp [texts]

/-- n texts, and nothing behind. -/
def parseTexts : Nat → List UInt8 → Option (List (List UInt8))
  | 0, b => if b = [] then some [] else none
  | n + 1, b => match Pack.takeText b with
    | none => none
    | some (r, s) => (parseTexts n s).map (r :: ·)
def parse (b : List UInt8) : Option (Nat × List (List UInt8)) :=
  match Pack.take b with
  | none => none
  | some (g, b1) => if g < 1 ∨ 1000000 < g then none else
    match Pack.take b1 with
    | none => none
    | some (m, b2) => (parseTexts m b2).map fun rs => (g, rs)

theorem takeText_lt {b r s : List UInt8} (h : Pack.takeText b = some (r, s)) : s.length < b.length := by
  have := congrArg List.length (Pack.takeText_own _ _ _ h).1
  rw [List.length_append, List.length_append, Pack.one_length] at this
  omega
theorem parse_many : ∀ (n : Nat) (b : List UInt8), b.length < n → parseTexts n b = none
  | 0, b, h => by omega
  | n + 1, b, h => by
    unfold parseTexts
    cases ht : Pack.takeText b with
    | none => rfl
    | some p =>
      obtain ⟨r, s⟩ := p
      have := takeText_lt ht
      simp only
      rw [parse_many n s (by omega)]
      rfl
theorem parseTexts_len : ∀ (n : Nat) (b : List UInt8) (rs : List (List UInt8)), parseTexts n b = some rs → rs.length = n ∧ b = texts rs
  | 0, b, rs, h => by
    unfold parseTexts at h
    split at h
    · rename_i hb
      injection h with h
      subst h
      exact ⟨rfl, by rw [hb]; rfl⟩
    · cases h
  | n + 1, b, rs, h => by
    unfold parseTexts at h
    cases ht : Pack.takeText b with
    | none => rw [ht] at h; cases h
    | some p =>
      obtain ⟨r, s⟩ := p
      rw [ht] at h
      simp only at h
      cases hp : parseTexts n s with
      | none => rw [hp] at h; cases h
      | some l =>
        rw [hp] at h
        injection h with h
        subst h
        obtain ⟨h1, h2⟩ := parseTexts_len n s l hp
        refine ⟨by simp [h1], ?_⟩
        rw [(Pack.takeText_own _ _ _ ht).1, h2]
        simp [texts, Pack.text]
theorem parseTexts_texts (rs : List (List UInt8)) (h : ∀ r ∈ rs, r.length < 9223372036854775808) : parseTexts rs.length (texts rs) = some rs := by
  induction rs with
  | nil => rfl
  | cons r rs ih =>
    unfold parseTexts
    have h1 := Pack.takeText_text r (texts rs) (h r (by simp))
    rw [show texts (r :: rs) = Pack.one r.length ++ (r ++ texts rs) by simp [texts, Pack.text]]
    simp only [List.length_cons]
    rw [h1]
    simp only
    rw [ih (fun x hx => h x (by simp [hx]))]
    rfl
theorem parse_head (g : Nat) (rs : List (List UInt8)) (hg : 1 ≤ g ∧ g ≤ 1000000) (hn : rs.length < 9223372036854775808) (h : ∀ r ∈ rs, r.length < 9223372036854775808) : parse (head g rs) = some (g, rs) := by
  unfold parse head
  rw [List.append_assoc, Pack.take_one _ _ (by omega)]
  simp only
  rw [if_neg (by omega), Pack.take_one _ _ hn]
  simp only
  rw [parseTexts_texts _ h]
  rfl
theorem parse_own (b : List UInt8) (g : Nat) (rs : List (List UInt8)) (h : parse b = some (g, rs)) : b = head g rs ∧ 1 ≤ g ∧ g ≤ 1000000 := by
  unfold parse at h
  cases h1 : Pack.take b with
  | none => rw [h1] at h; cases h
  | some p =>
    obtain ⟨g', b1⟩ := p
    rw [h1] at h
    simp only at h
    split at h
    · cases h
    · rename_i hg
      cases h2 : Pack.take b1 with
      | none => rw [h2] at h; cases h
      | some p =>
        obtain ⟨m, b2⟩ := p
        rw [h2] at h
        simp only at h
        cases h3 : parseTexts m b2 with
        | none => rw [h3] at h; cases h
        | some l =>
          rw [h3] at h
          injection h with h
          injection h with h4 h5
          subst h4
          subst h5
          obtain ⟨h6, h7⟩ := parseTexts_len _ _ _ h3
          refine ⟨?_, by omega, by omega⟩
          rw [(Pack.take_own _ _ _ h1).1, (Pack.take_own _ _ _ h2).1, h7, ← h6]
          simp [head]
theorem head_length (g : Nat) (rs : List (List UInt8)) : (head g rs).length = Pack.need g + 1 + (Pack.need rs.length + 1) + (texts rs).length := by
  simp [head, Pack.one_length]
  omega
theorem texts_take (rs : List (List UInt8)) (k : Nat) : (texts (rs.take k)).length ≤ (texts rs).length := by
  conv => rhs; rw [← List.take_append_drop k rs]
  simp only [texts, List.map_append, List.flatten_append, List.length_append]
  omega
theorem texts_mem {rs : List (List UInt8)} {r : List UInt8} (h : r ∈ rs) : r.length ≤ (texts rs).length := by
  induction rs with
  | nil => cases h
  | cons x rs ih =>
    rw [show texts (x :: rs) = Pack.text [] x ++ texts rs by simp [texts], List.length_append]
    rcases List.mem_cons.1 h with rfl | h
    · have : (Pack.text [] r).length = (Pack.one r.length).length + r.length := by simp [Pack.text]
      omega
    · have := ih h; omega
theorem texts_count (rs : List (List UInt8)) : rs.length ≤ (texts rs).length := by
  induction rs with
  | nil => simp
  | cons x rs ih =>
    rw [show texts (x :: rs) = Pack.text [] x ++ texts rs by simp [texts], List.length_append, List.length_cons]
    have : (Pack.text [] x).length = Pack.need x.length + 1 + x.length := by simp [Pack.text, Pack.one_length]
    omega

/-- What a file tells: its generation, its records, its good bytes. -/
structure File where
  gen : Nat
  recs : List (List UInt8)
  good : List UInt8
def file (b : List UInt8) : Option File :=
  match (Frame.all b).1 with
  | [] => none
  | h :: t => match parse h with
    | none => none
    | some (g, rs) => some { gen := g, recs := rs ++ t, good := b.take (b.length - (Frame.all b).2.length) }
/-- A disk's file, and whether it is the second. -/
def which (a b : List UInt8) : Option (Bool × File) :=
  match file a, file b with
  | none, none => none
  | some f, none => some (false, f)
  | none, some f => some (true, f)
  | some f, some h => if f.gen < h.gen then some (true, h) else some (false, f)
end Disk

end Go.Proofs.Ytjcngipaeoegcaa
