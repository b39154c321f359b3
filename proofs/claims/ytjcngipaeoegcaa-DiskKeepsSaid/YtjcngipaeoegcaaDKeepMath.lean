/-
  Disks: what is told behind any steps. No program in sight.
-/
import Derived.Test.YtjcngipaeoegcaaDStale
namespace Go.Proofs.Ytjcngipaeoegcaa
namespace Disk

theorem which_put {a b x : List UInt8} {s : Bool} {f f' : File} (h : which a b = some (s, f)) (hx : file x = some f') (hg : f'.gen = f.gen) : which (put s a b x).1 (put s a b x).2 = some (s, f') := by
  unfold which at h
  unfold which put
  cases ha : file a <;> cases hb : file b <;> rw [ha, hb] at h <;> simp only at h
  · cases h
  · injection h with h
    injection h with h1 h2
    subst h1
    subst h2
    simp [ha, hx]
  · injection h with h
    injection h with h1 h2
    subst h1
    subst h2
    simp [hb, hx]
  · split at h
    · rename_i hlt
      injection h with h
      injection h with h1 h2
      subst h1
      subst h2
      simp [ha, hx, hg, hlt]
    · rename_i hlt
      injection h with h
      injection h with h1 h2
      subst h1
      subst h2
      simp [hb, hx, hg, hlt]
theorem which_none {a b x : List UInt8} {s : Bool} {f : File} (h : which a b = some (s, f)) (hx : file x = none) : which (put (!s) a b x).1 (put (!s) a b x).2 = some (s, f) := by
  have h1 := which_file h
  unfold which put
  cases s with
  | true => simp only [if_true] at h1; simp [hx, h1]
  | false => simp only [Bool.false_eq_true, if_false] at h1; simp [hx, h1]
theorem which_next {a b x : List UInt8} {s : Bool} {f f' : File} (h : which a b = some (s, f)) (hx : file x = some f') (hg : f.gen < f'.gen) : which (put (!s) a b x).1 (put (!s) a b x).2 = some (!s, f') := by
  have h1 := which_file h
  unfold which put
  cases s with
  | true =>
    simp only [if_true] at h1
    simp [hx, h1]
    omega
  | false => simp only [Bool.false_eq_true, if_false] at h1; simp [hx, h1, hg]

theorem texts_le (rs : List (List UInt8)) (h : ∀ r ∈ rs, r.length ≤ 100) : (texts rs).length ≤ 109 * rs.length := by
  induction rs with
  | nil => simp [texts]
  | cons r rs ih =>
    have h1 := ih fun x hx => h x (List.mem_cons_of_mem _ hx)
    have h2 := h r List.mem_cons_self
    have h3 := Pack.need_le8 r.length (by omega)
    have h4 : (texts (r :: rs)).length = Pack.need r.length + 1 + r.length + (texts rs).length := by
      simp [texts, Pack.text, Pack.one_length]
      omega
    rw [h4, List.length_cons]
    omega
theorem head_le (g : Nat) (rs : List (List UInt8)) (hg : g ≤ 1000) (hn : rs.length ≤ 60) (h : ∀ r ∈ rs, r.length ≤ 100) : (head g rs).length ≤ 100000 := by
  rw [head_length]
  have h1 := Pack.need_le8 g (by omega)
  have h2 := Pack.need_le8 rs.length (by omega)
  have h3 := texts_le rs h
  omega

/-- What stands behind k steps. -/
structure Keeps (a b : List UInt8) (want : List (List UInt8)) (k : Nat) : Prop where
  is : ∃ s f, which a b = some (s, f) ∧ f.recs = want ∧ f.gen ≤ k + 1
  many : want.length ≤ k
  each : ∀ r ∈ want, r.length ≤ 100
  la : a.length ≤ 100100 * (k + 1)
  lb : b.length ≤ 100100 * (k + 1)

theorem Keeps.new : Keeps new [] [] 0 := by
  have h := file_new 1 [] (by omega) (head_le 1 [] (by omega) (by simp) (by simp))
  refine ⟨⟨false, ⟨1, [], Frame.frame (head 1 [])⟩, ?_, rfl, by simp⟩, by simp, by simp, by have := new_le; omega, by simp⟩
  unfold which
  rw [show file Disk.new = _ from h, file_empty]
theorem write_err (b m : List UInt8) (tear : Int) : (write b m tear).2 = if tear = 0 then 0 else 230 := by unfold write; split <;> rfl
theorem write_all {b m : List UInt8} {tear : Int} (h : tear = 0 ∨ (m.length : Int) < tear) : (write b m tear).1 = b ++ m := by
  unfold write
  split
  · rfl
  · rename_i h0
    rcases h with h | h
    · exact absurd h h0
    · have : kept tear m.length = m.length := by unfold kept; omega
      simp [this]
theorem write_part {b m : List UInt8} {tear : Int} (hm : 0 < m.length) (h : ¬ (tear = 0 ∨ (m.length : Int) < tear)) : ∃ n, n < m.length ∧ (write b m tear).1 = b ++ m.take n := by
  unfold write
  rw [if_neg fun e => h (.inl e)]
  exact ⟨kept tear m.length, by unfold kept; omega, rfl⟩
theorem frame_pos (p : List UInt8) : 0 < (Frame.frame p).length := by rw [Frame.frame_length]; omega

theorem Keeps.append {a b : List UInt8} {want : List (List UInt8)} {k : Nat} (h : Keeps a b want k) (p : List UInt8) (hp : p.length ≤ 100) (tear : Int) :
    (append a b p tear).2 = (if tear = 0 then 0 else 230) ∧ Keeps (append a b p tear).1.1 (append a b p tear).1.2 (if tear = 0 ∨ ((Frame.frame p).length : Int) < tear then want ++ [p] else want) (k + 1) := by
  obtain ⟨s, f, hw, hr, hg⟩ := h.is
  have hl := append_len a b p tear (100100 * (k + 1)) h.la h.lb
  have hwf := which_file hw
  have ha : Disk.append a b p tear = (put s a b (write f.good (Frame.frame p) tear).1, (write f.good (Frame.frame p) tear).2) := by
    unfold Disk.append
    rw [hw]
    simp only
    rw [if_neg (by omega)]
  rw [ha] at hl ⊢
  refine ⟨write_err _ _ _, ?_⟩
  by_cases hc : tear = 0 ∨ ((Frame.frame p).length : Int) < tear
  · rw [if_pos hc]
    rw [write_all hc] at hl ⊢
    refine ⟨⟨s, _, which_put hw (file_more hwf p (by omega)) rfl, by rw [← hr], by simp only; omega⟩, by have := h.many; simp; omega, fun r hr' => ?_, by omega, by omega⟩
    rcases List.mem_append.1 hr' with h1 | h1
    · exact h.each r h1
    · simp at h1; subst h1; exact hp
  · rw [if_neg hc]
    obtain ⟨n, hn, e⟩ := write_part (b := f.good) (frame_pos p) hc
    rw [e] at hl ⊢
    exact ⟨⟨s, _, which_put hw (file_cut hwf (Frame.take_cut p (by omega) n hn)) rfl, hr, by omega⟩, by have := h.many; omega, h.each, by omega, by omega⟩
theorem Keeps.snap {a b : List UInt8} {want : List (List UInt8)} {k : Nat} (h : Keeps a b want k) (hk : k ≤ 60) (tear : Int) :
    (snap a b tear).2 = (if tear = 0 then 0 else 230) ∧ Keeps (snap a b tear).1.1 (snap a b tear).1.2 want (k + 1) := by
  obtain ⟨s, f, hw, hr, hg⟩ := h.is
  have hl := snap_len a b tear (100100 * (k + 1)) h.la h.lb
  have hh := head_le (f.gen + 1) f.recs (by omega) (by rw [hr]; have := h.many; omega) (by rw [hr]; exact h.each)
  have ha : Disk.snap a b tear = (put (!s) a b (write [] (Frame.frame (head (f.gen + 1) f.recs)) tear).1, (write [] (Frame.frame (head (f.gen + 1) f.recs)) tear).2) := by
    unfold Disk.snap
    rw [hw]
    simp only
    rw [if_neg (by omega), if_neg (by omega)]
  rw [ha] at hl ⊢
  refine ⟨write_err _ _ _, ?_⟩
  by_cases hc : tear = 0 ∨ ((Frame.frame (head (f.gen + 1) f.recs)).length : Int) < tear
  · rw [write_all hc, List.nil_append] at hl ⊢
    exact ⟨⟨!s, _, which_next hw (file_new (f.gen + 1) f.recs (by omega) hh) (by simp), hr, by simp only; omega⟩, by have := h.many; omega, h.each, by omega, by omega⟩
  · obtain ⟨n, hn, e⟩ := write_part (b := []) (frame_pos (head (f.gen + 1) f.recs)) hc
    rw [e, List.nil_append] at hl ⊢
    exact ⟨⟨s, f, which_none hw (file_none (Frame.take_cut _ hh n hn)), hr, by omega⟩, by have := h.many; omega, h.each, by omega, by omega⟩
theorem Keeps.opened {a b : List UInt8} {want : List (List UInt8)} {k : Nat} (h : Keeps a b want k) :
    ∃ x y, opened a b = ((x, y), want, 0) ∧ Disk.opened x y = ((x, y), want, 0) ∧ x.length ≤ 100100 * (k + 1) ∧ y.length ≤ 100100 * (k + 1) := by
  obtain ⟨s, f, hw, hr, hg⟩ := h.is
  have hl := opened_len a b (100100 * (k + 1)) h.la h.lb
  have ho : Disk.opened a b = (put s a b f.good, f.recs, 0) := by unfold Disk.opened; rw [hw]
  have hw2 := which_put hw (file_same (which_file hw)) rfl
  refine ⟨(put s a b f.good).1, (put s a b f.good).2, by rw [ho, hr], ?_, by rw [ho] at hl; exact hl.1, by rw [ho] at hl; exact hl.2⟩
  unfold Disk.opened
  rw [hw2, ← hr]
  simp only
  rw [put_put]
end Disk
end Go.Proofs.Ytjcngipaeoegcaa
