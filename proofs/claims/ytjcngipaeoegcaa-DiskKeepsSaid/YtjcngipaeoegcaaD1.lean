/-
  Disks: bytes.Clone; the places of the files; a disk's value.
-/
import Derived.Test.YtjcngipaeoegcaaFrame12
import Derived.Test.YtjcngipaeoegcaaFrame10
import Derived.Test.YtjcngipaeoegcaaKeep
import Derived.Lib.SliceRun
namespace Go.Proofs.Ytjcngipaeoegcaa
open Go.RowKit

theorem rt22 : RowTy Try.prog 22 5 := ⟨Try.underlying22, by obtain ⟨i, hi, hz, hs, hb⟩ := info5; exact ⟨i, _, _, hi, hz, hs, hb, rfl, by decide⟩⟩

set_option maxRecDepth 100000 in
set_option maxHeartbeats 1000000 in
theorem bclone_any (A : Option Addr) (c : Nat) (l : List UInt8) (w : World) (hl : l.length ≤ 1000000000) (hr : Row w A (l.map B8)) :
    Calls Try.prog 24 #[.slice A l.length c] w (RetOwn w l) := by
  have HR := Lib.hid hr
  cases A with
  | none =>
    have h0 : l = [] := by
      rcases l with _ | ⟨x, l⟩
      · rfl
      · obtain ⟨ad, e, _⟩ := hr (by simp); cases e
    subst h0
    have hnil := fun w => Lib.run_eql_slice_nil (P := Try.prog) w 22 5 none 0 c 0 0 Try.underlying22
    clear hr
    go_enter Try.func24, Try.ntmps24
    go_wp2_with fail
    go_ret
    exact ⟨_, rfl, Own.nil _ _, Below.refl _ _⟩
  | some ad =>
    have hnil := fun w => Lib.run_eql_slice_nil (P := Try.prog) w 22 5 (some ad) l.length c 0 0 Try.underlying22
    clear hr
    go_enter Try.func24, Try.ntmps24
    go_wp2_with (at_builtin; go_must (refine wpList_append_bytes_keep (l := []) (l2 := l) (m := l.length) (B := w.heap.size) rt22 rfl (.tmp 5) (.tmp 6) rfl (Own.new w w.heap.size (Nat.le_refl _) [] 0 rfl (by simp) #[] rfl) rfl rfl rfl (HR.out.ext (Ext.a1 w _)) (by simp; omega) (by simp) ?_); intro A4 c4 w4 hown4 _ hg4; have hb4 := (Own.new w w.heap.size (Nat.le_refl _) [] 0 rfl (by simp) #[] rfl).below hg4 (Ext.a1 w _) (by simp) (Nat.le_refl _); simp only [List.length_nil, Nat.zero_add, List.nil_append] at hown4; have HO4 := Lib.hid hown4; have HB4 := Lib.hid hb4; clear hown4 hg4 hb4; simp only [List.length_nil, Nat.zero_add])
    go_ret
    exact ⟨_, rfl, HO4.out, HB4.out⟩

/-- The places of the files. -/
theorem first_any (g : Nat) (w : World) : Calls Try.prog 36 #[.pointer (some ⟨g, 0, none⟩)] w fun e w' => e = .returned (.pointer (some ⟨g, 0, none⟩)) ∧ w' = w := by
  go_enter Try.func36, Try.ntmps36
  go_wp2_with fail
  go_ret
  exact ⟨rfl, rfl⟩
theorem second_any (g : Nat) (w : World) : Calls Try.prog 37 #[.pointer (some ⟨g, 0, none⟩)] w fun e w' => e = .returned (.pointer (some ⟨g, 1, none⟩)) ∧ w' = w := by
  go_enter Try.func37, Try.ntmps37
  go_wp2_with fail
  go_ret
  exact ⟨rfl, rfl⟩

/-- A disk's value. -/
def Dk (w : World) (v : Value) (a b : List UInt8) : Prop := ∃ A c A' c', v = .agg #[.slice A a.length c, .slice A' b.length c'] ∧ a.length ≤ c ∧ b.length ≤ c' ∧ Row w A (a.map B8) ∧ Row w A' (b.map B8)
theorem Dk.ext {w w' : World} {v : Value} {a b : List UInt8} (h : Dk w v a b) (he : Ext w w') : Dk w' v a b := by
  obtain ⟨A, c, A', c', e, h1, h2, h3, h4⟩ := h
  exact ⟨A, c, A', c', e, h1, h2, h3.ext he, h4.ext he⟩

theorem few_d_any (A A' : Option Addr) (n n' c c' : Nat) (w : World) : Calls Try.prog 8 #[.agg #[.slice A n c, .slice A' n' c']] w fun e w' => e = .returned (.bool (decide (n ≤ 3000) && decide (n' ≤ 3000))) ∧ Ext w w' := by
  by_cases h : n ≤ 3000
  · have hd : decide ((n : Int) ≤ 3000) = true := by simp; omega
    by_cases h' : n' ≤ 3000
    · have hd' : decide ((n' : Int) ≤ 3000) = true := by simp; omega
      go_enter Try.func8, Try.ntmps8
      go_wp2_with fail
      go_ret
      exact ⟨by simp [h, h'], Ext.a1 _ _⟩
    · have hd' : decide ((n' : Int) ≤ 3000) = false := by simp; omega
      go_enter Try.func8, Try.ntmps8
      go_wp2_with fail
      go_ret
      exact ⟨by simp [h, h'], Ext.a1 _ _⟩
  · have hd : decide ((n : Int) ≤ 3000) = false := by simp; omega
    go_enter Try.func8, Try.ntmps8
    go_wp2_with fail
    go_ret
    exact ⟨by simp [h], Ext.a1 _ _⟩

end Go.Proofs.Ytjcngipaeoegcaa
