/-
  Disks: a disk in memory of its own; two disks that are the same; bytes written behind others.
-/
import Derived.Test.YtjcngipaeoegcaaD1
import Derived.Test.YtjcngipaeoegcaaRec
import Derived.Test.YtjcngipaeoegcaaRound
namespace Go.Proofs.Ytjcngipaeoegcaa
open Go.RowKit

def RecSay (g : Nat) (t : TypeId) (P : World → Array Value → Prop) : Say := fun w _ => ∃ vs, Rec w g t vs ∧ P w vs

set_option maxHeartbeats 2000000 in
set_option maxRecDepth 100000 in
theorem own_any (A A' : Option Addr) (c c' : Nat) (a b : List UInt8) (w : World) (ha : a.length ≤ 1000000000) (hb : b.length ≤ 1000000000) (h1 : Row w A (a.map B8)) (h2 : Row w A' (b.map B8)) :
    Calls Try.prog 22 #[.agg #[.slice A a.length c, .slice A' b.length c']] w fun e w' => ∃ v1 v2, e = .returned (.agg #[v1, v2]) ∧ Own w' w.heap.size v1 a ∧ Own w' w.heap.size v2 b ∧ Ext w w' := by
  have H1 := Lib.hid h1
  have H2 := Lib.hid h2
  clear h1 h2
  obtain ⟨B, hB⟩ : ∃ B, w.heap.size = B := ⟨_, rfl⟩
  go_enter Try.func22, Try.ntmps22
  go_wp2_with fail
  obtain ⟨wx, hwx⟩ : ∃ wx, (w.alloc (.cells #[.slice A a.length c, .slice A' b.length c'] 24)).alloc (.cells #[.slice none 0 0, .slice none 0 0] 24) = wx := ⟨_, rfl⟩
  have HE := Lib.hid (show Ext w wx by rw [← hwx]; exact (Ext.a1 _ _).alloc' _)
  have R1 := Lib.hid (show Rec wx B 24 #[.slice A a.length c, .slice A' b.length c'] by rw [← hwx, ← hB]; exact (Rec.new w _ _).ext (Ext.a1 _ _))
  have R2 := Lib.hid (show Rec wx (B + 1) 24 #[.slice none 0 0, .slice none 0 0] by rw [← hwx, ← hB]; have := Rec.new (w.alloc (.cells #[.slice A a.length c, .slice A' b.length c'] 24)) 24 #[.slice none 0 0, .slice none 0 0]; rw [World.size_alloc] at this; exact this)
  have hBx : B ≤ wx.heap.size := by have := R1.out.lt; omega
  rw [hwx]
  clear hwx
  apply wp_region_gen (B) 7 (hBx) (by kernel_rfl) (by kernel_rfl) (by kernel_rfl)
    [Is (.pointer (some ⟨B, 0, none⟩)), Is (.slice A a.length c), fun w v => ∃ X k, v = .slice X a.length k ∧ Own w B (.slice X a.length k) a, Is (.pointer (some ⟨B, 1, none⟩)), Is (.slice A' b.length c'), fun w v => ∃ X k, v = .slice X b.length k ∧ Own w B (.slice X b.length k) b, fun w v => ∃ X k Y m, v = .agg #[.slice X a.length k, .slice Y b.length m] ∧ Own w B (.slice X a.length k) a ∧ Own w B (.slice Y b.length m) b, RecSay (B + 1) 24 (fun w vs => ∃ v1 v2, vs = #[v1, v2] ∧ Own w B v1 a ∧ Own w B v2 b)] (fun i w => (i = 1 ∨ i = 4 ∨ i = 2 ∨ i = 5 → Ext wx w) ∧ (i = 7 → Rec w (B + 1) 24 #[.slice none 0 0, .slice none 0 0]))
  case mono => exact ⟨Is.st _, Is.st _, Say.st_of (fun w w' v he ⟨A, k, h1, h2⟩ => ⟨A, k, h1, h2.ext he⟩), Is.st _, Is.st _, Say.st_of (fun w w' v he ⟨A, k, h1, h2⟩ => ⟨A, k, h1, h2.ext he⟩), Say.st_of (fun w w' v he ⟨A1, k1, A2, k2, h1, h2, h3⟩ => ⟨A1, k1, A2, k2, h1, h2.ext he, h3.ext he⟩), Say.st_of (fun w w' v he ⟨vs, h1, v1, v2, h2, h3, h4⟩ => ⟨vs, h1.ext he, v1, v2, h2, h3.ext he, h4.ext he⟩), True.intro⟩
  case monoS => exact fun i w w' he h => ⟨fun e => (h.1 e).trans' he, fun e => (h.2 e).ext he⟩
  case startS => exact fun i => ⟨fun _ => Below.refl _ _, fun _ => R2.out⟩
  case hF => intro u; simp only [fill, Nat.reduceAdd, List.setIfInBounds_toArray, List.set_cons_succ, List.set_cons_zero]; exact rfl
  case steps =>
    refine StepsG.cons ?_ ?_
    · intro u w1 K hE hS hU hd hK hW
      go_simp
      exact hK _ _ (Below.refl _ _) rfl
    refine StepsG.cons ?_ ?_
    · intro u w1 K hE hS hU hd hK hW
      have d0 : u 0 = (.pointer (some ⟨B, 0, none⟩)) := hd 0 rfl
      simp only [d0] at hK
      have hc := (R1.out.ext (hS.1 (by simp))).cell (i := 0) rfl
      go_simp
      exact hK _ _ (Below.refl _ _) rfl
    refine StepsG.cons ?_ ?_
    · intro u w1 K hE hS hU hd hK hW
      have d1 : u 1 = (.slice A a.length c) := hd 1 rfl
      simp only [d1] at hK
      go_simp
      have hC := bclone_any A c a w1 ha (H1.out.ext (HE.out.trans' (hS.1 (by simp))))
      refine hC.mono ?_
      rintro e w2 ⟨v, rfl, hown, hb2⟩
      obtain ⟨X, k, hv, hk⟩ := hown.shape
      subst hv
      exact hK _ _ hb2 ⟨X, k, rfl, hown.mono (Nat.le_trans hBx hE.size)⟩
    refine StepsG.cons ?_ ?_
    · intro u w1 K hE hS hU hd hK hW
      go_simp
      exact hK _ _ (Below.refl _ _) rfl
    refine StepsG.cons ?_ ?_
    · intro u w1 K hE hS hU hd hK hW
      have d3 : u 3 = (.pointer (some ⟨B, 1, none⟩)) := hd 3 rfl
      simp only [d3] at hK
      have hc := (R1.out.ext (hS.1 (by simp))).cell (i := 1) rfl
      go_simp
      exact hK _ _ (Below.refl _ _) rfl
    refine StepsG.cons ?_ ?_
    · intro u w1 K hE hS hU hd hK hW
      have d4 : u 4 = (.slice A' b.length c') := hd 4 rfl
      simp only [d4] at hK
      go_simp
      have hC := bclone_any A' c' b w1 hb (H2.out.ext (HE.out.trans' (hS.1 (by simp))))
      refine hC.mono ?_
      rintro e w2 ⟨v, rfl, hown, hb2⟩
      obtain ⟨X, k, hv, hk⟩ := hown.shape
      subst hv
      exact hK _ _ hb2 ⟨X, k, rfl, hown.mono (Nat.le_trans hBx hE.size)⟩
    refine StepsG.cons ?_ ?_
    · intro u w1 K hE hS hU hd hK hW
      obtain ⟨X2, k2, d2, h2_1⟩ : ∃ X2 k2, u 2 = .slice X2 a.length k2 ∧ Own w1 B (.slice X2 a.length k2) a := hd 2 rfl
      obtain ⟨X5, k5, d5, h5_1⟩ : ∃ X5 k5, u 5 = .slice X5 b.length k5 ∧ Own w1 B (.slice X5 b.length k5) b := hd 5 rfl
      simp only [d2, d5] at hK
      go_simp
      exact hK _ _ (Below.refl _ _) ⟨_, _, _, _, rfl, h2_1, h5_1⟩
    refine StepsG.cons ?_ ?_
    · intro u w1 K hE hS hU hd hK hW
      obtain ⟨X6, k6, Y6, m6, d6, h6_1, h6_2⟩ : ∃ X6 k6 Y6 m6, u 6 = .agg #[.slice X6 a.length k6, .slice Y6 b.length m6] ∧ Own w1 B (.slice X6 a.length k6) a ∧ Own w1 B (.slice Y6 b.length m6) b := hd 6 rfl
      have hR := hS.2 rfl
      refine if_run rfl ?_
      refine wp_store_row 24 (.tmp 2) (.tmp 9) rfl (B + 1) _ rfl d6 24 _ hR (by kernel_rfl) rfl (by simp [Value.oneCell']) ?_
      have hg := grown_setRow w1 (B + 1) #[.slice X6 a.length k6, .slice Y6 b.length m6]
      have ht := Turns.ofRec (B := B) hR (by decide) (by omega)
      exact hW undef _ (Below.grown (Below.refl B w1) hg (Nat.le_trans hBx hE.size) (fun k e => (ht k e).1)) ⟨fun _ _ h => h, fun _ _ h => h, fun hk => absurd hk (by decide), fun _ _ h => h, fun _ _ h => h, fun hk => absurd hk (by decide), fun hk => absurd hk (by decide), fun hk => absurd hk (by decide), True.intro⟩ (fun k hk h => ⟨fun e => absurd hk (by rcases e with e | e | e | e <;> subst e <;> decide), fun e => absurd hk (by subst e; decide)⟩)  ⟨_, hR.setRow _, _, _, rfl, h6_1.turned hg ht, h6_2.turned hg ht⟩
    exact StepsG.nil
  case fin =>
    intro u w9 hE9 hP
    
    obtain ⟨vs, hR, v1, v2, hv, ho1, ho2⟩ := hP 7 (by decide) (by decide)
    subst hv
    have HX := Lib.hid hE9
    clear hE9 hP
    go_wp2_with fail
    exact bodyPost_ret (v := .agg #[v1, v2]) (results_cell_row rfl _ _ (B + 1) 24 _ (0, 0) _ rfl hR Try.underlying24 rfl (by kernel_rfl)) rfl ⟨v1, v2, rfl, by rw [hB]; exact ho1, by rw [hB]; exact ho2, by
      have h1 := HE.out
      have h2 := HX.out
      rw [← hB] at h2
      exact h1.trans h2⟩

end Go.Proofs.Ytjcngipaeoegcaa
