/-
  Disks: the document's write; two disks that are the same.
-/
import Derived.Test.YtjcngipaeoegcaaD3
namespace Go.Proofs.Ytjcngipaeoegcaa
open Go.RowKit

set_option maxHeartbeats 2000000 in
set_option maxRecDepth 100000 in
theorem refWrite_any (A A2 : Option Addr) (c c2 : Nat) (b m : List UInt8) (tear : Int) (w : World) (ht1 : -9223372036854775808 ≤ tear) (ht2 : tear ≤ 9223372036854775807) (hb : b.length ≤ 100000000) (hm : m.length ≤ 100000000) (h1 : Row w A (b.map B8)) (h2 : Row w A2 (m.map B8)) :
    Calls Try.prog 31 #[.slice A b.length c, .slice A2 m.length c2, .int .i64 tear] w (RetWrite w (Disk.write b m tear)) := by
  have H1 := Lib.hid h1
  have H2 := Lib.hid h2
  clear h1 h2
  have HN := Lib.hid (Own.new w w.heap.size (Nat.le_refl _) [] 0 rfl (by simp) #[] rfl)
  by_cases h0 : tear = 0
  · subst h0
    rw [show Disk.write b m 0 = (b ++ m, 0) from rfl]
    go_enter Try.func31, Try.ntmps31
    go_wp2_with first
      | (at_builtin; refine wpList_append_bytes_keep (l := []) (l2 := b) (m := b.length) (B := w.heap.size) rt22 rfl (.tmp 10) (.tmp 11) rfl HN.out rfl rfl rfl (H1.out.ext (Ext.a1 w _)) (by simp; omega) (by simp) ?_; intro A4 c4 w4 hown4 _ hg4; have hb4 := HN.out.below hg4 (Ext.a1 w _) (by simp) (Nat.le_refl _); simp only [List.length_nil, Nat.zero_add, List.nil_append] at hown4; have HO4 := Lib.hid hown4; have HB4 := Lib.hid hb4; clear hown4 hg4 hb4; simp only [List.length_nil, Nat.zero_add])
      | (at_builtin; refine wpList_append_bytes_keep (l := b) (l2 := m) (m := m.length) rt22 rfl (.tmp 15) (.tmp 16) rfl HO4.out rfl rfl rfl (H2.out.ext HB4.out) (by omega) HB4.out.size ?_; intro A5 c5 w5 hown5 _ hg5; have hb5 := HO4.out.below hg5 HB4.out HB4.out.size (Nat.le_refl _); have HO5 := Lib.hid hown5; have HB5 := Lib.hid hb5; clear hown5 hg5 hb5)
    go_ret2
    exact ⟨_, rfl, HO5.out, HB5.out⟩
  · rw [show Disk.write b m tear = (b ++ m.take (Disk.kept tear m.length), 230) by unfold Disk.write; rw [if_neg h0]]
    have hz : (tear == 0) = false := by simp; omega
    obtain ⟨kp, Hkp⟩ : ∃ kp, Hid (kp = Disk.kept tear m.length) := ⟨_, Lib.hid rfl⟩
    rw [← Hkp.out]
    have hkl : kp ≤ m.length := by rw [Hkp.out]; exact Disk.kept_le _ _
    obtain ⟨mx, Hmx⟩ : ∃ mx, Hid (mx = max tear 1 - 1) := ⟨_, Lib.hid rfl⟩
    have hmx : max tear 1 - 1 = mx := Hmx.out.symm
    have HM := Lib.hid (show 0 ≤ mx ∧ (kp : Int) ≤ mx ∧ (kp < m.length → (kp : Int) = mx) by rw [Hmx.out, Hkp.out]; unfold Disk.kept; omega)
    go_enter Try.func31, Try.ntmps31
    go_wp2_with (at_builtin; refine wpList_append_bytes_keep (l := []) (l2 := b) (m := b.length) (B := w.heap.size) rt22 rfl (.tmp 10) (.tmp 11) rfl HN.out rfl rfl rfl (H1.out.ext (Ext.a1 w _)) (by simp; omega) (by simp) ?_; intro A4 c4 w4 hown4 _ hg4; have hb4 := HN.out.below hg4 (Ext.a1 w _) (by simp) (Nat.le_refl _); simp only [List.length_nil, Nat.zero_add, List.nil_append] at hown4; have HO4 := Lib.hid hown4; have HB4 := Lib.hid hb4; clear hown4 hg4 hb4; simp only [List.length_nil, Nat.zero_add])
    go_loopw [8, 9] (fun v i wr => ∃ k : Nat, k ≤ kp ∧ i = .int .i64 (k : Int) ∧ ∃ X cx L, v = .slice X L.length cx ∧ Own wr w.heap.size (.slice X L.length cx) L ∧ L = b ++ m.take k ∧ Ext w wr) (fun _ i _ => kp - (intOf i).toNat)
    case atStart => exact ⟨0, Nat.zero_le _, rfl, A4, c4, b, rfl, HO4.out, by simp, HB4.out⟩
    case round =>
      obtain ⟨k, hk, rfl, X, cx, L, rfl, hown, hL, hE⟩ := hrel
      have HO := Lib.hid hown
      have HE := Lib.hid hE
      have HL := Lib.hid hL
      have hsz := hE.size
      have hLl : L.length ≤ 200000000 := by rw [hL, List.length_append, List.length_take]; omega
      clear hown hE hL
      by_cases hlt : k < kp
      · have hd1 : decide ((k : Int) < (m.length : Int)) = true := by simp; omega
        have hd2 : decide ((k : Int) < mx) = true := by have := HM.out; simp; omega
        have hkm : k < m.length := by omega
        obtain ⟨ad, x, rfl, hx, hmx', hcell⟩ := b8_at (H2.out.ext HE.out) hkm
        have HS := Lib.hid (show L ++ [m[k]] = b ++ m.take (k + 1) by rw [List.take_succ_eq_append_getElem hkm, ← List.append_assoc, ← HL.out])
        obtain ⟨y, Hy⟩ : ∃ y, Hid (y = m[k]) := ⟨_, Lib.hid rfl⟩
        rw [← Hy.out] at HS hmx'
        have HR := Lib.hid (show Row (wr.alloc (.cells #[.int .u8 (x : Int)] 5)) (some ⟨wr.heap.size, 0, none⟩) ([y].map B8) by have := Row.newM wr #[.int .u8 (x : Int)] 5 (0, 0); simpa [B8, hmx'] using this)
        clear hmx'
        go_wp2_with (at_builtin; refine wpList_append_bytes_keep (l := L) (l2 := [y]) (m := 1) rt22 rfl (.tmp 31) (.tmp 36) rfl (HO.out.ext (Ext.a1 wr _)) rfl rfl rfl HR.out (by omega) (by simp; omega) ?_; intro A5 c5 w5 hown5 _ hg5; have hb5 := (HO.out.ext (Ext.a1 wr (.cells #[.int .u8 (x : Int)] 5))).below hg5 (HE.out.alloc' _) (by simp; omega) (Nat.le_refl _); have HO5 := Lib.hid hown5; have HB5 := Lib.hid hb5; clear hown5 hg5 hb5)
        go_roundw
        case rel => exact ⟨k + 1, by omega, by go_num, A5, c5, L ++ [y], by simp, by simpa using HO5.out, HS.out, HB5.out⟩
        case measure => simp [intOf]; omega
      · obtain rfl : k = kp := by omega
        by_cases hkm : k < m.length
        · have hd1 : decide ((k : Int) < (m.length : Int)) = true := by simp; omega
          have hd2 : decide ((k : Int) < mx) = false := by have := HM.out.2.2 hkm; simp; omega
          go_wp2_with fail
          go_ret2
          exact ⟨_, rfl, by rw [← HL.out]; exact HO.out, HE.out⟩
        · have hd1 : decide ((k : Int) < (m.length : Int)) = false := by simp; omega
          go_wp2_with fail
          go_ret2
          exact ⟨_, rfl, by rw [← HL.out]; exact HO.out, HE.out⟩

theorem same_d_any (A A' C C' : Option Addr) (p p' q q' : Nat) (a b x y : List UInt8) (w : World) (h1 : Row w A (a.map B8)) (h2 : Row w A' (b.map B8)) (h3 : Row w C (x.map B8)) (h4 : Row w C' (y.map B8)) :
    Calls Try.prog 15 #[.agg #[.slice A a.length p, .slice A' b.length p'], .agg #[.slice C x.length q, .slice C' y.length q']] w fun e w' => e = .returned (.bool (a == x && b == y)) ∧ Ext w w' := by
  obtain ⟨t1, ht1⟩ : ∃ t1, (a == x) = t1 := ⟨_, rfl⟩
  obtain ⟨t2, ht2⟩ : ∃ t2, (b == y) = t2 := ⟨_, rfl⟩
  have e1 : ((⟨a.toArray⟩ : ByteArray).toList == (⟨x.toArray⟩ : ByteArray).toList) = t1 := by rw [ByteArray.toList_mk, ByteArray.toList_mk]; exact ht1
  have e2 : ((⟨b.toArray⟩ : ByteArray).toList == (⟨y.toArray⟩ : ByteArray).toList) = t2 := by rw [ByteArray.toList_mk, ByteArray.toList_mk]; exact ht2
  rw [ht1, ht2]
  obtain ⟨wx, hwx⟩ : ∃ wx, (w.alloc (.cells #[.slice A a.length p, .slice A' b.length p'] 24)).alloc (.cells #[.slice C x.length q, .slice C' y.length q'] 24) = wx := ⟨_, rfl⟩
  have HE : Ext w wx := by rw [← hwx]; exact (Ext.a1 _ _).alloc' _
  have s1 := text_at (n := a.length) (c := p) (h1.ext HE) rfl
  have s2 := text_at (n := b.length) (c := p') (h2.ext HE) rfl
  have s3 := text_at (n := x.length) (c := q) (h3.ext HE) rfl
  have s4 := text_at (n := y.length) (c := q') (h4.ext HE) rfl
  unfold Str at s1 s2 s3 s4
  rw [← hwx] at s1 s2 s3 s4
  have HF := Lib.hid (show Ext w ((w.alloc (.cells #[.slice A a.length p, .slice A' b.length p'] 24)).alloc (.cells #[.slice C x.length q, .slice C' y.length q'] 24)) by rw [hwx]; exact HE)
  clear hwx HE h1 h2 h3 h4
  cases t1 <;> cases t2 <;>
  · go_enter Try.func15, Try.ntmps15
    go_wp2_with fail
    go_ret
    exact ⟨rfl, HF.out⟩

end Go.Proofs.Ytjcngipaeoegcaa
