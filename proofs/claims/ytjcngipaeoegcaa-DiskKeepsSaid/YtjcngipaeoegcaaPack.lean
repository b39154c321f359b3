/-
  What the functions on numbers as bytes return.
-/
import Derived.Test.YtjcngipaeoegcaaProg
import Derived.Test.YtjcngipaeoegcaaPackMath
import Derived.Test.YtjcngipaeoegcaaOwn
import Derived.Test.YtjcngipaeoegcaaReg
import Derived.Test.YtjcngipaeoegcaaLen
import Derived.WalkLawsBesides
import Derived.WalkSpells
import Derived.WalkMore
import Derived.Outline
import Derived.Deep.DeepMust
namespace Go.Proofs.Ytjcngipaeoegcaa
open Go.RowKit

theorem ret_i {k : IntKind} {a b : Int} (h : a = b) : Ending.returned (.int k a) = .returned (.int k b) := by rw [h]
theorem bt22 : ByteTy Try.prog 22 5 := ⟨Try.underlying22, Try.underlying5, by
  obtain ⟨i0, hi, hz0, hz1, hz2⟩ := info_parts (show (Try.prog.info? 5).map (fun i => (i.zero, i.size, i.bytes)) = some (some (.int .u8 0), 1, 1) by kernel_rfl)
  exact ⟨i0, hi, hz0, hz1, hz2⟩⟩

/-- How many bytes a number needs. -/
theorem need_any (n : Nat) (w : World) (h : n ≤ 9223372036854775807) : Calls Try.prog 58 #[.int .i64 (n : Int)] w fun e w' => e = .returned (.int .i64 (Pack.need n : Int)) ∧ w = w' := by
  have hb := Lib.bitLen_le n 64 (by omega) (by omega)
  have HN := Lib.hid (show (Pack.need n : Int) = ((Lib.bitLen n : Int) + 7) / 8 by unfold Pack.need; omega)
  have hx := len64_any (n : Int) w (by omega) (by omega)
  rw [Int.toNat_natCast] at hx
  have HX := Lib.hid hx
  clear hx
  go_enter Try.func58, Try.ntmps58
  go_wp2_with (go_at_call 65; refine HX.out.mono ?_; rintro e w' ⟨rfl, rfl⟩)
  go_ret
  exact ⟨ret_i (by rw [HN.out]), rfl⟩

/-- A slice of the call's own that holds these bytes. -/
def RetOwn (w : World) (l : List UInt8) (e : Ending) (w' : World) : Prop := ∃ v, e = .returned v ∧ Own w' w.heap.size v l ∧ Ext w w'

theorem Row.none_nil {w : World} {xs : List Value} (h : Row w none xs) : xs = [] := by
  rcases xs with _ | ⟨x, xs⟩
  · rfl
  · obtain ⟨ad, e, _⟩ := h (by simp)
    cases e
theorem clone_any (A : Option Addr) (c : Nat) (l : List UInt8) (w : World) (hr : Row w A (l.map B8)) (hl : l.length ≤ 10000000000) :
    Calls Try.prog 57 #[.slice A l.length c] w (RetOwn w l) := by
  cases A with
  | none =>
    obtain rfl : l = [] := by simpa using hr.none_nil
    have h1 := fun (w : World) => Lib.run_eql_slice_nil (P := Try.prog) w 22 5 none 0 c 0 0 Try.underlying22
    clear hr
    simp only [List.length_nil]
    go_enter Try.func57, Try.ntmps57
    go_wp2
    go_ret
    exact ⟨_, rfl, Own.nil _ _, Below.refl _ _⟩
  | some ad =>
    have h1 := fun (w : World) => Lib.run_eql_slice_nil (P := Try.prog) w 22 5 (some ad) l.length c 0 0 Try.underlying22
    have HR := Lib.hid hr
    clear hr
    go_enter Try.func57, Try.ntmps57
    go_wp2_with (at_builtin; refine wpList_append_bytes bt22 rfl (.tmp 5) (.tmp 6) rfl (Own.new w w.heap.size (Nat.le_refl _) [] 0 rfl (by simp) #[] rfl) rfl rfl rfl (HR.out.ext (Ext.a1 _ _)) (by simp; omega) (by simp) ?_; intro A4 c4 w4 hown4 hg4 hbl4; simp only [List.length_nil, Nat.zero_add, List.nil_append] at hown4 hg4; have hb4 := Lib.hid ((Own.new w w.heap.size (Nat.le_refl _) [] 0 rfl (by simp) #[] rfl).below hg4 (Ext.a1 w _) (by simp) (Nat.le_refl _)); have HO4 := Lib.hid hown4; clear hown4 hg4 hbl4)
    go_ret
    exact ⟨_, rfl, HO4.out, hb4.out⟩

/-- Integers in memory. -/
def I64 (n : Int) : Value := .int .i64 n
def ones (ns : List Int) : List UInt8 := (ns.map fun n => Pack.one n.toNat).flatten
theorem ones_snoc {ns : List Int} {k : Nat} (h : k < ns.length) : ones (ns.take (k + 1)) = ones (ns.take k) ++ Pack.one (ns[k]).toNat := by
  rw [List.take_succ_eq_append_getElem h]
  simp only [ones, List.map_append, List.flatten_append, List.map_cons, List.map_nil, List.flatten_cons, List.flatten_nil, List.append_nil]
theorem int_at {w : World} {A : Option Addr} {ns : List Int} (hr : Row w A (ns.map I64)) {k : Nat} (hk : k < ns.length) :
    ∃ ad z, A = some ad ∧ ns[k] = z ∧ w.cell? (ad.add k) = some (.int .i64 z) := by
  obtain ⟨ad, e, h⟩ := hr.at_ (k := k) (by simpa using hk)
  exact ⟨ad, ns[k], e, rfl, by simpa [I64] using h⟩
theorem b8_of (n : Nat) : B8 (UInt8.ofNat n) = .int .u8 ((n : Int) % 256) := by
  unfold B8
  rw [Crc.u8_toNat]
  simp

theorem Row.byte (w : World) (x : Int) (n : Nat) (hx : x = (n : Int) % 256) : Row (w.alloc (.cells #[.int .u8 x] 5)) (some ⟨w.heap.size, 0, none⟩) ([UInt8.ofNat n].map B8) := by
  rw [List.map_singleton, b8_of, ← hx]
  exact Row.newM w #[.int .u8 x] 5 (0, 0)
theorem put_none {l : List UInt8} {ns : List Int} {k : Nat} (hk : k < ns.length) (h : ns[k] < 0) : Pack.put l ns = none := by
  unfold Pack.put
  rw [if_pos]
  rw [List.any_eq_true]
  exact ⟨ns[k], List.getElem_mem hk, by simpa using h⟩
theorem put_some {l : List UInt8} {ns : List Int} (h : ∀ j, j < ns.length → 0 ≤ ns.getD j 0) : Pack.put l ns = some (l ++ ones ns) := by
  unfold Pack.put
  rw [if_neg]
  · rfl
  · rw [List.any_eq_true]
    rintro ⟨x, hx, hneg⟩
    obtain ⟨j, hj, rfl⟩ := List.getElem_of_mem hx
    have := h j hj
    rw [List.getD_eq_getElem?_getD, List.getElem?_eq_getElem hj] at this
    simp at this hneg
    omega

def RetPut (w : World) (r : Option (List UInt8)) (e : Ending) (w' : World) : Prop :=
  Ext w w' ∧ match r with
  | some l => ∃ v, e = .returned (.tuple #[v, .int .i64 0]) ∧ Own w' w.heap.size v l
  | none => e = .returned (.tuple #[.slice none 0 0, .int .i64 50])

set_option maxHeartbeats 1000000 in
theorem put_any (A A2 : Option Addr) (c c2 : Nat) (l : List UInt8) (ns : List Int) (w : World) (hr : Row w A (l.map B8)) (hl : l.length ≤ 1000000000)
    (hr2 : Row w A2 (ns.map I64)) (hn : ns.length ≤ 1000000000) (hw : ∀ n ∈ ns, n ≤ 9223372036854775807) :
    Calls Try.prog 44 #[.slice A l.length c, .slice A2 ns.length c2] w (RetPut w (Pack.put l ns)) := by
  have HR := Lib.hid hr
  have HR2 := Lib.hid hr2
  have HW := Lib.hid hw
  clear hr hr2 hw
  go_enter Try.func44, Try.ntmps44
  go_wp2_with (go_at_call 57; refine (clone_any _ _ _ _ HR.out (by omega)).mono ?_; rintro e w1 ⟨v, rfl, hv, hb1⟩)
  obtain ⟨A1, c1, rfl, hc1⟩ := hv.shape
  have HV := Lib.hid hv
  have HB1 := Lib.hid hb1
  clear hv hb1 hc1
  go_loopw [6, 14] (fun d i wr => ∃ k : Nat, k ≤ ns.length ∧ i = .int .i64 k ∧ ∃ A' c' L, d = .slice A' L.length c' ∧ L.length ≤ l.length + 9 * k ∧ Own wr w.heap.size (.slice A' L.length c') L ∧ L = l ++ ones (ns.take k) ∧ (∀ j, j < k → 0 ≤ ns.getD j 0) ∧ Ext w wr) (fun _ i _ => ns.length - (intOf i).toNat)
  case atStart => exact ⟨0, Nat.zero_le _, rfl, A1, c1, l, rfl, by omega, HV.out, by simp [ones], fun j hj => by omega, HB1.out⟩
  case round =>
    obtain ⟨k, hk, rfl, A', c', L, rfl, hnb, hown, hLe, hpos, hext⟩ := hrel
    obtain ⟨wo, rfl⟩ : ∃ wo : World, wo = wr := ⟨_, rfl⟩
    have HO := Lib.hid hown
    have HLe := Lib.hid hLe
    have HP := Lib.hid hpos
    have HE := Lib.hid hext
    have hsz := hext.size
    clear hown hLe hpos hext
    by_cases hlt : k < ns.length
    · obtain ⟨ad, z, rfl, hz, hcell0⟩ := int_at HR2.out hlt
      have hcell := HE.out.cellAt hcell0
      have HZ := Lib.hid hz
      have hzb : z ≤ 9223372036854775807 := by rw [← hz]; exact HW.out _ (List.getElem_mem hlt)
      clear hcell0 hz
      by_cases hneg : z < 0
      · have HF := Lib.hid (put_none (l := l) hlt (by rw [HZ.out]; exact hneg))
        go_wp2
        go_ret2
        refine ⟨HE.out, ?_⟩
        rw [HF.out]
        rfl
      · obtain ⟨m, rfl⟩ : ∃ m : Nat, z = (m : Int) := ⟨z.toNat, by omega⟩
        have hm : m ≤ 9223372036854775807 := by omega
        have hn8 := Pack.need_le8 m (by omega)
        obtain ⟨q0, Hq0⟩ : ∃ q0, Hid (q0 = Pack.need m) := ⟨_, Lib.hid rfl⟩
        rw [← Hq0.out] at hn8
        have hneed := fun w => need_any m w hm
        rw [← Hq0.out] at hneed
        have HNeed := Lib.hid hneed
        clear hneed hneg hzb
        go_wp2_with (first
          | (go_at_call 58; refine (HNeed.out _).mono ?_; rintro e w2 ⟨rfl, rfl⟩)
          | (at_builtin; go_must (refine wpList_append_bytes (m := 1) (l2 := [UInt8.ofNat q0]) bt22 rfl (.tmp 22) (.tmp 25) rfl (HO.out.ext (Ext.a1 _ _)) rfl rfl rfl (Row.byte _ _ _ (by omega)) (by simp; omega) (by simp; omega) ?_); intro A3 c3 w3 hown3 hg3 hbl3; have hb3 := Lib.hid ((HO.out.ext (Ext.a1 _ _)).below hg3 (HE.out.alloc hsz _) (by simp; omega) (Nat.le_refl _)); have HO3 := Lib.hid hown3; clear hown3 hg3 hbl3))
        go_loopw [6, 9] (fun d i wr => ∃ q j : Nat, q + j = q0 ∧ i = .int .i64 q ∧ ∃ A' c' M, d = .slice A' M.length c' ∧ M.length = L.length + 1 + j ∧ Own wr w.heap.size (.slice A' M.length c') M ∧ M = L ++ [UInt8.ofNat q0] ++ (Pack.be q0 m).take j ∧ Ext w wr) (fun _ i _ => (intOf i).toNat)
        case atStart => exact ⟨q0, 0, rfl, rfl, A3, c3, L ++ [UInt8.ofNat q0], by simp, by simp, by simpa using HO3.out, by simp, hb3.out⟩
        case round =>
          obtain ⟨q, j, hqj, rfl, A5, c5, M, rfl, hMn, hown, hM, hext⟩ := hrel
          have HO5 := Lib.hid hown
          have HE5 := Lib.hid hext
          have HM := Lib.hid hM
          have HMn := Lib.hid hMn
          have hMb : M.length ≤ 20000000000 := by omega
          have hsz5 := hext.size
          clear hown hext hM hMn
          by_cases hq : q = 0
          · subst hq
            have HF := Lib.hid (show M = l ++ ones (ns.take (k + 1)) by
              rw [HM.out, show j = q0 by omega, List.take_of_length_le (by rw [Pack.be_length]; omega), List.append_assoc, List.singleton_append, Hq0.out, ones_snoc hlt, HZ.out, HLe.out, ← List.append_assoc]
              rfl)
            have HPk := Lib.hid (show ∀ i, i < k + 1 → 0 ≤ ns.getD i 0 by
              intro i hi
              by_cases h : i < k
              · exact HP.out i h
              · rw [show i = k by omega, List.getD_eq_getElem?_getD, List.getElem?_eq_getElem hlt, HZ.out]; simp)
            go_wp2
            go_roundw
            case rel => exact ⟨k + 1, by omega, by go_num, A5, c5, M, rfl, by have := HMn.out; omega, HO5.out, HF.out, HPk.out, HE5.out⟩
            case measure => simp [intOf]; omega
          · obtain ⟨p, rfl⟩ : ∃ p, q = p + 1 := ⟨q - 1, by omega⟩
            have HX := Lib.hid (show (Pack.be q0 m).take (j + 1) = (Pack.be q0 m).take j ++ [UInt8.ofNat (m / 256 ^ p)] by
              rw [List.take_succ_eq_append_getElem (by rw [Pack.be_length]; omega), Pack.be_get, show q0 - 1 - j = p by omega])
            have hpw : (m : Int) / 2 ^ (8 * p) % 256 = ((m / 256 ^ p : Nat) : Int) % 256 := by
              rw [Pack.pow256]; simp
            have HW1 := Lib.hid hpw
            clear hpw
            go_wp2_with (at_builtin; go_must (refine wpList_append_bytes (m := 1) (l2 := [UInt8.ofNat (m / 256 ^ p)]) bt22 rfl (.tmp 31) (.tmp 37) rfl (HO5.out.ext (Ext.a1 _ _)) rfl rfl rfl (Row.byte _ _ _ HW1.out) (by simp; omega) (by simp; omega) ?_); intro A7 c7 w7 hown7 hg7 hbl7; have hb7 := Lib.hid ((HO5.out.ext (Ext.a1 _ _)).below hg7 (HE5.out.alloc hsz5 _) (by simp; omega) (Nat.le_refl _)); have HO7 := Lib.hid hown7; clear hown7 hg7 hbl7)
            go_roundw
            case rel => exact ⟨p, j + 1, by omega, by go_num, A7, c7, M ++ [UInt8.ofNat (m / 256 ^ p)], by simp, by rw [List.length_append, HMn.out]; rfl, by simpa using HO7.out, by rw [HX.out, HM.out, List.append_assoc], hb7.out⟩
            case measure => simp [intOf]
    · have HF := Lib.hid (put_some (l := l) (ns := ns) (fun j hj => HP.out j (by omega)))
      have hLF : L = l ++ ones ns := by rw [HLe.out, List.take_of_length_le (by omega)]
      have HLF := Lib.hid hLF
      clear hLF
      go_wp2
      go_ret2
      refine ⟨HE.out, ?_⟩
      rw [HF.out]
      exact ⟨_, rfl, by rw [← HLF.out]; exact HO.out⟩

theorem put_one (l : List UInt8) (n : Nat) : Pack.put l [(n : Int)] = some (l ++ Pack.one n) := by
  rw [put_some (by intro j hj; have : j = 0 := by simpa using hj
                   subst this; simp)]
  simp [ones]

/-- A text behind bytes. -/
theorem text_any (A A2 : Option Addr) (c c2 : Nat) (l t : List UInt8) (w : World) (hr : Row w A (l.map B8)) (hl : l.length ≤ 1000000000) (hr2 : Row w A2 (t.map B8)) (ht : t.length ≤ 1000000000) :
    Calls Try.prog 34 #[.slice A l.length c, .slice A2 t.length c2] w (RetOwn w (Pack.text l t)) := by
  have HR := Lib.hid hr
  have HR2 := Lib.hid hr2
  clear hr hr2
  go_enter Try.func34, Try.ntmps34
  go_wp2_with fail
  refine (put_any A _ c 1 l [(t.length : Int)] _ (HR.out.ext (Ext.a1 _ _)) hl (Row.newM _ _ _ _) (by simp) (by intro n hn; simp at hn; omega)).mono ?_
  intro e w1 ⟨hb1, h1⟩
  rw [put_one] at h1
  obtain ⟨v, he, hown⟩ := h1
  subst he
  obtain ⟨A3, c3, hv, hc3⟩ := hown.shape
  subst hv
  have hown' := hown.mono (B' := w.heap.size) (by simp)
  have HO := Lib.hid hown'
  have hb : Ext w w1 := (Ext.a1 _ _).trans' hb1
  have HB := Lib.hid hb
  have h8 := Pack.need_le8 t.length (by omega)
  have hln : (l ++ Pack.one t.length).length ≤ 1000000009 := by rw [List.length_append, Pack.one_length]; omega
  obtain ⟨M, HM⟩ : ∃ M, Hid (M = l ++ Pack.one t.length) := ⟨_, Lib.hid rfl⟩
  rw [← HM.out] at HO hln ⊢
  have hsz := hb.size
  clear hown hown' hb hb1 hc3 h8
  go_wp2_with (at_builtin; go_must (refine wpList_append_bytes bt22 rfl (.tmp 15) (.tmp 16) rfl HO.out rfl rfl rfl (HR2.out.ext HB.out) (by omega) hsz ?_); intro A7 c7 w7 hown7 hg7 hbl7; have hb7 := Lib.hid (HO.out.below hg7 HB.out hsz (Nat.le_refl _)); have HO7 := Lib.hid hown7; clear hown7 hg7 hbl7)
  go_ret
  exact ⟨_, rfl, by unfold Pack.text; rw [← HM.out]; exact HO7.out, hb7.out⟩

end Go.Proofs.Ytjcngipaeoegcaa
