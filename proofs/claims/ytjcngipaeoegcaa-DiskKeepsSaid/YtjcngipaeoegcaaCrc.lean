/-
  What the checksum's functions return.
-/
import Derived.Test.YtjcngipaeoegcaaProg
import Derived.Test.YtjcngipaeoegcaaMath
import Derived.Test.YtjcngipaeoegcaaMem
import Derived.Lib.Hide
import Derived.WalkLawsBesides
import Derived.Outline
namespace Go.Proofs.Ytjcngipaeoegcaa
open Go.RowKit

theorem ret_int {k : IntKind} {a b : Int} (h : a = b) : Ending.returned (.int k a) = .returned (.int k b) := by rw [h]

/-- One turn. -/
theorem turn_any (n : Nat) (w : World) (hn : n < 4294967296) :
    Calls Try.prog 56 #[.int .u32 (n : Int)] w fun e w' => e = .returned (.int .u32 (Crc.T n : Int)) ∧ w = w' := by
  have hx : bits .xor .u32 ((n / 2 : Nat) : Int) (2197175160 : Int) = ((n / 2 ^^^ 2197175160 : Nat) : Int) := u32_xor_nat (n / 2) 2197175160 (by omega) (by omega)
  rcases Nat.mod_two_eq_zero_or_one n with h0 | h0
  · have hc : (((n : Int) % 2) == 1) = false := by simp; omega
    have HT := Lib.hid (show Crc.T n = n / 2 by simp [Crc.T, h0])
    clear h0 hx
    go_enter Try.func56, Try.ntmps56
    go_wp2
    go_ret
    exact ⟨ret_int (by rw [HT.out]; omega), rfl⟩
  · have hc : (((n : Int) % 2) == 1) = true := by simp; omega
    have HT := Lib.hid (show Crc.T n = n / 2 ^^^ 2197175160 by simp [Crc.T, h0, Crc.poly])
    have hd : ((n : Int) / 2) = ((n / 2 : Nat) : Int) := by omega
    rw [← hd] at hx
    clear h0 hd
    go_enter Try.func56, Try.ntmps56
    go_wp2
    go_ret
    exact ⟨ret_int (by rw [HT.out]), rfl⟩

theorem run_take {l : List UInt8} {k c : Nat} (h : k < l.length) (hc : l[k].toNat = c) : Crc.run Crc.ones (l.take (k + 1)) = Crc.Tn 8 (Crc.run Crc.ones (l.take k) ^^^ c) := by
  rw [take_snoc h, Crc.run_snoc, ← hc]; rfl

/-- The document's sum. -/
theorem refSum_any (A : Option Addr) (cap : Nat) (l : List UInt8) (w : World) (hl : l.length ≤ 1000000000) (hr : Row w A (l.map B8)) :
    Calls Try.prog 43 #[.slice A l.length cap] w fun e w' => e = .returned (.int .u32 (Crc.sum l : Int)) ∧ w = w' := by
  go_enter Try.func43, Try.ntmps43
  go_wp2
  go_loop [3, 4] (fun n i => ∃ k : Nat, k ≤ l.length ∧ i = .int .i64 k ∧ n = .int .u32 (Crc.run Crc.ones (l.take k) : Int)) (fun _ i => l.length - (intOf i).toNat)
  case atStart => exact ⟨0, Nat.zero_le _, rfl, rfl⟩
  case round =>
    obtain ⟨k, hk, rfl, rfl⟩ := hrel
    have hb := Crc.run_lt (l.take k) Crc.ones (by decide)
    by_cases hlt : k < l.length
    · obtain ⟨ad, c, rfl, hc, hcl, hcell⟩ := b8_at hr hlt
      have HS := Lib.hid (run_take hlt hcl)
      clear hcl hr
      obtain ⟨m, hm⟩ : ∃ m, m = Crc.run Crc.ones (l.take k) := ⟨_, rfl⟩
      rw [← hm] at hb HS
      rw [← hm]
      have Hm := Lib.hid hm
      clear hm
      have hx : bits .xor .u32 (m : Int) (c : Int) = ((m ^^^ c : Nat) : Int) := u32_xor_nat m c hb (by omega)
      have hmc : m ^^^ c < 2 ^ 32 := Nat.xor_lt_two_pow hb (by omega)
      go_wp2
      go_loop [3, 5] (fun n i => ∃ j : Nat, j ≤ 8 ∧ i = .int .i64 j ∧ n = .int .u32 (Crc.Tn j (m ^^^ c) : Int)) (fun _ i => 8 - (intOf i).toNat)
      case atStart => exact ⟨0, Nat.zero_le _, rfl, rfl⟩
      case round =>
        obtain ⟨j, hj, rfl, rfl⟩ := hrel
        have hbj := Crc.Tn_lt j _ hmc
        have HN := Lib.hid (Crc.Tn_add j 1 (m ^^^ c))
        by_cases hlj : j < 8
        · obtain ⟨q, hq⟩ : ∃ q, q = Crc.Tn j (m ^^^ c) := ⟨_, rfl⟩
          rw [← hq] at hbj HN ⊢
          have Hq := Lib.hid hq
          clear hq
          go_wp2_with (go_at_call 56; refine (turn_any _ _ hbj).mono ?_; rintro e w' ⟨rfl, rfl⟩)
          go_round
          case rel => exact ⟨j + 1, by omega, by go_num, by rw [HN.out]; rfl⟩
          case measure => simp [intOf]; omega
        · obtain rfl : j = 8 := by omega
          go_wp2
          go_round
          case rel => exact ⟨k + 1, by omega, by go_num, by rw [HS.out]⟩
          case measure => simp [intOf]; omega
    · have hx : bits .xor .u32 (Crc.run Crc.ones (l.take k) : Int) (4294967295 : Int) = ((Crc.run Crc.ones (l.take k) ^^^ 4294967295 : Nat) : Int) := u32_xor_nat _ 4294967295 hb (by decide)
      have HE := Lib.hid (show Crc.sum l = Crc.run Crc.ones (l.take k) ^^^ 4294967295 by rw [List.take_of_length_le (by omega)]; rfl)
      go_wp2
      go_ret
      exact ⟨ret_int (by rw [HE.out]), rfl⟩

/-- An array of N cells of which k are laid. -/
def tab (f : Nat → Value) (z : Value) (N k : Nat) : Array Value := ((List.range N).map fun i => if i < k then f i else z).toArray
theorem tab_size (f : Nat → Value) (z : Value) (N k : Nat) : (tab f z N k).size = N := by simp [tab]
theorem tab_get (f : Nat → Value) (z : Value) (N k i : Nat) (h : i < N) : (tab f z N k)[i]? = some (if i < k then f i else z) := by
  simp [tab, h]
theorem tab_set (f : Nat → Value) (z : Value) (N k : Nat) (h : k < N) : (tab f z N k).setIfInBounds k (f k) = tab f z N (k + 1) := by
  apply Array.ext_getElem?
  intro i
  rw [Array.getElem?_setIfInBounds]
  by_cases hi : i < N
  · rw [tab_get _ _ _ _ _ hi, tab_get _ _ _ _ _ hi]
    by_cases he : k = i
    · subst he
      simp [tab_size, h]
    · have : (i < k + 1) = (i < k) := by apply propext; omega
      simp [he, this]
  · rw [if_neg (by omega), Array.getElem?_eq_none (by rw [tab_size]; omega), Array.getElem?_eq_none (by rw [tab_size]; omega)]
theorem setRow_id (w : World) (g : Nat) (cur : Array Value) (t : TypeId) (hg : w.heap[g]? = some (.cells cur t (0, 0))) : w.setRow g cur = w := setRow_self w g cur t (0, 0) hg

/-- The table of sixteen. -/
def halvesF (i : Nat) : Value := .int .u32 (Crc.Tn 4 i : Int)
def halvesV : Array Value := tab halvesF (.int .u32 0) 16 16

theorem halves_any (w : World) : Calls Try.prog 60 #[] w fun e w' => e = .returned (.agg halvesV) ∧ Ext w w' := by
  go_enter Try.func60, Try.ntmps60
  go_wp2
  go_loopw [4] (fun i wr => ∃ k : Nat, k ≤ 16 ∧ i = .int .i64 k ∧ wr.heap[w.heap.size]? = some (.cells (tab halvesF (.int .u32 0) 16 k) 93 (0, 0)) ∧ Ext w wr) (fun i _ => 16 - (intOf i).toNat)
  case atStart => exact ⟨0, Nat.zero_le _, rfl, by rw [heap_alloc_new]; rfl, (Below.refl _ _).alloc (Nat.le_refl _) _⟩
  case round =>
    obtain ⟨k, hk, rfl, hblk, hext⟩ := hrel
    have hsz := lt_of_block hblk
    by_cases hlt : k < 16
    · have hcell : wr.cell? ⟨w.heap.size, k, none⟩ = some (.int .u32 0) := by
        rw [cell_of_row _ _ _ _ _ _ hblk, tab_get _ _ _ _ _ hlt, if_neg (by omega)]
      have hfr := frozen_of_row wr w.heap.size k _ _ hblk
      have HB := Lib.hid (heap_setCell_same wr w.heap.size k _ _ (halvesF k) hblk)
      rw [tab_set _ _ _ _ hlt] at HB
      have HE := Lib.hid (hext.setCell (p := ⟨w.heap.size, k, none⟩) (Nat.le_refl _) (halvesF k))
      unfold halvesF at HB HE
      clear hblk hext
      have hk32 : (k : Nat) < 2 ^ 32 := by omega
      go_wp2
      go_loop [2, 9] (fun n i => ∃ j : Nat, j ≤ 4 ∧ i = .int .i64 j ∧ n = .int .u32 (Crc.Tn j k : Int)) (fun _ i => 4 - (intOf i).toNat)
      case atStart => exact ⟨0, Nat.zero_le _, rfl, rfl⟩
      case round =>
        obtain ⟨j, hj, rfl, rfl⟩ := hrel
        have hbj := Crc.Tn_lt j _ hk32
        have HN := Lib.hid (Crc.Tn_add j 1 k)
        by_cases hlj : j < 4
        · obtain ⟨q, hq⟩ : ∃ q, q = Crc.Tn j k := ⟨_, rfl⟩
          rw [← hq] at hbj HN ⊢
          have Hq := Lib.hid hq
          clear hq
          have ha : bits .and .u32 (q : Int) (1 : Int) = (q : Int) % 2 := by
            rw [show (1 : Int) = ((1 : Nat) : Int) from rfl, u32_and_nat q 1 hbj (by decide), nat_mask1]; omega
          have hx : bits .xor .u32 ((q : Int) / 2) (2197175160 * ((q : Int) % 2)) = (Crc.T q : Int) := by
            rw [show (q : Int) / 2 = ((q / 2 : Nat) : Int) from by omega, show 2197175160 * ((q : Int) % 2) = ((q % 2 * Crc.poly : Nat) : Int) from by unfold Crc.poly; omega,
              u32_xor_nat _ _ (by omega) (by unfold Crc.poly; omega)]
            rfl
          go_wp2
          go_round
          case rel => exact ⟨j + 1, by omega, by go_num, by rw [HN.out]; rfl⟩
          case measure => simp [intOf]; omega
        · obtain rfl : j = 4 := by omega
          go_wp2
          go_roundw
          case rel => exact ⟨k + 1, by omega, by go_num, HB.out, HE.out⟩
          case measure => simp [intOf]; omega
    · obtain rfl : k = 16 := by omega
      have HB := Lib.hid hblk
      have HE := Lib.hid hext
      clear hblk hext
      go_wp2_with (first
        | (with_reducible refine wpList_load_row rfl 93 _ rfl w.heap.size rfl 93 _ (0, 0) _ HB.out Try.underlying93 rfl (by kernel_rfl) ?_)
        | (with_reducible refine wpList_store_row rfl 93 _ _ rfl w.heap.size _ rfl rfl 93 _ HB.out (by kernel_rfl) rfl (by kernel_rfl) ?_))
      rw [setRow_id _ _ _ _ HB.out]
      exact bodyPost_ret (v := .agg halvesV) (results_cell_row rfl _ _ w.heap.size 93 _ (0, 0) _ rfl HB.out Try.underlying93 rfl (by kernel_rfl)) rfl ⟨rfl, HE.out⟩

def bytesF (n i : Nat) : Value := .int .u8 ((n : Int) / 2 ^ (8 * i) % 256)
def bytesV (n : Nat) : Array Value := tab (bytesF n) (.int .u8 0) 4 4
theorem bytesV_one (n : Nat) : (tab (bytesF n) (.int .u8 0) 4 4).all (·.oneCell') = true := by
  simp [tab, List.range_succ, bytesF, Value.oneCell']
theorem bytes_any (n : Nat) (w : World) : Calls Try.prog 47 #[.int .u32 (n : Int)] w fun e w' => e = .returned (.agg (bytesV n)) ∧ Ext w w' := by
  go_enter Try.func47, Try.ntmps47
  go_wp2
  go_loopw [4] (fun i wr => ∃ k : Nat, k ≤ 4 ∧ i = .int .i64 k ∧ wr.heap[w.heap.size]? = some (.cells (tab (bytesF n) (.int .u8 0) 4 k) 78 (0, 0)) ∧ Ext w wr) (fun i _ => 4 - (intOf i).toNat)
  case atStart => exact ⟨0, Nat.zero_le _, rfl, by rw [heap_alloc_new]; rfl, (Below.refl _ _).alloc (Nat.le_refl _) _⟩
  case round =>
    obtain ⟨k, hk, rfl, hblk, hext⟩ := hrel
    have hsz := lt_of_block hblk
    by_cases hlt : k < 4
    · have hcell : wr.cell? ⟨w.heap.size, k, none⟩ = some (.int .u8 0) := by
        rw [cell_of_row _ _ _ _ _ _ hblk, tab_get _ _ _ _ _ hlt, if_neg (by omega)]
      have hfr := frozen_of_row wr w.heap.size k _ _ hblk
      have HB := Lib.hid (heap_setCell_same wr w.heap.size k _ _ (bytesF n k) hblk)
      rw [tab_set _ _ _ _ hlt] at HB
      have HE := Lib.hid (hext.setCell (p := ⟨w.heap.size, k, none⟩) (Nat.le_refl _) (bytesF n k))
      clear hblk hext
      go_wp2
      go_roundw
      case rel => exact ⟨k + 1, by omega, by go_num, HB.out, HE.out⟩
      case measure => simp [intOf]; omega
    · obtain rfl : k = 4 := by omega
      have HB := Lib.hid hblk
      have HE := Lib.hid hext
      clear hblk hext
      go_wp2_with (first
        | (with_reducible refine wpList_load_row rfl 78 _ rfl w.heap.size rfl 78 _ (0, 0) _ HB.out Try.underlying78 rfl (by kernel_rfl) ?_)
        | (with_reducible refine wpList_store_row rfl 78 _ _ rfl w.heap.size _ rfl rfl 78 _ HB.out (by kernel_rfl) rfl (bytesV_one n) ?_))
      rw [setRow_id _ _ _ _ HB.out]
      exact bodyPost_ret (v := .agg (bytesV n)) (results_cell_row rfl _ _ w.heap.size 78 _ (0, 0) _ rfl HB.out Try.underlying78 rfl (by kernel_rfl)) rfl ⟨rfl, HE.out⟩
theorem bytesV_size (n : Nat) : (bytesV n).size = 4 := tab_size _ _ _ _
theorem bytesV_hold (n : Nat) (a b c d : Value) : (#[a, b, c, d] : Array Value).size = (bytesV n).size := by rw [bytesV_size]; rfl
theorem info25 : (Try.prog.info? 78).map (·.size) = some 4 := by kernel_rfl
theorem bytesV_hi (n : Nat) : (Try.prog.info? 78).map (·.size) = some (bytesV n).size := by rw [bytesV_size]; exact info25
theorem bytesV_ok (n : Nat) : (bytesV n).all (·.oneCell') = true := bytesV_one n
theorem bytesF_le (n i : Nat) : bytesF n i = B8 (UInt8.ofNat (n / 256 ^ i)) := by
  unfold bytesF B8
  rw [Crc.u8_toNat, show (256 : Nat) = 2 ^ 8 from rfl, ← Nat.pow_mul]
  simp
theorem bytesV_list (n : Nat) : (bytesV n).toList = (Crc.bytes n).map B8 := by
  apply List.ext_getElem?
  intro i
  have h : (Crc.bytes n).length = 4 := Crc.le_length 4 n
  by_cases hi : i < 4
  · rw [Array.getElem?_toList, show (bytesV n)[i]? = some (bytesF n i) by unfold bytesV; rw [tab_get _ _ _ _ _ hi, if_pos hi], List.getElem?_map, List.getElem?_eq_getElem (by omega)]
    have := Crc.le_get 4 n i (by rw [Crc.le_length]; exact hi)
    rw [bytesF_le]
    unfold Crc.bytes
    rw [this]
    rfl
  · rw [List.getElem?_eq_none (by simp [bytesV, tab_size]; omega), List.getElem?_eq_none (by simp; omega)]

/-- A slice that reads as these bytes, in memory that is as it was but for what is new. -/
def RetBs (w : World) (l : List UInt8) (e : Ending) (w' : World) : Prop := ∃ v, e = .returned v ∧ Bs w' v l ∧ Ext w w'

theorem Row.new (w : World) (cs : Array Value) (t : TypeId) : Row (w.alloc (.cells cs t)) (some ⟨w.heap.size, 0, none⟩) cs.toList := Row.newM w cs t (0, 0)

theorem refBytes_any (n : Nat) (w : World) (hn : n < 4294967296) : Calls Try.prog 42 #[.int .u32 (n : Int)] w (RetBs w (Crc.bytes n)) := by
  go_enter Try.func42, Try.ntmps42
  go_wp2
  go_ret
  refine ⟨_, rfl, ⟨some ⟨w.heap.size, 0, none⟩, 4, by rw [show (Crc.bytes n).length = 4 from Crc.le_length 4 n]; rfl, Nat.le_of_eq (Crc.le_length 4 n), ?_⟩, (Below.refl _ _).alloc (Nat.le_refl _) _⟩
  · have h := Row.new w #[Value.int IntKind.u8 (↑n % 256), Value.int IntKind.u8 (↑n / 256 % 256), Value.int IntKind.u8 (↑n / 65536 % 256), Value.int IntKind.u8 (↑n / 16777216)] 5
    have e : #[Value.int IntKind.u8 (↑n % 256), Value.int IntKind.u8 (↑n / 256 % 256), Value.int IntKind.u8 (↑n / 65536 % 256), Value.int IntKind.u8 (↑n / 16777216)].toList = (Crc.bytes n).map B8 := by
      simp [Crc.bytes, Crc.le, B8]
      omega
    rw [e] at h
    exact h

theorem row4 {w : World} {g t : Nat} {n : Nat} (h : w.heap[g]? = some (.cells (bytesV n) t (0, 0))) : Row w (some ⟨g, 0, none⟩) ((Crc.bytes n).map B8) := by
  rw [← bytesV_list]
  exact fun _ => ⟨_, rfl, fun j u hu => by
    have hadd : (⟨g, 0, none⟩ : Addr).add j = ⟨g, j, none⟩ := by unfold Addr.add; split <;> simp_all
    rw [hadd, cell_of_row _ _ _ _ _ _ h, ← hu]; simp⟩
theorem bytes_len (n : Nat) : (Crc.bytes n).length = 4 := Crc.le_length 4 n
/-- A block of four bytes, cut whole, as a text. -/
theorem run_text4 {w : World} {g t : Nat} {n : Nat} (h : w.heap[g]? = some (.cells (bytesV n) t (0, 0))) : (convert 22 9 (.slice (some ⟨g, 0, none⟩) 4 4)).run Try.prog w = .ok (Str (Crc.bytes n)) w := by
  have := run_text (P := Try.prog) (c := 4) Try.underlying22 Try.underlying5 Try.underlying9 (row4 h)
  rwa [show (Crc.bytes n).length = 4 from Crc.le_length 4 n] at this

/-- Parts: each a slice of bytes. -/
def Parts (w : World) (A : Option Addr) (ps : List (Option Addr × Nat × List UInt8)) : Prop :=
  Row w A (ps.map fun p => .slice p.1 p.2.2.length p.2.1) ∧ ∀ p ∈ ps, Row w p.1 (p.2.2.map B8) ∧ p.2.2.length ≤ 1000000000
theorem Parts.ext {w w' : World} {A : Option Addr} {ps : List (Option Addr × Nat × List UInt8)} (h : Parts w A ps) (hb : Ext w w') : Parts w' A ps :=
  ⟨h.1.ext hb, fun p hp => ⟨(h.2 p hp).1.ext hb, (h.2 p hp).2⟩⟩
def joined (ps : List (Option Addr × Nat × List UInt8)) : List UInt8 := (ps.map (·.2.2)).flatten
theorem joined_one (A : Option Addr) (cap : Nat) (l : List UInt8) : joined [(A, cap, l)] = l := by simp [joined]
/-- Parts laid into a new block. -/
theorem Parts.new {w : World} {ps : List (Option Addr × Nat × List UInt8)} (h : ∀ p ∈ ps, Row w p.1 (p.2.2.map B8) ∧ p.2.2.length ≤ 1000000000) (cs : Array Value)
    (hcs : cs.toList = ps.map fun p => .slice p.1 p.2.2.length p.2.1) (t : TypeId) : Parts (w.alloc (.cells cs t)) (some ⟨w.heap.size, 0, none⟩) ps :=
  ⟨by rw [← hcs]; exact Row.newM w cs t (0, 0), fun p hp => ⟨(h p hp).1.ext (Ext.a1 _ _), (h p hp).2⟩⟩
theorem Parts.one {w : World} {A : Option Addr} {cap n : Nat} {l : List UInt8} (hn : l.length = n) (hr : Row w A (l.map B8)) (hl : l.length ≤ 1000000000) (t : TypeId) :
    Parts (w.alloc (.cells #[.slice A n cap] t)) (some ⟨w.heap.size, 0, none⟩) [(A, cap, l)] := by
  subst hn
  refine Parts.new (fun p hp => ?_) _ rfl t
  simp only [List.mem_cons, List.not_mem_nil, or_false] at hp
  subst hp
  exact ⟨hr, hl⟩
theorem Parts.two {w : World} {A A' : Option Addr} {cap n cap' n' : Nat} {l l' : List UInt8} (hn : l.length = n) (hr : Row w A (l.map B8)) (hl : l.length ≤ 1000000000)
    (hn' : l'.length = n') (hr' : Row w A' (l'.map B8)) (hl' : l'.length ≤ 1000000000) (t : TypeId) :
    Parts (w.alloc (.cells #[.slice A n cap, .slice A' n' cap'] t)) (some ⟨w.heap.size, 0, none⟩) [(A, cap, l), (A', cap', l')] := by
  subst hn
  subst hn'
  refine Parts.new (fun p hp => ?_) _ rfl t
  simp only [List.mem_cons, List.not_mem_nil, or_false] at hp
  rcases hp with rfl | rfl
  · exact ⟨hr, hl⟩
  · exact ⟨hr', hl'⟩
theorem joined_snoc {ps : List (Option Addr × Nat × List UInt8)} {k : Nat} (h : k < ps.length) : joined (ps.take (k + 1)) = joined (ps.take k) ++ ps[k].2.2 := by
  rw [List.take_succ_eq_append_getElem h]
  simp only [joined, List.map_append, List.flatten_append, List.map_cons, List.map_nil, List.flatten_cons, List.flatten_nil, List.append_nil]

theorem halvesV_cell {w : World} {g t : Nat} (h : w.heap[g]? = some (.cells halvesV t (0, 0))) (i : Nat) (hi : i < 16) : w.cell? ⟨g, i, none⟩ = some (.int .u32 (Crc.Tn 4 i : Int)) := by
  rw [cell_of_row _ _ _ _ _ _ h, show halvesV[i]? = _ from tab_get _ _ _ _ _ hi, if_pos hi]; rfl
theorem xor32 (a b : Nat) (ha : a < 2 ^ 32) (hb : b < 2 ^ 32) : bits .xor .u32 (a : Int) (b : Int) = ((a ^^^ b : Nat) : Int) := u32_xor_nat a b ha hb

theorem sum_any (A : Option Addr) (cap : Nat) (ps : List (Option Addr × Nat × List UInt8)) (w : World) (hl : ps.length ≤ 1000000000) (hp : Parts w A ps) :
    Calls Try.prog 48 #[.slice A ps.length cap] w fun e w' => e = .returned (.int .u32 (Crc.sum (joined ps) : Int)) ∧ Ext w w' := by
  have HP := Lib.hid hp
  clear hp
  go_enter Try.func48, Try.ntmps48
  go_wp2_with (first
    | (go_at_call 60; refine (halves_any _).mono ?_; rintro e w1 ⟨rfl, hb1⟩)
    | (with_reducible refine wpList_store_named rfl 93 _ _ rfl w1.heap.size _ rfl rfl 93 _ (heap_alloc_new _ _) (by kernel_rfl) (by kernel_rfl) (by kernel_rfl) w (hb1.alloc' _) hb1.size ?_; intro w2 hb2 hblk2 hs2 ho2))
  have hP2 : Parts w2 A ps := ⟨HP.out.1.ext hb2, fun p hp => ⟨(HP.out.2 p hp).1.ext hb2, (HP.out.2 p hp).2⟩⟩
  have hcl : ∀ i, i < 16 → w2.cell? ⟨w1.heap.size, i, none⟩ = some (.int .u32 (Crc.Tn 4 i : Int)) := fun i hi => halvesV_cell hblk2 i hi
  have HC := Lib.hid hcl
  have HP2 := Lib.hid hP2
  have HB2 := Lib.hid hb2
  clear hP2 hcl hblk2 HP hb1 hb2 hs2 ho2
  go_loop [4, 12] (fun n i => ∃ k : Nat, k ≤ ps.length ∧ i = .int .i64 k ∧ n = .int .u32 (Crc.run Crc.ones (joined (ps.take k)) : Int)) (fun _ i => ps.length - (intOf i).toNat)
  case atStart => exact ⟨0, Nat.zero_le _, rfl, rfl⟩
  case round =>
    obtain ⟨k, hk, rfl, rfl⟩ := hrel
    by_cases hlt : k < ps.length
    · obtain ⟨ad, rfl, hcell⟩ := HP2.out.1.at_ (k := k) (by simpa using hlt)
      obtain ⟨hrow, hlen⟩ := HP2.out.2 ps[k] (List.getElem_mem hlt)
      rw [List.getElem_map] at hcell
      have HJ := Lib.hid (congrArg (Crc.run Crc.ones) (joined_snoc hlt))
      rw [Crc.run_append] at HJ
      obtain ⟨n0, hn0⟩ : ∃ n0, n0 = Crc.run Crc.ones (joined (ps.take k)) := ⟨_, rfl⟩
      have hn0b : n0 < 2 ^ 32 := by rw [hn0]; exact Crc.run_lt _ _ (by decide)
      rw [← hn0] at HJ ⊢
      obtain ⟨⟨B, cb, l⟩, hpk⟩ : ∃ p, p = ps[k] := ⟨_, rfl⟩
      rw [← hpk] at hcell hrow hlen HJ
      simp only at hcell hrow hlen HJ
      have HR := Lib.hid hrow
      clear hn0 hpk hrow
      go_wp2
      go_loop [4, 18] (fun n i => ∃ j : Nat, j ≤ l.length ∧ i = .int .i64 j ∧ n = .int .u32 (Crc.run n0 (l.take j) : Int)) (fun _ i => l.length - (intOf i).toNat)
      case atStart => exact ⟨0, Nat.zero_le _, rfl, rfl⟩
      case round =>
        obtain ⟨j, hj, rfl, rfl⟩ := hrel
        clear hcell
        by_cases hlj : j < l.length
        · obtain ⟨bd, c, rfl, hc, hcl, hcell⟩ := b8_at HR.out hlj
          have hq0 : Crc.run n0 (l.take j) < 2 ^ 32 := Crc.run_lt _ _ hn0b
          have HS := Lib.hid (show Crc.run n0 (l.take (j + 1)) = Crc.Tn 8 (Crc.run n0 (l.take j) ^^^ c) by rw [take_snoc hlj, Crc.run_snoc, ← hcl]; rfl)
          obtain ⟨q, hq⟩ : ∃ q, q = Crc.run n0 (l.take j) := ⟨_, rfl⟩
          rw [← hq] at hq0 HS ⊢
          have e1 := xor32 q c hq0 (by omega)
          have hm0 : q ^^^ c < 2 ^ 32 := Nat.xor_lt_two_pow hq0 (by omega)
          obtain ⟨m0, hm0e⟩ : ∃ m0, m0 = q ^^^ c := ⟨_, rfl⟩
          rw [← hm0e] at e1 hm0 HS
          have cell1 := HC.out (m0 % 16) (by omega)
          have ht1 : Crc.Tn 4 (m0 % 16) < 2 ^ 32 := Crc.Tn_lt _ _ (by omega)
          have H8 := Crc.step_halves m0
          obtain ⟨t1, ht1e⟩ : ∃ t1, t1 = Crc.Tn 4 (m0 % 16) := ⟨_, rfl⟩
          rw [← ht1e] at cell1 ht1 H8
          have e2 := xor32 t1 (m0 / 16) ht1 (by omega)
          have hm1 : t1 ^^^ m0 / 16 < 2 ^ 32 := Nat.xor_lt_two_pow ht1 (by omega)
          obtain ⟨m1, hm1e⟩ : ∃ m1, m1 = t1 ^^^ m0 / 16 := ⟨_, rfl⟩
          rw [← hm1e] at e2 hm1 H8
          have cell2 := HC.out (m1 % 16) (by omega)
          have ht2 : Crc.Tn 4 (m1 % 16) < 2 ^ 32 := Crc.Tn_lt _ _ (by omega)
          obtain ⟨t2, ht2e⟩ : ∃ t2, t2 = Crc.Tn 4 (m1 % 16) := ⟨_, rfl⟩
          rw [← ht2e] at cell2 ht2 H8
          have e3 := xor32 t2 (m1 / 16) ht2 (by omega)
          rw [← H8] at e3
          rw [← HS.out] at e3
          rw [show ((m0 / 16 : Nat) : Int) = (m0 : Int) / 16 from by omega] at e2
          rw [show ((m1 / 16 : Nat) : Int) = (m1 : Int) / 16 from by omega] at e3
          clear hcl HS hq hm0e ht1e hm1e ht2e H8
          go_wp2
          go_round
          case rel => exact ⟨j + 1, by omega, by go_num, rfl⟩
          case measure => simp [intOf]; omega
        · rw [show l.take j = l from List.take_of_length_le (by omega), ← HJ.out]
          go_wp2
          go_round
          case rel => exact ⟨k + 1, by omega, by go_num, rfl⟩
          case measure => simp [intOf]; omega
    · have hb := Crc.run_lt (joined (ps.take k)) Crc.ones (by decide)
      have hx : bits .xor .u32 (Crc.run Crc.ones (joined (ps.take k)) : Int) (4294967295 : Int) = ((Crc.run Crc.ones (joined (ps.take k)) ^^^ 4294967295 : Nat) : Int) := xor32 _ 4294967295 hb (by decide)
      have HE := Lib.hid (show Crc.sum (joined ps) = Crc.run Crc.ones (joined (ps.take k)) ^^^ 4294967295 by rw [List.take_of_length_le (by omega)]; rfl)
      obtain ⟨q, hq⟩ : ∃ q, q = Crc.run Crc.ones (joined (ps.take k)) := ⟨_, rfl⟩
      rw [← hq] at hx hb HE ⊢
      clear hq
      go_wp2
      go_ret
      exact ⟨ret_int (by rw [HE.out]), HB2.out⟩

end Go.Proofs.Ytjcngipaeoegcaa
