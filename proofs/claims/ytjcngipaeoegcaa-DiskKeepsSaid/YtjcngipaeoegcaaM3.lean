/-
  Joined: D17, D18, D19.
-/
import Derived.Test.YtjcngipaeoegcaaM2
import Derived.Test.YtjcngipaeoegcaaD2
import Derived.Test.YtjcngipaeoegcaaD9
import Derived.Test.YtjcngipaeoegcaaD3
import Derived.Test.YtjcngipaeoegcaaFrame3
import Derived.Test.YtjcngipaeoegcaaD5
namespace Go.Proofs.Ytjcngipaeoegcaa
open Go.RowKit

/-- Behind the store into the disk of the call's own: N the disk, L the file, R the result. -/
def Mid (N L R : Nat) (cs : Array Value) (ls : Value) (rs : List (List UInt8)) (q : List UInt8 × List UInt8) : Say := fun w _ => ∃ x y, Rec w N 24 #[x, y] ∧ Bs w x q.1 ∧ Bs w y q.2 ∧ Rec w L 50 cs ∧ Rec w R 24 #[.slice none 0 0, .slice none 0 0] ∧ LsO w 0 ls rs
theorem Mid.ext {N L R : Nat} {cs : Array Value} {ls : Value} {rs : List (List UInt8)} {q : List UInt8 × List UInt8} {w w' : World} {v : Value} (h : Mid N L R cs ls rs q w v) (he : Ext w w') : Mid N L R cs ls rs q w' v := by
  obtain ⟨x, y, h1, h2, h3, h4, h5, h6⟩ := h
  exact ⟨x, y, h1.ext he, h2.ext he, h3.ext he, h4.ext he, h5.ext he, h6.ext he⟩
theorem isSome_eq {α : Type} (x : α) : (some x).isSome = true := rfl

set_option maxHeartbeats 4000000 in
set_option maxRecDepth 100000 in
theorem open_any (A A' : Option Addr) (c c' : Nat) (a b : List UInt8)  (w : World)  (hca : a.length ≤ c) (hcb : b.length ≤ c') (ha : a.length ≤ 10000000) (hb : b.length ≤ 10000000) (h1 : Row w A (a.map B8)) (h2 : Row w A' (b.map B8)) :
    Calls Try.prog 9 #[.agg #[.slice A a.length c, .slice A' b.length c']] w (RetOpen w (Disk.opened a b)) := by
  have H1 := Lib.hid h1
  have H2 := Lib.hid h2
  have HQ := fun w H1 H2 => read_any A A' c c' a b w hca hcb (by omega) (by omega) H1 H2
  clear h1 h2
  obtain ⟨B, hB⟩ : ∃ B, w.heap.size = B := ⟨_, rfl⟩
  obtain ⟨o, Ho⟩ : ∃ o, Hid (Disk.which a b = o) := ⟨_, Lib.hid rfl⟩
  rw [Ho.out] at HQ
  have HQ := Lib.hid HQ
  go_enter Try.func9, Try.ntmps9
  go_wp2_with fail
  obtain ⟨wx, hwx⟩ : ∃ wx, (w.alloc (.cells #[.slice A a.length c, .slice A' b.length c'] 24)).alloc (.cells #[.slice none 0 0, .slice none 0 0] 24) = wx := ⟨_, rfl⟩
  have HE := Lib.hid (show Ext w wx by rw [← hwx]; exact (Ext.a1 _ _).alloc' _)
  have RB := Lib.hid (show Rec wx B 24 #[.slice A a.length c, .slice A' b.length c'] by rw [← hwx, ← hB]; exact (Rec.new w _ _).ext (Ext.a1 _ _))
  have RR := Lib.hid (show Rec wx (B + 1) 24 #[.slice none 0 0, .slice none 0 0] by rw [← hwx, ← hB]; have := Rec.new (w.alloc (.cells #[.slice A a.length c, .slice A' b.length c'] 24)) 24 #[.slice none 0 0, .slice none 0 0]; rw [World.size_alloc] at this; exact this)
  try rw [hwx]
  clear hwx
  have hn : ∀ u ∈ (#[.slice none 0 0, .slice none 0 0] : Array Value).toList, ∀ x, u ≠ B8 x := noBy2 (by intro y e; cases e) (by intro y e; cases e)
  have Hn := Lib.hid hn
  clear hn
  refine (own_any A A' c c' a b wx (by omega) (by omega) (H1.out.ext HE.out) (H2.out.ext HE.out)).mono ?_
  rintro e w1 ⟨u1, u2, rfl, hu1, hu2, hb1⟩
  have BU1 := Lib.hid hu1.bs
  have BV1 := Lib.hid hu2.bs
  have HE1 := Lib.hid (HE.out.trans' hb1)
  have RB1 := Lib.hid (RB.out.ext hb1)
  have RR1 := Lib.hid (RR.out.ext hb1)
  have hcu1 := hu1.bs.cell1
  have hcu2 := hu2.bs.cell1
  have Hnu := Lib.hid (noBy2 hu1.bs.noB8 hu2.bs.noB8)
  clear hu1 hu2 hb1
  go_wp2_with first
    | (refine wpList_store_named rfl 24 _ _ rfl w1.heap.size _ rfl rfl 24 _ (heap_alloc_new _ _) (by kernel_rfl) rfl (by simp [hcu1, hcu2]) w1 (Ext.a1 _ _) (Nat.le_refl _) ?_; intro w2 hb2 hblk2 hs2 ho2; have HNEW2 := Lib.hid hblk2; have HSZ2 := Lib.hid hs2; have HE2 := Lib.hid (HE1.out.trans' hb2); have RB2 := Lib.hid (RB1.out.ext hb2); have RR2 := Lib.hid (RR1.out.ext hb2); have BU2 := Lib.hid (BU1.out.ext hb2); have BV2 := Lib.hid (BV1.out.ext hb2); have RB2x := Lib.hid (show w2.heap[B]? = some (.cells _ 24 (0, 0)) from RB2.out); clear hb2 hblk2 hs2 ho2)
    | (with_reducible refine wpList_load_row rfl 24 _ rfl B rfl 24 _ (0, 0) _ RB2x.out Try.underlying24 rfl (by kernel_rfl) ?_)
  have RN2 := Lib.hid (show Rec w2 w1.heap.size 24 #[u1, u2] from HNEW2.out)
  obtain ⟨N, HN⟩ : ∃ N, Hid (w1.heap.size = N) := ⟨_, Lib.hid rfl⟩
  have hNB : B + 2 ≤ N := by rw [← HN.out]; have := RR1.out.lt; omega
  have HNw := Lib.hid (show w2.heap.size = N + 1 by rw [← HN.out, HSZ2.out]; simp)
  rw [HN.out] at RN2 ⊢
  refine (HQ.out w2 (H1.out.ext HE2.out) (H2.out.ext HE2.out)).mono ?_
  rintro e w3 ⟨v0, v1, v2, v3, hlog, rfl, hb3⟩
  have HLOG3 := Lib.hid hlog
  have HLC := hlog.cells
  have HE3 := Lib.hid (HE2.out.trans' hb3)
  have RB3 := Lib.hid (RB2.out.ext hb3)
  have RR3 := Lib.hid (RR2.out.ext hb3)
  have BU3 := Lib.hid (BU2.out.ext hb3)
  have BV3 := Lib.hid (BV2.out.ext hb3)
  have RN3 := Lib.hid (RN2.out.ext hb3)
  have hw23 := hb3.size
  clear hlog hb3 RB1 RB2 RB2x RR1 RR2 BU1 BV1 BU2 BV2 RN2 HSZ2 HNEW2
  cases o with
  | none =>
    obtain ⟨rfl, rfl, rfl, rfl⟩ := HLOG3.out
    rw [show otherOf none = .nilFunc from rfl, show (none : Option (Bool × Disk.File)).isSome = false from rfl]
    go_wp2_with first
      | (refine wpList_store_named rfl 50 _ _ rfl w3.heap.size _ rfl rfl 50 _ (heap_alloc_new _ _) (by kernel_rfl) rfl (HLC) w3 (Ext.a1 _ _) (Nat.le_refl _) ?_; intro w4 hb4 hblk4 hs4 ho4; have HNEW4 := Lib.hid hblk4; have HSZ4 := Lib.hid hs4; have HE4 := Lib.hid (HE3.out.trans' hb4); have RB4 := Lib.hid (RB3.out.ext hb4); have RR4 := Lib.hid (RR3.out.ext hb4); have BU4 := Lib.hid (BU3.out.ext hb4); have BV4 := Lib.hid (BV3.out.ext hb4); have RN4 := Lib.hid (RN3.out.ext hb4); have HLOG4 := Lib.hid (HLOG3.out.ext hb4); have RN4x := Lib.hid (show w4.heap[N]? = some (.cells _ 24 (0, 0)) from RN4.out); have RR4x := Lib.hid (show w4.heap[B + 1]? = some (.cells _ 24 (0, 0)) from RR4.out); clear hb4 hblk4 hs4 ho4)
      | (with_reducible refine wpList_load_row rfl 24 _ rfl N rfl 24 _ (0, 0) _ RN4x.out Try.underlying24 rfl (by kernel_rfl) ?_)
      | (refine wpList_store_rec rfl 24 _ _ rfl (B + 1) _ rfl rfl 24 _ RR4x.out (by kernel_rfl) rfl (by simp [hcu1, hcu2]) w HE4.out (by omega) ?_; intro wz hbz hblkz hgz hsz; have HBz := Lib.hid hbz; have HKz := Lib.hid hblkz; have HGz := Lib.hid hgz; clear hbz hblkz hgz hsz)
    refine bodyPost_ret (v := .tuple #[.agg #[u1, u2], .slice none 0 0, .int .i64 60]) ?_ rfl ?_
    · exact results3 (fn := Try.f9) (p := 2) (q := 3) (r := 4) rfl _ (B + 1) (by rfl) HKz.out rfl
    rw [show Disk.opened a b = ((a, b), [], 60) by unfold Disk.opened; rw [Ho.out]]
    exact ⟨_, _, _, _, rfl, BU4.out.rec RR4x.out Hn.out HGz.out, BV4.out.rec RR4x.out Hn.out HGz.out, Nat.le_refl _, Ls.none _, HBz.out⟩
  | some q =>
    obtain ⟨s, f⟩ := q
    obtain ⟨rfl, ⟨Ar, cr, rfl, hls⟩, ⟨Ag, cg, rfl, hcg, hrow⟩, rfl⟩ := HLOG3.out
    have HLS3 := Lib.hid (hls.1.mono (Nat.zero_le _))
    have HG3 := Lib.hid hrow
    have hcr : f.recs.length ≤ cr := by obtain ⟨A9, c9, e9, h9⟩ := hls.1.shape; injection e9 with _ _ e9; omega
    have hgl : f.good.length ≤ 10000000 := by have := (Disk.file_good (Disk.which_file Ho.out)).2; cases s <;> simp at this <;> omega
    clear hls hrow HLOG3
    have HA := Lib.hid (show Disk.opened a b = (Disk.put s a b f.good, f.recs, 0) by unfold Disk.opened; rw [Ho.out])
    obtain ⟨fg, Hfg⟩ : ∃ fg, Hid (f.good = fg) := ⟨_, Lib.hid rfl⟩
    obtain ⟨rs, Hrs⟩ : ∃ rs, Hid (f.recs = rs) := ⟨_, Lib.hid rfl⟩
    obtain ⟨gn, Hgn⟩ : ∃ gn : Int, Hid ((f.gen : Int) = gn) := ⟨_, Lib.hid rfl⟩
    rw [Hfg.out] at hgl HG3 hcg HA
    rw [Hrs.out] at HLS3 hcr HA
    rw [show otherOf (some (s, f)) = place (!s) from rfl, show (some (s, f)).isSome = true from rfl, show Disk.genOf (some (s, f)) = f.gen from rfl, Hfg.out, Hrs.out, Hgn.out]
    rw [show Disk.genOf (some (s, f)) = f.gen from rfl, Hfg.out, Hrs.out, Hgn.out] at HLC
    cases s with
    | false =>
      rw [show place false = .func (.func 36) #[] #[] from rfl] at HLC
      rw [show place false = .func (.func 36) #[] #[] from rfl]
      go_wp2_with first
        | (refine wpList_store_named rfl 50 _ _ rfl w3.heap.size _ rfl rfl 50 _ (heap_alloc_new _ _) (by kernel_rfl) rfl (HLC) w3 (Ext.a1 _ _) (Nat.le_refl _) ?_; intro w4 hb4 hblk4 hs4 ho4; have HNEW4 := Lib.hid hblk4; have HSZ4 := Lib.hid hs4; have HE4 := Lib.hid (HE3.out.trans' hb4); have RB4 := Lib.hid (RB3.out.ext hb4); have RR4 := Lib.hid (RR3.out.ext hb4); have BU4 := Lib.hid (BU3.out.ext hb4); have BV4 := Lib.hid (BV3.out.ext hb4); have RN4 := Lib.hid (RN3.out.ext hb4); have HLS4 := Lib.hid (HLS3.out.ext hb4); have HG4 := Lib.hid (HG3.out.ext hb4); clear hb4 hblk4 hs4 ho4)
      have RL4 := Lib.hid (show Rec w4 w3.heap.size 50 #[.int .i64 gn, .slice Ar rs.length cr, .slice Ag fg.length cg, .func (.func 36) #[] #[]] from HNEW4.out)
      have hLN : N < w3.heap.size := by have := RN3.out.lt; omega
      obtain ⟨L, HL⟩ : ∃ L, Hid (w3.heap.size = L) := ⟨_, Lib.hid rfl⟩
      rw [HL.out] at RL4 hLN ⊢
      have hBw : B + 2 ≤ w4.heap.size := by have := RR4.out.lt; omega
      clear HNEW4 HSZ4 RB3 RR3 BU3 BV3 RN3 HLS3 HG3
      apply wp_region_gen (B) 7 ((by omega)) (by kernel_rfl) (by kernel_rfl) (by kernel_rfl)
        [Is (.pointer (some ⟨L, 3, none⟩)), Is (.func (.func 36) #[] #[]), Is (.pointer (some ⟨N, 0, none⟩)), Is (.pointer (some ⟨L, 2, none⟩)), Is (.slice Ag fg.length cg), fun w v => ∃ X k, v = .slice X fg.length k ∧ Bs w (.slice X fg.length k) fg, Is (.pointer (some ⟨N, 0, none⟩)), Mid N L (B + 1) #[.int .i64 gn, .slice Ar rs.length cr, .slice Ag fg.length cg, .func (.func 36) #[] #[]] (.slice Ar rs.length cr) rs (fg, b)] (fun i w' => (i = 1 ∨ i = 4 → Rec w' L 50 #[.int .i64 gn, .slice Ar rs.length cr, .slice Ag fg.length cg, .func (.func 36) #[] #[]]) ∧ (i = 5 → Ext w4 w') ∧ (i = 7 → Rec w' N 24 #[u1, u2] ∧ Ext w4 w'))
      case mono => exact ⟨Is.st _, Is.st _, Is.st _, Is.st _, Is.st _, Say.st_of (fun w w' v he ⟨X, k, h1, h2⟩ => ⟨X, k, h1, h2.ext he⟩), Is.st _, Say.st_of (fun w w' v he h => h.ext he), True.intro⟩
      case monoS => exact fun i w w' he h => ⟨fun e => (h.1 e).ext he, fun e => (h.2.1 e).trans' he, fun e => ⟨(h.2.2 e).1.ext he, (h.2.2 e).2.trans' he⟩⟩
      case startS => exact fun i => ⟨fun _ => RL4.out, fun _ => Below.refl _ _, fun _ => ⟨RN4.out, Below.refl _ _⟩⟩
      case hF => intro u; simp only [fill, Nat.reduceAdd, List.setIfInBounds_toArray, List.set_cons_succ, List.set_cons_zero]; exact rfl
      case steps =>
        refine StepsG.cons ?_ ?_
        · intro u w1 K hE hS hU hd hK hW
          go_simp
          exact hK _ _ (Below.refl _ _) rfl
        refine StepsG.cons ?_ ?_
        · intro u w1 K hE hS hU hd hK hW
          have d0 : u 0 = (.pointer (some ⟨L, 3, none⟩)) := hd 0 rfl
          simp only [d0] at hK
          have hc := (hS.1 (by decide)).cell (i := 3) rfl
          go_simp
          exact hK _ _ (Below.refl _ _) rfl
        refine StepsG.cons ?_ ?_
        · intro u w1 K hE hS hU hd hK hW
          have d1 : u 1 = (.func (.func 36) #[] #[]) := hd 1 rfl
          simp only [d1] at hK
          go_simp
          have hC := first_any N w1
          refine hC.mono ?_
          rintro e w5 ⟨rfl, rfl⟩
          exact hK _ _ (Below.refl _ _) rfl
        refine StepsG.cons ?_ ?_
        · intro u w1 K hE hS hU hd hK hW
          go_simp
          exact hK _ _ (Below.refl _ _) rfl
        refine StepsG.cons ?_ ?_
        · intro u w1 K hE hS hU hd hK hW
          have d3 : u 3 = (.pointer (some ⟨L, 2, none⟩)) := hd 3 rfl
          simp only [d3] at hK
          have hc := (hS.1 (by decide)).cell (i := 2) rfl
          go_simp
          exact hK _ _ (Below.refl _ _) rfl
        refine StepsG.cons ?_ ?_
        · intro u w1 K hE hS hU hd hK hW
          have d4 : u 4 = (.slice Ag fg.length cg) := hd 4 rfl
          simp only [d4] at hK
          go_simp
          have hC := bclone_any Ag cg fg w1 (by omega) (HG4.out.ext (hS.2.1 rfl))
          refine hC.mono ?_
          rintro e w5 ⟨v, rfl, hown, hb5⟩
          obtain ⟨X, k, hv, hk⟩ := hown.shape
          subst hv
          exact hK _ _ hb5 ⟨X, k, rfl, hown.bs⟩
        refine StepsG.cons ?_ ?_
        · intro u w1 K hE hS hU hd hK hW
          have d2 : u 2 = (.pointer (some ⟨N, 0, none⟩)) := hd 2 rfl
          simp only [d2] at hK
          go_simp
          exact hK _ _ (Below.refl _ _) rfl
        refine StepsG.cons ?_ ?_
        · intro u w1 K hE hS hU hd hK hW
          obtain ⟨X5, k5, d5, h5_1⟩ : ∃ X5 k5, u 5 = .slice X5 fg.length k5 ∧ Bs w1 (.slice X5 fg.length k5) fg := hd 5 rfl
          have d6 : u 6 = (.pointer (some ⟨N, 0, none⟩)) := hd 6 rfl
          simp only [d5, d6] at hW
          obtain ⟨hR, hX⟩ := hS.2.2 rfl
          have hc := hR.cell (i := 0) rfl
          have hf := hR.free 0
          go_simp
          have hg := grown_setCell w1 N 0 (.slice X5 fg.length k5)
          have ht := Turns.ofRec (B := B) hR (by decide) (by omega)
          exact hW undef _ (Below.grown (Below.refl B w1) hg (by have := hE.size; omega) (fun k e => (ht k e).1)) ⟨fun _ _ h => h, fun _ _ h => h, fun _ _ h => h, fun _ _ h => h, fun _ _ h => h, fun hk => absurd hk (by decide), fun _ _ h => h, fun hk => absurd hk (by decide), True.intro⟩ (fun k hk h => ⟨fun e => absurd hk (by rcases e with e | e <;> subst e <;> decide), fun e => absurd hk (by subst e; decide), fun e => absurd hk (by subst e; decide)⟩)  ⟨.slice X5 fg.length k5, u2, hR.setCell 0 _, h5_1.rec hR Hnu.out hg, (BV4.out.ext hX).rec hR Hnu.out hg, (RL4.out.ext hX).turned hg (by intro e; injection e with e; omega), (RR4.out.ext hX).turned hg (by intro e; injection e with e; omega), (HLS4.out.ext hX).rec hR (by decide) Hnu.out hg⟩
        exact StepsG.nil
      case fin =>
        intro u w9 hE9 hP
        
        obtain ⟨x9, y9, hN9, hx9, hy9, hL9, hR9, hls9⟩ := hP 7 (by decide) (by decide)
        have HX9 := Lib.hid (show Ext w w9 by have h1 := HE4.out; have h2 := hE9; rw [← hB] at h2; exact h1.trans h2)
        have hBw9 : B + 2 ≤ w9.heap.size := by have := hR9.lt; omega
        have hcx9 := hx9.cell1
        have hcy9 := hy9.cell1
        have RN9 := Lib.hid hN9
        have RL9 := Lib.hid hL9
        have RR9 := Lib.hid hR9
        have BX9 := Lib.hid hx9
        have BY9 := Lib.hid hy9
        have HLS9 := Lib.hid hls9
        clear hE9 hP hN9 hx9 hy9 hL9 hR9 hls9
        obtain ⟨wm, hwm⟩ : ∃ wm, w9 = wm := ⟨_, rfl⟩
        subst hwm
        go_wp2_with fail
        apply wp_region_gen (B) 3 ((by omega)) (by kernel_rfl) (by kernel_rfl) (by kernel_rfl)
          [Is (.agg #[x9, y9]), Is (.pointer (some ⟨L, 1, none⟩)), Is (.slice Ar rs.length cr), RecSay (B + 1) 24 (fun w vs => vs = #[x9, y9] ∧ Bs w x9 (fg, b).1 ∧ Bs w y9 (fg, b).2 ∧ LsO w 0 (.slice Ar rs.length cr) rs), Is (.slice Ar rs.length cr), Is (.int .i64 0)] (fun i w' => (i = 0 → Rec w' N 24 #[x9, y9]) ∧ (i = 2 → Rec w' L 50 #[.int .i64 gn, .slice Ar rs.length cr, .slice Ag fg.length cg, .func (.func 36) #[] #[]]) ∧ (i = 3 → Rec w' (B + 1) 24 #[.slice none 0 0, .slice none 0 0] ∧ Bs w' x9 (fg, b).1 ∧ Bs w' y9 (fg, b).2 ∧ LsO w' 0 (.slice Ar rs.length cr) rs))
        case mono => exact ⟨Is.st _, Is.st _, Is.st _, Say.st_of (fun w w' v he ⟨vs, h1, h2, h3, h4, h5⟩ => ⟨vs, h1.ext he, h2, h3.ext he, h4.ext he, h5.ext he⟩), Is.st _, Is.st _, True.intro⟩
        case monoS => exact fun i w w' he h => ⟨fun e => (h.1 e).ext he, fun e => (h.2.1 e).ext he, fun e => ⟨(h.2.2 e).1.ext he, (h.2.2 e).2.1.ext he, (h.2.2 e).2.2.1.ext he, (h.2.2 e).2.2.2.ext he⟩⟩
        case startS => exact fun i => ⟨fun _ => RN9.out, fun _ => RL9.out, fun _ => ⟨RR9.out, BX9.out, BY9.out, HLS9.out⟩⟩
        case hF => intro u; simp only [fill, Nat.reduceAdd, List.setIfInBounds_toArray, List.set_cons_succ, List.set_cons_zero]; exact rfl
        case steps =>
          refine StepsG.cons ?_ ?_
          · intro u w1 K hE hS hU hd hK hW
            have hR := hS.1 rfl
            refine if_run rfl ?_
            refine wp_load_row 24 (.tmp 5) rfl N rfl 24 _ (0, 0) _ hR Try.underlying24 rfl (by kernel_rfl) ?_
            exact hK _ _ (Below.refl _ _) rfl
          refine StepsG.cons ?_ ?_
          · intro u w1 K hE hS hU hd hK hW
            go_simp
            exact hK _ _ (Below.refl _ _) rfl
          refine StepsG.cons ?_ ?_
          · intro u w1 K hE hS hU hd hK hW
            have d1 : u 1 = (.pointer (some ⟨L, 1, none⟩)) := hd 1 rfl
            simp only [d1] at hK
            have hc := (hS.2.1 rfl).cell (i := 1) rfl
            go_simp
            exact hK _ _ (Below.refl _ _) rfl
          refine StepsG.cons ?_ ?_
          · intro u w1 K hE hS hU hd hK hW
            have d0 : u 0 = (.agg #[x9, y9]) := hd 0 rfl
            obtain ⟨hR, hX1, hX2, hX3⟩ := hS.2.2 rfl
            refine if_run rfl ?_
            refine wp_store_row 24 (.tmp 2) (.tmp 27) rfl (B + 1) _ rfl d0 24 _ hR (by kernel_rfl) rfl (by simp [hcx9, hcy9]) ?_
            have hg := grown_setRow w1 (B + 1) #[x9, y9]
            have ht := Turns.ofRec (B := B) hR (by decide) (by omega)
            exact hW undef _ (Below.grown (Below.refl B w1) hg (by have := hE.size; omega) (fun k e => (ht k e).1)) ⟨fun _ _ h => h, fun _ _ h => h, fun _ _ h => h, fun hk => absurd hk (by decide), fun _ _ h => h, fun _ _ h => h, True.intro⟩ (fun k hk h => ⟨fun e => absurd hk (by subst e; decide), fun e => (h.2.1 e).turned hg (by intro e2; injection e2 with e2; omega), fun e => absurd hk (by subst e; decide)⟩)  ⟨_, hR.setRow _, rfl, hX1.rec hR Hn.out hg, hX2.rec hR Hn.out hg, hX3.rec hR (by decide) Hn.out hg⟩
          refine StepsG.cons ?_ ?_
          · intro u w1 K hE hS hU hd hK hW
            have d2 : u 2 = (.slice Ar rs.length cr) := hd 2 rfl
            simp only [d2] at hK
            go_simp
            exact hK _ _ (Below.refl _ _) rfl
          refine StepsG.cons ?_ ?_
          · intro u w1 K hE hS hU hd hK hW
            go_simp
            exact hK _ _ (Below.refl _ _) rfl
          exact StepsG.nil
        case fin =>
          intro u w9 hE9 hP
          
          have d4 : u 4 = (.slice Ar rs.length cr) := hP 4 (by decide) (by decide)
          have d5 : u 5 = (.int .i64 0) := hP 5 (by decide) (by decide)
          simp only [d4, d5]
          obtain ⟨vs, hR9, hv9, h91, h92, h93⟩ := hP 3 (by decide) (by decide)
          subst hv9
          have HXX := Lib.hid hE9
          clear hE9 hP
          go_wp2_with fail
          refine bodyPost_ret (v := .tuple #[.agg #[x9, y9], .slice Ar rs.length cr, .int .i64 0]) ?_ rfl ?_
          · exact results3 (fn := Try.f9) (p := 2) (q := 3) (r := 4) rfl _ (B + 1) (by rfl) hR9 rfl
          rw [HA.out]
          exact ⟨_, _, _, _, rfl, h91, h92, hcr, h93.ls, by have h1 := HX9.out; have h2 := HXX.out; rw [← hB] at h2; exact h1.trans h2⟩
    | true =>
      rw [show place true = .func (.func 37) #[] #[] from rfl] at HLC
      rw [show place true = .func (.func 37) #[] #[] from rfl]
      go_wp2_with first
        | (refine wpList_store_named rfl 50 _ _ rfl w3.heap.size _ rfl rfl 50 _ (heap_alloc_new _ _) (by kernel_rfl) rfl (HLC) w3 (Ext.a1 _ _) (Nat.le_refl _) ?_; intro w4 hb4 hblk4 hs4 ho4; have HNEW4 := Lib.hid hblk4; have HSZ4 := Lib.hid hs4; have HE4 := Lib.hid (HE3.out.trans' hb4); have RB4 := Lib.hid (RB3.out.ext hb4); have RR4 := Lib.hid (RR3.out.ext hb4); have BU4 := Lib.hid (BU3.out.ext hb4); have BV4 := Lib.hid (BV3.out.ext hb4); have RN4 := Lib.hid (RN3.out.ext hb4); have HLS4 := Lib.hid (HLS3.out.ext hb4); have HG4 := Lib.hid (HG3.out.ext hb4); clear hb4 hblk4 hs4 ho4)
      have RL4 := Lib.hid (show Rec w4 w3.heap.size 50 #[.int .i64 gn, .slice Ar rs.length cr, .slice Ag fg.length cg, .func (.func 37) #[] #[]] from HNEW4.out)
      have hLN : N < w3.heap.size := by have := RN3.out.lt; omega
      obtain ⟨L, HL⟩ : ∃ L, Hid (w3.heap.size = L) := ⟨_, Lib.hid rfl⟩
      rw [HL.out] at RL4 hLN ⊢
      have hBw : B + 2 ≤ w4.heap.size := by have := RR4.out.lt; omega
      clear HNEW4 HSZ4 RB3 RR3 BU3 BV3 RN3 HLS3 HG3
      apply wp_region_gen (B) 7 ((by omega)) (by kernel_rfl) (by kernel_rfl) (by kernel_rfl)
        [Is (.pointer (some ⟨L, 3, none⟩)), Is (.func (.func 37) #[] #[]), Is (.pointer (some ⟨N, 1, none⟩)), Is (.pointer (some ⟨L, 2, none⟩)), Is (.slice Ag fg.length cg), fun w v => ∃ X k, v = .slice X fg.length k ∧ Bs w (.slice X fg.length k) fg, Is (.pointer (some ⟨N, 1, none⟩)), Mid N L (B + 1) #[.int .i64 gn, .slice Ar rs.length cr, .slice Ag fg.length cg, .func (.func 37) #[] #[]] (.slice Ar rs.length cr) rs (a, fg)] (fun i w' => (i = 1 ∨ i = 4 → Rec w' L 50 #[.int .i64 gn, .slice Ar rs.length cr, .slice Ag fg.length cg, .func (.func 37) #[] #[]]) ∧ (i = 5 → Ext w4 w') ∧ (i = 7 → Rec w' N 24 #[u1, u2] ∧ Ext w4 w'))
      case mono => exact ⟨Is.st _, Is.st _, Is.st _, Is.st _, Is.st _, Say.st_of (fun w w' v he ⟨X, k, h1, h2⟩ => ⟨X, k, h1, h2.ext he⟩), Is.st _, Say.st_of (fun w w' v he h => h.ext he), True.intro⟩
      case monoS => exact fun i w w' he h => ⟨fun e => (h.1 e).ext he, fun e => (h.2.1 e).trans' he, fun e => ⟨(h.2.2 e).1.ext he, (h.2.2 e).2.trans' he⟩⟩
      case startS => exact fun i => ⟨fun _ => RL4.out, fun _ => Below.refl _ _, fun _ => ⟨RN4.out, Below.refl _ _⟩⟩
      case hF => intro u; simp only [fill, Nat.reduceAdd, List.setIfInBounds_toArray, List.set_cons_succ, List.set_cons_zero]; exact rfl
      case steps =>
        refine StepsG.cons ?_ ?_
        · intro u w1 K hE hS hU hd hK hW
          go_simp
          exact hK _ _ (Below.refl _ _) rfl
        refine StepsG.cons ?_ ?_
        · intro u w1 K hE hS hU hd hK hW
          have d0 : u 0 = (.pointer (some ⟨L, 3, none⟩)) := hd 0 rfl
          simp only [d0] at hK
          have hc := (hS.1 (by decide)).cell (i := 3) rfl
          go_simp
          exact hK _ _ (Below.refl _ _) rfl
        refine StepsG.cons ?_ ?_
        · intro u w1 K hE hS hU hd hK hW
          have d1 : u 1 = (.func (.func 37) #[] #[]) := hd 1 rfl
          simp only [d1] at hK
          go_simp
          have hC := second_any N w1
          refine hC.mono ?_
          rintro e w5 ⟨rfl, rfl⟩
          exact hK _ _ (Below.refl _ _) rfl
        refine StepsG.cons ?_ ?_
        · intro u w1 K hE hS hU hd hK hW
          go_simp
          exact hK _ _ (Below.refl _ _) rfl
        refine StepsG.cons ?_ ?_
        · intro u w1 K hE hS hU hd hK hW
          have d3 : u 3 = (.pointer (some ⟨L, 2, none⟩)) := hd 3 rfl
          simp only [d3] at hK
          have hc := (hS.1 (by decide)).cell (i := 2) rfl
          go_simp
          exact hK _ _ (Below.refl _ _) rfl
        refine StepsG.cons ?_ ?_
        · intro u w1 K hE hS hU hd hK hW
          have d4 : u 4 = (.slice Ag fg.length cg) := hd 4 rfl
          simp only [d4] at hK
          go_simp
          have hC := bclone_any Ag cg fg w1 (by omega) (HG4.out.ext (hS.2.1 rfl))
          refine hC.mono ?_
          rintro e w5 ⟨v, rfl, hown, hb5⟩
          obtain ⟨X, k, hv, hk⟩ := hown.shape
          subst hv
          exact hK _ _ hb5 ⟨X, k, rfl, hown.bs⟩
        refine StepsG.cons ?_ ?_
        · intro u w1 K hE hS hU hd hK hW
          have d2 : u 2 = (.pointer (some ⟨N, 1, none⟩)) := hd 2 rfl
          simp only [d2] at hK
          go_simp
          exact hK _ _ (Below.refl _ _) rfl
        refine StepsG.cons ?_ ?_
        · intro u w1 K hE hS hU hd hK hW
          obtain ⟨X5, k5, d5, h5_1⟩ : ∃ X5 k5, u 5 = .slice X5 fg.length k5 ∧ Bs w1 (.slice X5 fg.length k5) fg := hd 5 rfl
          have d6 : u 6 = (.pointer (some ⟨N, 1, none⟩)) := hd 6 rfl
          simp only [d5, d6] at hW
          obtain ⟨hR, hX⟩ := hS.2.2 rfl
          have hc := hR.cell (i := 1) rfl
          have hf := hR.free 1
          go_simp
          have hg := grown_setCell w1 N 1 (.slice X5 fg.length k5)
          have ht := Turns.ofRec (B := B) hR (by decide) (by omega)
          exact hW undef _ (Below.grown (Below.refl B w1) hg (by have := hE.size; omega) (fun k e => (ht k e).1)) ⟨fun _ _ h => h, fun _ _ h => h, fun _ _ h => h, fun _ _ h => h, fun _ _ h => h, fun hk => absurd hk (by decide), fun _ _ h => h, fun hk => absurd hk (by decide), True.intro⟩ (fun k hk h => ⟨fun e => absurd hk (by rcases e with e | e <;> subst e <;> decide), fun e => absurd hk (by subst e; decide), fun e => absurd hk (by subst e; decide)⟩)  ⟨u1, .slice X5 fg.length k5, hR.setCell 1 _, (BU4.out.ext hX).rec hR Hnu.out hg, h5_1.rec hR Hnu.out hg, (RL4.out.ext hX).turned hg (by intro e; injection e with e; omega), (RR4.out.ext hX).turned hg (by intro e; injection e with e; omega), (HLS4.out.ext hX).rec hR (by decide) Hnu.out hg⟩
        exact StepsG.nil
      case fin =>
        intro u w9 hE9 hP
        
        obtain ⟨x9, y9, hN9, hx9, hy9, hL9, hR9, hls9⟩ := hP 7 (by decide) (by decide)
        have HX9 := Lib.hid (show Ext w w9 by have h1 := HE4.out; have h2 := hE9; rw [← hB] at h2; exact h1.trans h2)
        have hBw9 : B + 2 ≤ w9.heap.size := by have := hR9.lt; omega
        have hcx9 := hx9.cell1
        have hcy9 := hy9.cell1
        have RN9 := Lib.hid hN9
        have RL9 := Lib.hid hL9
        have RR9 := Lib.hid hR9
        have BX9 := Lib.hid hx9
        have BY9 := Lib.hid hy9
        have HLS9 := Lib.hid hls9
        clear hE9 hP hN9 hx9 hy9 hL9 hR9 hls9
        obtain ⟨wm, hwm⟩ : ∃ wm, w9 = wm := ⟨_, rfl⟩
        subst hwm
        go_wp2_with fail
        apply wp_region_gen (B) 3 ((by omega)) (by kernel_rfl) (by kernel_rfl) (by kernel_rfl)
          [Is (.agg #[x9, y9]), Is (.pointer (some ⟨L, 1, none⟩)), Is (.slice Ar rs.length cr), RecSay (B + 1) 24 (fun w vs => vs = #[x9, y9] ∧ Bs w x9 (a, fg).1 ∧ Bs w y9 (a, fg).2 ∧ LsO w 0 (.slice Ar rs.length cr) rs), Is (.slice Ar rs.length cr), Is (.int .i64 0)] (fun i w' => (i = 0 → Rec w' N 24 #[x9, y9]) ∧ (i = 2 → Rec w' L 50 #[.int .i64 gn, .slice Ar rs.length cr, .slice Ag fg.length cg, .func (.func 37) #[] #[]]) ∧ (i = 3 → Rec w' (B + 1) 24 #[.slice none 0 0, .slice none 0 0] ∧ Bs w' x9 (a, fg).1 ∧ Bs w' y9 (a, fg).2 ∧ LsO w' 0 (.slice Ar rs.length cr) rs))
        case mono => exact ⟨Is.st _, Is.st _, Is.st _, Say.st_of (fun w w' v he ⟨vs, h1, h2, h3, h4, h5⟩ => ⟨vs, h1.ext he, h2, h3.ext he, h4.ext he, h5.ext he⟩), Is.st _, Is.st _, True.intro⟩
        case monoS => exact fun i w w' he h => ⟨fun e => (h.1 e).ext he, fun e => (h.2.1 e).ext he, fun e => ⟨(h.2.2 e).1.ext he, (h.2.2 e).2.1.ext he, (h.2.2 e).2.2.1.ext he, (h.2.2 e).2.2.2.ext he⟩⟩
        case startS => exact fun i => ⟨fun _ => RN9.out, fun _ => RL9.out, fun _ => ⟨RR9.out, BX9.out, BY9.out, HLS9.out⟩⟩
        case hF => intro u; simp only [fill, Nat.reduceAdd, List.setIfInBounds_toArray, List.set_cons_succ, List.set_cons_zero]; exact rfl
        case steps =>
          refine StepsG.cons ?_ ?_
          · intro u w1 K hE hS hU hd hK hW
            have hR := hS.1 rfl
            refine if_run rfl ?_
            refine wp_load_row 24 (.tmp 5) rfl N rfl 24 _ (0, 0) _ hR Try.underlying24 rfl (by kernel_rfl) ?_
            exact hK _ _ (Below.refl _ _) rfl
          refine StepsG.cons ?_ ?_
          · intro u w1 K hE hS hU hd hK hW
            go_simp
            exact hK _ _ (Below.refl _ _) rfl
          refine StepsG.cons ?_ ?_
          · intro u w1 K hE hS hU hd hK hW
            have d1 : u 1 = (.pointer (some ⟨L, 1, none⟩)) := hd 1 rfl
            simp only [d1] at hK
            have hc := (hS.2.1 rfl).cell (i := 1) rfl
            go_simp
            exact hK _ _ (Below.refl _ _) rfl
          refine StepsG.cons ?_ ?_
          · intro u w1 K hE hS hU hd hK hW
            have d0 : u 0 = (.agg #[x9, y9]) := hd 0 rfl
            obtain ⟨hR, hX1, hX2, hX3⟩ := hS.2.2 rfl
            refine if_run rfl ?_
            refine wp_store_row 24 (.tmp 2) (.tmp 27) rfl (B + 1) _ rfl d0 24 _ hR (by kernel_rfl) rfl (by simp [hcx9, hcy9]) ?_
            have hg := grown_setRow w1 (B + 1) #[x9, y9]
            have ht := Turns.ofRec (B := B) hR (by decide) (by omega)
            exact hW undef _ (Below.grown (Below.refl B w1) hg (by have := hE.size; omega) (fun k e => (ht k e).1)) ⟨fun _ _ h => h, fun _ _ h => h, fun _ _ h => h, fun hk => absurd hk (by decide), fun _ _ h => h, fun _ _ h => h, True.intro⟩ (fun k hk h => ⟨fun e => absurd hk (by subst e; decide), fun e => (h.2.1 e).turned hg (by intro e2; injection e2 with e2; omega), fun e => absurd hk (by subst e; decide)⟩)  ⟨_, hR.setRow _, rfl, hX1.rec hR Hn.out hg, hX2.rec hR Hn.out hg, hX3.rec hR (by decide) Hn.out hg⟩
          refine StepsG.cons ?_ ?_
          · intro u w1 K hE hS hU hd hK hW
            have d2 : u 2 = (.slice Ar rs.length cr) := hd 2 rfl
            simp only [d2] at hK
            go_simp
            exact hK _ _ (Below.refl _ _) rfl
          refine StepsG.cons ?_ ?_
          · intro u w1 K hE hS hU hd hK hW
            go_simp
            exact hK _ _ (Below.refl _ _) rfl
          exact StepsG.nil
        case fin =>
          intro u w9 hE9 hP
          
          have d4 : u 4 = (.slice Ar rs.length cr) := hP 4 (by decide) (by decide)
          have d5 : u 5 = (.int .i64 0) := hP 5 (by decide) (by decide)
          simp only [d4, d5]
          obtain ⟨vs, hR9, hv9, h91, h92, h93⟩ := hP 3 (by decide) (by decide)
          subst hv9
          have HXX := Lib.hid hE9
          clear hE9 hP
          go_wp2_with fail
          refine bodyPost_ret (v := .tuple #[.agg #[x9, y9], .slice Ar rs.length cr, .int .i64 0]) ?_ rfl ?_
          · exact results3 (fn := Try.f9) (p := 2) (q := 3) (r := 4) rfl _ (B + 1) (by rfl) hR9 rfl
          rw [HA.out]
          exact ⟨_, _, _, _, rfl, h91, h92, hcr, h93.ls, by have h1 := HX9.out; have h2 := HXX.out; rw [← hB] at h2; exact h1.trans h2⟩

end Go.Proofs.Ytjcngipaeoegcaa

namespace Go.Proofs.Ytjcngipaeoegcaa
open Go.RowKit

theorem put_long {p : List UInt8} (h : 100000 < p.length) : Frame.put [] p = none := by unfold Frame.put; rw [if_pos h]
theorem put_ok {p : List UInt8} (h : ¬ 100000 < p.length) : Frame.put [] p = some (Frame.frame p) := by unfold Frame.put; rw [if_neg h]; rfl

set_option maxHeartbeats 4000000 in
set_option maxRecDepth 100000 in
theorem append_any (A A' : Option Addr) (c c' : Nat) (a b : List UInt8) (A2 : Option Addr) (c2 : Nat) (p : List UInt8) (tear : Int) (w : World) (ht1 : -9223372036854775808 ≤ tear) (ht2 : tear ≤ 9223372036854775807) (hp : p.length ≤ 1000000) (h3 : Row w A2 (p.map B8)) (hca : a.length ≤ c) (hcb : b.length ≤ c') (ha : a.length ≤ 10000000) (hb : b.length ≤ 10000000) (h1 : Row w A (a.map B8)) (h2 : Row w A' (b.map B8)) :
    Calls Try.prog 11 #[.agg #[.slice A a.length c, .slice A' b.length c'], .slice A2 p.length c2, .int .i64 tear] w (RetDisk w (Disk.append a b p tear)) := by
  have H1 := Lib.hid h1
  have H2 := Lib.hid h2
  have HQ := fun w H1 H2 => read_any A A' c c' a b w hca hcb (by omega) (by omega) H1 H2
  have H3 := Lib.hid h3
  clear h1 h2 h3
  obtain ⟨B, hB⟩ : ∃ B, w.heap.size = B := ⟨_, rfl⟩
  obtain ⟨o, Ho⟩ : ∃ o, Hid (Disk.which a b = o) := ⟨_, Lib.hid rfl⟩
  rw [Ho.out] at HQ
  have HQ := Lib.hid HQ
  go_enter Try.func11, Try.ntmps11
  go_wp2_with fail
  obtain ⟨wx, hwx⟩ : ∃ wx, (w.alloc (.cells #[.slice A a.length c, .slice A' b.length c'] 24)).alloc (.cells #[.slice none 0 0, .slice none 0 0] 24) = wx := ⟨_, rfl⟩
  have HE := Lib.hid (show Ext w wx by rw [← hwx]; exact (Ext.a1 _ _).alloc' _)
  have RB := Lib.hid (show Rec wx B 24 #[.slice A a.length c, .slice A' b.length c'] by rw [← hwx, ← hB]; exact (Rec.new w _ _).ext (Ext.a1 _ _))
  have RR := Lib.hid (show Rec wx (B + 1) 24 #[.slice none 0 0, .slice none 0 0] by rw [← hwx, ← hB]; have := Rec.new (w.alloc (.cells #[.slice A a.length c, .slice A' b.length c'] 24)) 24 #[.slice none 0 0, .slice none 0 0]; rw [World.size_alloc] at this; exact this)
  try rw [hwx]
  clear hwx
  have hn : ∀ u ∈ (#[.slice none 0 0, .slice none 0 0] : Array Value).toList, ∀ x, u ≠ B8 x := noBy2 (by intro y e; cases e) (by intro y e; cases e)
  have Hn := Lib.hid hn
  clear hn
  refine (own_any A A' c c' a b wx (by omega) (by omega) (H1.out.ext HE.out) (H2.out.ext HE.out)).mono ?_
  rintro e w1 ⟨u1, u2, rfl, hu1, hu2, hb1⟩
  have BU1 := Lib.hid hu1.bs
  have BV1 := Lib.hid hu2.bs
  have HE1 := Lib.hid (HE.out.trans' hb1)
  have RB1 := Lib.hid (RB.out.ext hb1)
  have RR1 := Lib.hid (RR.out.ext hb1)
  have hcu1 := hu1.bs.cell1
  have hcu2 := hu2.bs.cell1
  have Hnu := Lib.hid (noBy2 hu1.bs.noB8 hu2.bs.noB8)
  clear hu1 hu2 hb1
  go_wp2_with first
    | (refine wpList_store_named rfl 24 _ _ rfl w1.heap.size _ rfl rfl 24 _ (heap_alloc_new _ _) (by kernel_rfl) rfl (by simp [hcu1, hcu2]) w1 (Ext.a1 _ _) (Nat.le_refl _) ?_; intro w2 hb2 hblk2 hs2 ho2; have HNEW2 := Lib.hid hblk2; have HSZ2 := Lib.hid hs2; have HE2 := Lib.hid (HE1.out.trans' hb2); have RB2 := Lib.hid (RB1.out.ext hb2); have RR2 := Lib.hid (RR1.out.ext hb2); have BU2 := Lib.hid (BU1.out.ext hb2); have BV2 := Lib.hid (BV1.out.ext hb2); have RB2x := Lib.hid (show w2.heap[B]? = some (.cells _ 24 (0, 0)) from RB2.out); clear hb2 hblk2 hs2 ho2)
    | (with_reducible refine wpList_load_row rfl 24 _ rfl B rfl 24 _ (0, 0) _ RB2x.out Try.underlying24 rfl (by kernel_rfl) ?_)
  have RN2 := Lib.hid (show Rec w2 w1.heap.size 24 #[u1, u2] from HNEW2.out)
  obtain ⟨N, HN⟩ : ∃ N, Hid (w1.heap.size = N) := ⟨_, Lib.hid rfl⟩
  have hNB : B + 2 ≤ N := by rw [← HN.out]; have := RR1.out.lt; omega
  have HNw := Lib.hid (show w2.heap.size = N + 1 by rw [← HN.out, HSZ2.out]; simp)
  rw [HN.out] at RN2 ⊢
  refine (HQ.out w2 (H1.out.ext HE2.out) (H2.out.ext HE2.out)).mono ?_
  rintro e w3 ⟨v0, v1, v2, v3, hlog, rfl, hb3⟩
  have HLOG3 := Lib.hid hlog
  have HLC := hlog.cells
  have HE3 := Lib.hid (HE2.out.trans' hb3)
  have RB3 := Lib.hid (RB2.out.ext hb3)
  have RR3 := Lib.hid (RR2.out.ext hb3)
  have BU3 := Lib.hid (BU2.out.ext hb3)
  have BV3 := Lib.hid (BV2.out.ext hb3)
  have RN3 := Lib.hid (RN2.out.ext hb3)
  have hw23 := hb3.size
  clear hlog hb3 RB1 RB2 RB2x RR1 RR2 BU1 BV1 BU2 BV2 RN2 HSZ2 HNEW2
  cases o with
  | none =>
    obtain ⟨rfl, rfl, rfl, rfl⟩ := HLOG3.out
    rw [show otherOf none = .nilFunc from rfl, show (none : Option (Bool × Disk.File)).isSome = false from rfl]
    go_wp2_with first
      | (refine wpList_store_named rfl 50 _ _ rfl w3.heap.size _ rfl rfl 50 _ (heap_alloc_new _ _) (by kernel_rfl) rfl (HLC) w3 (Ext.a1 _ _) (Nat.le_refl _) ?_; intro w4 hb4 hblk4 hs4 ho4; have HNEW4 := Lib.hid hblk4; have HSZ4 := Lib.hid hs4; have HE4 := Lib.hid (HE3.out.trans' hb4); have RB4 := Lib.hid (RB3.out.ext hb4); have RR4 := Lib.hid (RR3.out.ext hb4); have BU4 := Lib.hid (BU3.out.ext hb4); have BV4 := Lib.hid (BV3.out.ext hb4); have RN4 := Lib.hid (RN3.out.ext hb4); have HLOG4 := Lib.hid (HLOG3.out.ext hb4); clear hb4 hblk4 hs4 ho4)
    have HP := fput_any none A2 0 c2 [] p w4 (by simp) (by omega) (Row.nil _ _) (H3.out.ext HE4.out)
    by_cases hlong : 100000 < p.length
    · rw [put_long hlong] at HP
      refine HP.mono ?_
      rintro e w5 ⟨hb5, rfl⟩
      have HE5 := Lib.hid (HE4.out.trans' hb5)
      have RR5 := Lib.hid (RR4.out.ext hb5)
      have BU5 := Lib.hid (BU4.out.ext hb5)
      have BV5 := Lib.hid (BV4.out.ext hb5)
      have RN5 := Lib.hid (RN4.out.ext hb5)
      have RN5x := Lib.hid (show w5.heap[N]? = some (.cells _ 24 (0, 0)) from RN5.out)
      have RR5x := Lib.hid (show w5.heap[B + 1]? = some (.cells _ 24 (0, 0)) from RR5.out)
      clear hb5 HP
      go_wp2_with first
        | (with_reducible refine wpList_load_row rfl 24 _ rfl N rfl 24 _ (0, 0) _ RN5x.out Try.underlying24 rfl (by kernel_rfl) ?_)
        | (refine wpList_store_rec rfl 24 _ _ rfl (B + 1) _ rfl rfl 24 _ RR5x.out (by kernel_rfl) rfl (by simp [hcu1, hcu2]) w HE5.out (by omega) ?_; intro wz hbz hblkz hgz hsz; have HBz := Lib.hid hbz; have HKz := Lib.hid hblkz; have HGz := Lib.hid hgz; clear hbz hblkz hgz hsz)
      refine bodyPost_ret (v := .tuple #[.agg #[u1, u2], .int .i64 60]) ?_ rfl ?_
      · exact results2 (fn := Try.f11) (p := 6) (q := 7) rfl _ (B + 1) (by rfl) HKz.out rfl
      rw [show Disk.append a b p tear = ((a, b), 60) by unfold Disk.append; rw [Ho.out]]
      exact ⟨_, _, rfl, BU5.out.rec RR5x.out Hn.out HGz.out, BV5.out.rec RR5x.out Hn.out HGz.out, HBz.out⟩
    · rw [put_ok hlong] at HP
      refine HP.mono ?_
      rintro e w5 ⟨hb5, v, rfl, hown⟩
      have HE5 := Lib.hid (HE4.out.trans' hb5)
      have RR5 := Lib.hid (RR4.out.ext hb5)
      have BU5 := Lib.hid (BU4.out.ext hb5)
      have BV5 := Lib.hid (BV4.out.ext hb5)
      have RN5 := Lib.hid (RN4.out.ext hb5)
      have RN5x := Lib.hid (show w5.heap[N]? = some (.cells _ 24 (0, 0)) from RN5.out)
      have RR5x := Lib.hid (show w5.heap[B + 1]? = some (.cells _ 24 (0, 0)) from RR5.out)
      clear hb5 HP hown
      go_wp2_with first
        | (with_reducible refine wpList_load_row rfl 24 _ rfl N rfl 24 _ (0, 0) _ RN5x.out Try.underlying24 rfl (by kernel_rfl) ?_)
        | (refine wpList_store_rec rfl 24 _ _ rfl (B + 1) _ rfl rfl 24 _ RR5x.out (by kernel_rfl) rfl (by simp [hcu1, hcu2]) w HE5.out (by omega) ?_; intro wz hbz hblkz hgz hsz; have HBz := Lib.hid hbz; have HKz := Lib.hid hblkz; have HGz := Lib.hid hgz; clear hbz hblkz hgz hsz)
      refine bodyPost_ret (v := .tuple #[.agg #[u1, u2], .int .i64 60]) ?_ rfl ?_
      · exact results2 (fn := Try.f11) (p := 6) (q := 7) rfl _ (B + 1) (by rfl) HKz.out rfl
      rw [show Disk.append a b p tear = ((a, b), 60) by unfold Disk.append; rw [Ho.out]]
      exact ⟨_, _, rfl, BU5.out.rec RR5x.out Hn.out HGz.out, BV5.out.rec RR5x.out Hn.out HGz.out, HBz.out⟩
  | some q =>
    obtain ⟨s, f⟩ := q
    obtain ⟨rfl, ⟨Ar, cr, rfl, hls⟩, ⟨Ag, cg, rfl, hcg, hrow⟩, rfl⟩ := HLOG3.out
    have HG3 := Lib.hid hrow
    have hgl : f.good.length ≤ 10000000 := by have := (Disk.file_good (Disk.which_file Ho.out)).2; cases s <;> simp at this <;> omega
    clear hls hrow HLOG3
    obtain ⟨fg, Hfg⟩ : ∃ fg, Hid (f.good = fg) := ⟨_, Lib.hid rfl⟩
    obtain ⟨rs, Hrs⟩ : ∃ rs, Hid (f.recs = rs) := ⟨_, Lib.hid rfl⟩
    obtain ⟨gn, Hgn⟩ : ∃ gn : Int, Hid ((f.gen : Int) = gn) := ⟨_, Lib.hid rfl⟩
    rw [Hfg.out] at hgl HG3 hcg
    rw [show otherOf (some (s, f)) = place (!s) from rfl, show (some (s, f)).isSome = true from rfl, show Disk.genOf (some (s, f)) = f.gen from rfl, Hfg.out, Hrs.out, Hgn.out]
    rw [show Disk.genOf (some (s, f)) = f.gen from rfl, Hfg.out, Hrs.out, Hgn.out] at HLC
    obtain ⟨ot, Hot⟩ : ∃ ot, Hid (place (!s) = ot) := ⟨_, Lib.hid rfl⟩
    rw [Hot.out]
    go_wp2_with first
      | (refine wpList_store_named rfl 50 _ _ rfl w3.heap.size _ rfl rfl 50 _ (heap_alloc_new _ _) (by kernel_rfl) rfl (HLC) w3 (Ext.a1 _ _) (Nat.le_refl _) ?_; intro w4 hb4 hblk4 hs4 ho4; have HNEW4 := Lib.hid hblk4; have HSZ4 := Lib.hid hs4; have HE4 := Lib.hid (HE3.out.trans' hb4); have RB4 := Lib.hid (RB3.out.ext hb4); have RR4 := Lib.hid (RR3.out.ext hb4); have BU4 := Lib.hid (BU3.out.ext hb4); have BV4 := Lib.hid (BV3.out.ext hb4); have RN4 := Lib.hid (RN3.out.ext hb4); have HG4 := Lib.hid (HG3.out.ext hb4); clear hb4 hblk4 hs4 ho4)
    have HP := fput_any none A2 0 c2 [] p w4 (by simp) (by omega) (Row.nil _ _) (H3.out.ext HE4.out)
    by_cases hlong : 100000 < p.length
    · rw [put_long hlong] at HP
      refine HP.mono ?_
      rintro e w5 ⟨hb5, rfl⟩
      have HE5 := Lib.hid (HE4.out.trans' hb5)
      have RR5 := Lib.hid (RR4.out.ext hb5)
      have BU5 := Lib.hid (BU4.out.ext hb5)
      have BV5 := Lib.hid (BV4.out.ext hb5)
      have RN5 := Lib.hid (RN4.out.ext hb5)
      have RN5x := Lib.hid (show w5.heap[N]? = some (.cells _ 24 (0, 0)) from RN5.out)
      have RR5x := Lib.hid (show w5.heap[B + 1]? = some (.cells _ 24 (0, 0)) from RR5.out)
      clear hb5 HP
      go_wp2_with first
        | (with_reducible refine wpList_load_row rfl 24 _ rfl N rfl 24 _ (0, 0) _ RN5x.out Try.underlying24 rfl (by kernel_rfl) ?_)
        | (refine wpList_store_rec rfl 24 _ _ rfl (B + 1) _ rfl rfl 24 _ RR5x.out (by kernel_rfl) rfl (by simp [hcu1, hcu2]) w HE5.out (by omega) ?_; intro wz hbz hblkz hgz hsz; have HBz := Lib.hid hbz; have HKz := Lib.hid hblkz; have HGz := Lib.hid hgz; clear hbz hblkz hgz hsz)
      refine bodyPost_ret (v := .tuple #[.agg #[u1, u2], .int .i64 60]) ?_ rfl ?_
      · exact results2 (fn := Try.f11) (p := 6) (q := 7) rfl _ (B + 1) (by rfl) HKz.out rfl
      rw [show Disk.append a b p tear = ((a, b), 60) by unfold Disk.append; rw [Ho.out]; simp only; rw [if_pos hlong]]
      exact ⟨_, _, rfl, BU5.out.rec RR5x.out Hn.out HGz.out, BV5.out.rec RR5x.out Hn.out HGz.out, HBz.out⟩
    · rw [put_ok hlong] at HP
      obtain ⟨r, Hr⟩ : ∃ r, Hid (Disk.write fg (Frame.frame p) tear = r) := ⟨_, Lib.hid rfl⟩
      have HA := Lib.hid (show Disk.append a b p tear = (Disk.put s a b r.1, r.2) by unfold Disk.append; rw [Ho.out]; simp only; rw [if_neg hlong, Hfg.out, Hr.out])
      obtain ⟨fp, Hfp⟩ : ∃ fp, Hid (Frame.frame p = fp) := ⟨_, Lib.hid rfl⟩
      have hfl := frame_len_le p (by omega)
      rw [Hfp.out] at Hr hfl HP
      refine HP.mono ?_
      rintro e w5 ⟨hb5, v, rfl, hown⟩
      obtain ⟨Af, cf, rfl, hcf⟩ := hown.shape
      have HF5 := Lib.hid hown.row
      have HE5 := Lib.hid (HE4.out.trans' hb5)
      have RR5 := Lib.hid (RR4.out.ext hb5)
      have BU5 := Lib.hid (BU4.out.ext hb5)
      have BV5 := Lib.hid (BV4.out.ext hb5)
      have RN5 := Lib.hid (RN4.out.ext hb5)
      have HG5 := Lib.hid (HG4.out.ext hb5)
      have RN5x := Lib.hid (show w5.heap[N]? = some (.cells _ 24 (0, 0)) from RN5.out)
      have RR5x := Lib.hid (show w5.heap[B + 1]? = some (.cells _ 24 (0, 0)) from RR5.out)
      have RL5 := Lib.hid (Rec.ext (show Rec w4 w3.heap.size 50 _ from HNEW4.out) hb5)
      have hLN : N < w3.heap.size := by have := RN3.out.lt; omega
      obtain ⟨L, HL⟩ : ∃ L, Hid (w3.heap.size = L) := ⟨_, Lib.hid rfl⟩
      rw [HL.out] at RL5 hLN ⊢
      have hBw : B + 2 ≤ w5.heap.size := by have := RR5.out.lt; omega
      clear hb5 HP hown HNEW4 HSZ4 RB3 RR3 BU3 BV3 RN3 HG3 RB4 RR4 BU4 BV4 RN4 HG4 RN5x RR5x
      cases s with
      | false =>
        rw [show place false = .func (.func 36) #[] #[] from rfl] at RL5
        go_wp2_with fail
        apply wp_region_gen (B) 12 ((by omega)) (by kernel_rfl) (by kernel_rfl) (by kernel_rfl)
          [Is (.pointer (some ⟨L, 3, none⟩)), Is (.func (.func 36) #[] #[]), Is (.pointer (some ⟨N, 0, none⟩)), Is (.pointer (some ⟨L, 2, none⟩)), Is (.slice Ag fg.length cg), Is (.slice Af fp.length cf), Is (.int .i64 tear), fun w v => ∃ X k, v = .tuple #[.slice X r.1.length k, .int .i64 r.2] ∧ Bs w (.slice X r.1.length k) r.1, fun w v => ∃ X k, v = .tuple #[.slice X r.1.length k, .int .i64 r.2] ∧ Bs w (.slice X r.1.length k) r.1, fun w v => ∃ X k, v = .slice X r.1.length k ∧ Bs w (.slice X r.1.length k) r.1, Is (.int .i64 r.2), Is (.pointer (some ⟨N, 0, none⟩)), Mid N L (B + 1) #[.int .i64 gn, .slice Ar rs.length cr, .slice Ag fg.length cg, .func (.func 36) #[] #[]] (.slice none 0 0) [] (r.1, b), Is (.int .i64 r.2)] (fun i w' => (i = 1 ∨ i = 4 → Rec w' L 50 #[.int .i64 gn, .slice Ar rs.length cr, .slice Ag fg.length cg, .func (.func 36) #[] #[]]) ∧ (i = 7 → Ext w5 w') ∧ (i = 12 → Rec w' N 24 #[u1, u2] ∧ Ext w5 w'))
        case mono => exact ⟨Is.st _, Is.st _, Is.st _, Is.st _, Is.st _, Is.st _, Is.st _, Say.st_of (fun w w' v he ⟨X, k, h1, h2⟩ => ⟨X, k, h1, h2.ext he⟩), Say.st_of (fun w w' v he ⟨X, k, h1, h2⟩ => ⟨X, k, h1, h2.ext he⟩), Say.st_of (fun w w' v he ⟨X, k, h1, h2⟩ => ⟨X, k, h1, h2.ext he⟩), Is.st _, Is.st _, Say.st_of (fun w w' v he h => h.ext he), Is.st _, True.intro⟩
        case monoS => exact fun i w w' he h => ⟨fun e => (h.1 e).ext he, fun e => (h.2.1 e).trans' he, fun e => ⟨(h.2.2 e).1.ext he, (h.2.2 e).2.trans' he⟩⟩
        case startS => exact fun i => ⟨fun _ => RL5.out, fun _ => Below.refl _ _, fun _ => ⟨RN5.out, Below.refl _ _⟩⟩
        case hF => intro u; simp only [fill, Nat.reduceAdd, List.setIfInBounds_toArray, List.set_cons_succ, List.set_cons_zero]; exact rfl
        case steps =>
          refine StepsG.cons ?_ ?_
          · intro u w1 K hE hS hU hd hK hW
            go_simp
            exact hK _ _ (Below.refl _ _) rfl
          refine StepsG.cons ?_ ?_
          · intro u w1 K hE hS hU hd hK hW
            have d0 : u 0 = (.pointer (some ⟨L, 3, none⟩)) := hd 0 rfl
            simp only [d0] at hK
            have hc := (hS.1 (by decide)).cell (i := 3) rfl
            go_simp
            exact hK _ _ (Below.refl _ _) rfl
          refine StepsG.cons ?_ ?_
          · intro u w1 K hE hS hU hd hK hW
            have d1 : u 1 = (.func (.func 36) #[] #[]) := hd 1 rfl
            simp only [d1] at hK
            go_simp
            have hC := first_any N w1
            refine hC.mono ?_
            rintro e w6 ⟨rfl, rfl⟩
            exact hK _ _ (Below.refl _ _) rfl
          refine StepsG.cons ?_ ?_
          · intro u w1 K hE hS hU hd hK hW
            go_simp
            exact hK _ _ (Below.refl _ _) rfl
          refine StepsG.cons ?_ ?_
          · intro u w1 K hE hS hU hd hK hW
            have d3 : u 3 = (.pointer (some ⟨L, 2, none⟩)) := hd 3 rfl
            simp only [d3] at hK
            have hc := (hS.1 (by decide)).cell (i := 2) rfl
            go_simp
            exact hK _ _ (Below.refl _ _) rfl
          refine StepsG.cons ?_ ?_
          · intro u w1 K hE hS hU hd hK hW
            go_simp
            exact hK _ _ (Below.refl _ _) rfl
          refine StepsG.cons ?_ ?_
          · intro u w1 K hE hS hU hd hK hW
            go_simp
            exact hK _ _ (Below.refl _ _) rfl
          refine StepsG.cons ?_ ?_
          · intro u w1 K hE hS hU hd hK hW
            have d4 : u 4 = (.slice Ag fg.length cg) := hd 4 rfl
            have d5 : u 5 = (.slice Af fp.length cf) := hd 5 rfl
            have d6 : u 6 = (.int .i64 tear) := hd 6 rfl
            simp only [d4, d5, d6] at hK
            go_simp
            have hX := hS.2.1 rfl
            have hC := write_any Ag Af cg cf fg fp tear w1 ht1 ht2 (by omega) (by omega) hcf (HG5.out.ext hX) (HF5.out.ext hX)
            rw [Hr.out] at hC
            refine hC.mono ?_
            rintro e w6 ⟨v, rfl, hown, hb6⟩
            obtain ⟨X, k, hv, hk⟩ := hown.shape
            subst hv
            exact hK _ _ hb6 ⟨X, k, rfl, hown.bs⟩
          refine StepsG.cons ?_ ?_
          · intro u w1 K hE hS hU hd hK hW
            obtain ⟨X7, k7, d7, h7_1⟩ : ∃ X7 k7, u 7 = .tuple #[.slice X7 r.1.length k7, .int .i64 r.2] ∧ Bs w1 (.slice X7 r.1.length k7) r.1 := hd 7 rfl
            simp only [d7] at hK
            go_simp
            exact hK _ _ (Below.refl _ _) ⟨_, _, rfl, h7_1⟩
          refine StepsG.cons ?_ ?_
          · intro u w1 K hE hS hU hd hK hW
            obtain ⟨X8, k8, d8, h8_1⟩ : ∃ X8 k8, u 8 = .tuple #[.slice X8 r.1.length k8, .int .i64 r.2] ∧ Bs w1 (.slice X8 r.1.length k8) r.1 := hd 8 rfl
            simp only [d8] at hK
            go_simp
            exact hK _ _ (Below.refl _ _) ⟨_, _, rfl, h8_1⟩
          refine StepsG.cons ?_ ?_
          · intro u w1 K hE hS hU hd hK hW
            obtain ⟨X8, k8, d8, h8_1⟩ : ∃ X8 k8, u 8 = .tuple #[.slice X8 r.1.length k8, .int .i64 r.2] ∧ Bs w1 (.slice X8 r.1.length k8) r.1 := hd 8 rfl
            simp only [d8] at hK
            go_simp
            exact hK _ _ (Below.refl _ _) rfl
          refine StepsG.cons ?_ ?_
          · intro u w1 K hE hS hU hd hK hW
            have d2 : u 2 = (.pointer (some ⟨N, 0, none⟩)) := hd 2 rfl
            simp only [d2] at hK
            go_simp
            exact hK _ _ (Below.refl _ _) rfl
          refine StepsG.cons ?_ ?_
          · intro u w1 K hE hS hU hd hK hW
            obtain ⟨X9, k9, d9, h9_1⟩ : ∃ X9 k9, u 9 = .slice X9 r.1.length k9 ∧ Bs w1 (.slice X9 r.1.length k9) r.1 := hd 9 rfl
            have d11 : u 11 = (.pointer (some ⟨N, 0, none⟩)) := hd 11 rfl
            simp only [d9, d11] at hW
            obtain ⟨hR, hX⟩ := hS.2.2 rfl
            have hc := hR.cell (i := 0) rfl
            have hf := hR.free 0
            go_simp
            have hg := grown_setCell w1 N 0 (.slice X9 r.1.length k9)
            have ht := Turns.ofRec (B := B) hR (by decide) (by omega)
            exact hW undef _ (Below.grown (Below.refl B w1) hg (by have := hE.size; omega) (fun k e => (ht k e).1)) ⟨fun _ _ h => h, fun _ _ h => h, fun _ _ h => h, fun _ _ h => h, fun _ _ h => h, fun _ _ h => h, fun _ _ h => h, fun _ _ ⟨X, k, e, h1⟩ => ⟨X, k, e, h1.rec hR Hnu.out hg⟩, fun _ _ ⟨X, k, e, h1⟩ => ⟨X, k, e, h1.rec hR Hnu.out hg⟩, fun _ _ ⟨X, k, e, h1⟩ => ⟨X, k, e, h1.rec hR Hnu.out hg⟩, fun _ _ h => h, fun _ _ h => h, fun hk => absurd hk (by decide), fun _ _ h => h, True.intro⟩ (fun k hk h => ⟨fun e => absurd hk (by rcases e with e | e <;> subst e <;> decide), fun e => absurd hk (by subst e; decide), fun e => absurd hk (by subst e; decide)⟩)  ⟨.slice X9 r.1.length k9, u2, hR.setCell 0 _, h9_1.rec hR Hnu.out hg, (BV5.out.ext hX).rec hR Hnu.out hg, (RL5.out.ext hX).turned hg (by intro e; injection e with e; omega), (RR5.out.ext hX).turned hg (by intro e; injection e with e; omega), LsO.nil _ _⟩
          refine StepsG.cons ?_ ?_
          · intro u w1 K hE hS hU hd hK hW
            have d10 : u 10 = (.int .i64 r.2) := hd 10 rfl
            simp only [d10] at hK
            go_simp
            exact hK _ _ (Below.refl _ _) rfl
          exact StepsG.nil
        case fin =>
          intro u w9 hE9 hP
          
          have d13 : u 13 = (.int .i64 r.2) := hP 13 (by decide) (by decide)
          simp only [d13]
          obtain ⟨x9, y9, hN9, hx9, hy9, hL9, hR9, hls9⟩ := hP 12 (by decide) (by decide)
          have HX9 := Lib.hid (show Ext w w9 by have h1 := HE5.out; have h2 := hE9; rw [← hB] at h2; exact h1.trans h2)
          have hcx9 := hx9.cell1
          have hcy9 := hy9.cell1
          have RN9 := Lib.hid (show w9.heap[N]? = some (.cells _ 24 (0, 0)) from hN9)
          have RR9 := Lib.hid (show w9.heap[B + 1]? = some (.cells _ 24 (0, 0)) from hR9)
          have BX9 := Lib.hid hx9
          have BY9 := Lib.hid hy9
          clear hE9 hP hN9 hx9 hy9 hL9 hR9 hls9
          go_wp2_with first
            | (with_reducible refine wpList_load_row rfl 24 _ rfl N rfl 24 _ (0, 0) _ RN9.out Try.underlying24 rfl (by kernel_rfl) ?_)
            | (refine wpList_store_rec rfl 24 _ _ rfl (B + 1) _ rfl rfl 24 _ RR9.out (by kernel_rfl) rfl (by simp [hcx9, hcy9]) w HX9.out (by omega) ?_; intro wz hbz hblkz hgz hsz; have HBz := Lib.hid hbz; have HKz := Lib.hid hblkz; have HGz := Lib.hid hgz; clear hbz hblkz hgz hsz)
          refine bodyPost_ret (v := .tuple #[.agg #[x9, y9], .int .i64 r.2]) ?_ rfl ?_
          · exact results2 (fn := Try.f11) (p := 6) (q := 7) rfl _ (B + 1) (by rfl) HKz.out rfl
          rw [HA.out]
          exact ⟨_, _, rfl, BX9.out.rec RR9.out Hn.out HGz.out, BY9.out.rec RR9.out Hn.out HGz.out, HBz.out⟩
      | true =>
        rw [show place true = .func (.func 37) #[] #[] from rfl] at RL5
        go_wp2_with fail
        apply wp_region_gen (B) 12 ((by omega)) (by kernel_rfl) (by kernel_rfl) (by kernel_rfl)
          [Is (.pointer (some ⟨L, 3, none⟩)), Is (.func (.func 37) #[] #[]), Is (.pointer (some ⟨N, 1, none⟩)), Is (.pointer (some ⟨L, 2, none⟩)), Is (.slice Ag fg.length cg), Is (.slice Af fp.length cf), Is (.int .i64 tear), fun w v => ∃ X k, v = .tuple #[.slice X r.1.length k, .int .i64 r.2] ∧ Bs w (.slice X r.1.length k) r.1, fun w v => ∃ X k, v = .tuple #[.slice X r.1.length k, .int .i64 r.2] ∧ Bs w (.slice X r.1.length k) r.1, fun w v => ∃ X k, v = .slice X r.1.length k ∧ Bs w (.slice X r.1.length k) r.1, Is (.int .i64 r.2), Is (.pointer (some ⟨N, 1, none⟩)), Mid N L (B + 1) #[.int .i64 gn, .slice Ar rs.length cr, .slice Ag fg.length cg, .func (.func 37) #[] #[]] (.slice none 0 0) [] (a, r.1), Is (.int .i64 r.2)] (fun i w' => (i = 1 ∨ i = 4 → Rec w' L 50 #[.int .i64 gn, .slice Ar rs.length cr, .slice Ag fg.length cg, .func (.func 37) #[] #[]]) ∧ (i = 7 → Ext w5 w') ∧ (i = 12 → Rec w' N 24 #[u1, u2] ∧ Ext w5 w'))
        case mono => exact ⟨Is.st _, Is.st _, Is.st _, Is.st _, Is.st _, Is.st _, Is.st _, Say.st_of (fun w w' v he ⟨X, k, h1, h2⟩ => ⟨X, k, h1, h2.ext he⟩), Say.st_of (fun w w' v he ⟨X, k, h1, h2⟩ => ⟨X, k, h1, h2.ext he⟩), Say.st_of (fun w w' v he ⟨X, k, h1, h2⟩ => ⟨X, k, h1, h2.ext he⟩), Is.st _, Is.st _, Say.st_of (fun w w' v he h => h.ext he), Is.st _, True.intro⟩
        case monoS => exact fun i w w' he h => ⟨fun e => (h.1 e).ext he, fun e => (h.2.1 e).trans' he, fun e => ⟨(h.2.2 e).1.ext he, (h.2.2 e).2.trans' he⟩⟩
        case startS => exact fun i => ⟨fun _ => RL5.out, fun _ => Below.refl _ _, fun _ => ⟨RN5.out, Below.refl _ _⟩⟩
        case hF => intro u; simp only [fill, Nat.reduceAdd, List.setIfInBounds_toArray, List.set_cons_succ, List.set_cons_zero]; exact rfl
        case steps =>
          refine StepsG.cons ?_ ?_
          · intro u w1 K hE hS hU hd hK hW
            go_simp
            exact hK _ _ (Below.refl _ _) rfl
          refine StepsG.cons ?_ ?_
          · intro u w1 K hE hS hU hd hK hW
            have d0 : u 0 = (.pointer (some ⟨L, 3, none⟩)) := hd 0 rfl
            simp only [d0] at hK
            have hc := (hS.1 (by decide)).cell (i := 3) rfl
            go_simp
            exact hK _ _ (Below.refl _ _) rfl
          refine StepsG.cons ?_ ?_
          · intro u w1 K hE hS hU hd hK hW
            have d1 : u 1 = (.func (.func 37) #[] #[]) := hd 1 rfl
            simp only [d1] at hK
            go_simp
            have hC := second_any N w1
            refine hC.mono ?_
            rintro e w6 ⟨rfl, rfl⟩
            exact hK _ _ (Below.refl _ _) rfl
          refine StepsG.cons ?_ ?_
          · intro u w1 K hE hS hU hd hK hW
            go_simp
            exact hK _ _ (Below.refl _ _) rfl
          refine StepsG.cons ?_ ?_
          · intro u w1 K hE hS hU hd hK hW
            have d3 : u 3 = (.pointer (some ⟨L, 2, none⟩)) := hd 3 rfl
            simp only [d3] at hK
            have hc := (hS.1 (by decide)).cell (i := 2) rfl
            go_simp
            exact hK _ _ (Below.refl _ _) rfl
          refine StepsG.cons ?_ ?_
          · intro u w1 K hE hS hU hd hK hW
            go_simp
            exact hK _ _ (Below.refl _ _) rfl
          refine StepsG.cons ?_ ?_
          · intro u w1 K hE hS hU hd hK hW
            go_simp
            exact hK _ _ (Below.refl _ _) rfl
          refine StepsG.cons ?_ ?_
          · intro u w1 K hE hS hU hd hK hW
            have d4 : u 4 = (.slice Ag fg.length cg) := hd 4 rfl
            have d5 : u 5 = (.slice Af fp.length cf) := hd 5 rfl
            have d6 : u 6 = (.int .i64 tear) := hd 6 rfl
            simp only [d4, d5, d6] at hK
            go_simp
            have hX := hS.2.1 rfl
            have hC := write_any Ag Af cg cf fg fp tear w1 ht1 ht2 (by omega) (by omega) hcf (HG5.out.ext hX) (HF5.out.ext hX)
            rw [Hr.out] at hC
            refine hC.mono ?_
            rintro e w6 ⟨v, rfl, hown, hb6⟩
            obtain ⟨X, k, hv, hk⟩ := hown.shape
            subst hv
            exact hK _ _ hb6 ⟨X, k, rfl, hown.bs⟩
          refine StepsG.cons ?_ ?_
          · intro u w1 K hE hS hU hd hK hW
            obtain ⟨X7, k7, d7, h7_1⟩ : ∃ X7 k7, u 7 = .tuple #[.slice X7 r.1.length k7, .int .i64 r.2] ∧ Bs w1 (.slice X7 r.1.length k7) r.1 := hd 7 rfl
            simp only [d7] at hK
            go_simp
            exact hK _ _ (Below.refl _ _) ⟨_, _, rfl, h7_1⟩
          refine StepsG.cons ?_ ?_
          · intro u w1 K hE hS hU hd hK hW
            obtain ⟨X8, k8, d8, h8_1⟩ : ∃ X8 k8, u 8 = .tuple #[.slice X8 r.1.length k8, .int .i64 r.2] ∧ Bs w1 (.slice X8 r.1.length k8) r.1 := hd 8 rfl
            simp only [d8] at hK
            go_simp
            exact hK _ _ (Below.refl _ _) ⟨_, _, rfl, h8_1⟩
          refine StepsG.cons ?_ ?_
          · intro u w1 K hE hS hU hd hK hW
            obtain ⟨X8, k8, d8, h8_1⟩ : ∃ X8 k8, u 8 = .tuple #[.slice X8 r.1.length k8, .int .i64 r.2] ∧ Bs w1 (.slice X8 r.1.length k8) r.1 := hd 8 rfl
            simp only [d8] at hK
            go_simp
            exact hK _ _ (Below.refl _ _) rfl
          refine StepsG.cons ?_ ?_
          · intro u w1 K hE hS hU hd hK hW
            have d2 : u 2 = (.pointer (some ⟨N, 1, none⟩)) := hd 2 rfl
            simp only [d2] at hK
            go_simp
            exact hK _ _ (Below.refl _ _) rfl
          refine StepsG.cons ?_ ?_
          · intro u w1 K hE hS hU hd hK hW
            obtain ⟨X9, k9, d9, h9_1⟩ : ∃ X9 k9, u 9 = .slice X9 r.1.length k9 ∧ Bs w1 (.slice X9 r.1.length k9) r.1 := hd 9 rfl
            have d11 : u 11 = (.pointer (some ⟨N, 1, none⟩)) := hd 11 rfl
            simp only [d9, d11] at hW
            obtain ⟨hR, hX⟩ := hS.2.2 rfl
            have hc := hR.cell (i := 1) rfl
            have hf := hR.free 1
            go_simp
            have hg := grown_setCell w1 N 1 (.slice X9 r.1.length k9)
            have ht := Turns.ofRec (B := B) hR (by decide) (by omega)
            exact hW undef _ (Below.grown (Below.refl B w1) hg (by have := hE.size; omega) (fun k e => (ht k e).1)) ⟨fun _ _ h => h, fun _ _ h => h, fun _ _ h => h, fun _ _ h => h, fun _ _ h => h, fun _ _ h => h, fun _ _ h => h, fun _ _ ⟨X, k, e, h1⟩ => ⟨X, k, e, h1.rec hR Hnu.out hg⟩, fun _ _ ⟨X, k, e, h1⟩ => ⟨X, k, e, h1.rec hR Hnu.out hg⟩, fun _ _ ⟨X, k, e, h1⟩ => ⟨X, k, e, h1.rec hR Hnu.out hg⟩, fun _ _ h => h, fun _ _ h => h, fun hk => absurd hk (by decide), fun _ _ h => h, True.intro⟩ (fun k hk h => ⟨fun e => absurd hk (by rcases e with e | e <;> subst e <;> decide), fun e => absurd hk (by subst e; decide), fun e => absurd hk (by subst e; decide)⟩)  ⟨u1, .slice X9 r.1.length k9, hR.setCell 1 _, (BU5.out.ext hX).rec hR Hnu.out hg, h9_1.rec hR Hnu.out hg, (RL5.out.ext hX).turned hg (by intro e; injection e with e; omega), (RR5.out.ext hX).turned hg (by intro e; injection e with e; omega), LsO.nil _ _⟩
          refine StepsG.cons ?_ ?_
          · intro u w1 K hE hS hU hd hK hW
            have d10 : u 10 = (.int .i64 r.2) := hd 10 rfl
            simp only [d10] at hK
            go_simp
            exact hK _ _ (Below.refl _ _) rfl
          exact StepsG.nil
        case fin =>
          intro u w9 hE9 hP
          
          have d13 : u 13 = (.int .i64 r.2) := hP 13 (by decide) (by decide)
          simp only [d13]
          obtain ⟨x9, y9, hN9, hx9, hy9, hL9, hR9, hls9⟩ := hP 12 (by decide) (by decide)
          have HX9 := Lib.hid (show Ext w w9 by have h1 := HE5.out; have h2 := hE9; rw [← hB] at h2; exact h1.trans h2)
          have hcx9 := hx9.cell1
          have hcy9 := hy9.cell1
          have RN9 := Lib.hid (show w9.heap[N]? = some (.cells _ 24 (0, 0)) from hN9)
          have RR9 := Lib.hid (show w9.heap[B + 1]? = some (.cells _ 24 (0, 0)) from hR9)
          have BX9 := Lib.hid hx9
          have BY9 := Lib.hid hy9
          clear hE9 hP hN9 hx9 hy9 hL9 hR9 hls9
          go_wp2_with first
            | (with_reducible refine wpList_load_row rfl 24 _ rfl N rfl 24 _ (0, 0) _ RN9.out Try.underlying24 rfl (by kernel_rfl) ?_)
            | (refine wpList_store_rec rfl 24 _ _ rfl (B + 1) _ rfl rfl 24 _ RR9.out (by kernel_rfl) rfl (by simp [hcx9, hcy9]) w HX9.out (by omega) ?_; intro wz hbz hblkz hgz hsz; have HBz := Lib.hid hbz; have HKz := Lib.hid hblkz; have HGz := Lib.hid hgz; clear hbz hblkz hgz hsz)
          refine bodyPost_ret (v := .tuple #[.agg #[x9, y9], .int .i64 r.2]) ?_ rfl ?_
          · exact results2 (fn := Try.f11) (p := 6) (q := 7) rfl _ (B + 1) (by rfl) HKz.out rfl
          rw [HA.out]
          exact ⟨_, _, rfl, BX9.out.rec RR9.out Hn.out HGz.out, BY9.out.rec RR9.out Hn.out HGz.out, HBz.out⟩

end Go.Proofs.Ytjcngipaeoegcaa

namespace Go.Proofs.Ytjcngipaeoegcaa
open Go.RowKit

set_option maxHeartbeats 4000000 in
set_option maxRecDepth 100000 in
theorem snap_any (A A' : Option Addr) (c c' : Nat) (a b : List UInt8) (tear : Int) (w : World) (ht1 : -9223372036854775808 ≤ tear) (ht2 : tear ≤ 9223372036854775807) (hca : a.length ≤ c) (hcb : b.length ≤ c') (ha : a.length ≤ 10000000) (hb : b.length ≤ 10000000) (h1 : Row w A (a.map B8)) (h2 : Row w A' (b.map B8)) :
    Calls Try.prog 13 #[.agg #[.slice A a.length c, .slice A' b.length c'], .int .i64 tear] w (RetDisk w (Disk.snap a b tear)) := by
  have H1 := Lib.hid h1
  have H2 := Lib.hid h2
  have HQ := fun w H1 H2 => read_any A A' c c' a b w hca hcb (by omega) (by omega) H1 H2
  clear h1 h2
  obtain ⟨B, hB⟩ : ∃ B, w.heap.size = B := ⟨_, rfl⟩
  obtain ⟨o, Ho⟩ : ∃ o, Hid (Disk.which a b = o) := ⟨_, Lib.hid rfl⟩
  rw [Ho.out] at HQ
  have HQ := Lib.hid HQ
  go_enter Try.func13, Try.ntmps13
  go_wp2_with fail
  obtain ⟨wx, hwx⟩ : ∃ wx, (w.alloc (.cells #[.slice A a.length c, .slice A' b.length c'] 24)).alloc (.cells #[.slice none 0 0, .slice none 0 0] 24) = wx := ⟨_, rfl⟩
  have HE := Lib.hid (show Ext w wx by rw [← hwx]; exact (Ext.a1 _ _).alloc' _)
  have RB := Lib.hid (show Rec wx B 24 #[.slice A a.length c, .slice A' b.length c'] by rw [← hwx, ← hB]; exact (Rec.new w _ _).ext (Ext.a1 _ _))
  have RR := Lib.hid (show Rec wx (B + 1) 24 #[.slice none 0 0, .slice none 0 0] by rw [← hwx, ← hB]; have := Rec.new (w.alloc (.cells #[.slice A a.length c, .slice A' b.length c'] 24)) 24 #[.slice none 0 0, .slice none 0 0]; rw [World.size_alloc] at this; exact this)
  try rw [hwx]
  clear hwx
  have hn : ∀ u ∈ (#[.slice none 0 0, .slice none 0 0] : Array Value).toList, ∀ x, u ≠ B8 x := noBy2 (by intro y e; cases e) (by intro y e; cases e)
  have Hn := Lib.hid hn
  clear hn
  refine (own_any A A' c c' a b wx (by omega) (by omega) (H1.out.ext HE.out) (H2.out.ext HE.out)).mono ?_
  rintro e w1 ⟨u1, u2, rfl, hu1, hu2, hb1⟩
  have BU1 := Lib.hid hu1.bs
  have BV1 := Lib.hid hu2.bs
  have HE1 := Lib.hid (HE.out.trans' hb1)
  have RB1 := Lib.hid (RB.out.ext hb1)
  have RR1 := Lib.hid (RR.out.ext hb1)
  have hcu1 := hu1.bs.cell1
  have hcu2 := hu2.bs.cell1
  have Hnu := Lib.hid (noBy2 hu1.bs.noB8 hu2.bs.noB8)
  clear hu1 hu2 hb1
  go_wp2_with first
    | (refine wpList_store_named rfl 24 _ _ rfl w1.heap.size _ rfl rfl 24 _ (heap_alloc_new _ _) (by kernel_rfl) rfl (by simp [hcu1, hcu2]) w1 (Ext.a1 _ _) (Nat.le_refl _) ?_; intro w2 hb2 hblk2 hs2 ho2; have HNEW2 := Lib.hid hblk2; have HSZ2 := Lib.hid hs2; have HE2 := Lib.hid (HE1.out.trans' hb2); have RB2 := Lib.hid (RB1.out.ext hb2); have RR2 := Lib.hid (RR1.out.ext hb2); have BU2 := Lib.hid (BU1.out.ext hb2); have BV2 := Lib.hid (BV1.out.ext hb2); have RB2x := Lib.hid (show w2.heap[B]? = some (.cells _ 24 (0, 0)) from RB2.out); clear hb2 hblk2 hs2 ho2)
    | (with_reducible refine wpList_load_row rfl 24 _ rfl B rfl 24 _ (0, 0) _ RB2x.out Try.underlying24 rfl (by kernel_rfl) ?_)
  have RN2 := Lib.hid (show Rec w2 w1.heap.size 24 #[u1, u2] from HNEW2.out)
  obtain ⟨N, HN⟩ : ∃ N, Hid (w1.heap.size = N) := ⟨_, Lib.hid rfl⟩
  have hNB : B + 2 ≤ N := by rw [← HN.out]; have := RR1.out.lt; omega
  have HNw := Lib.hid (show w2.heap.size = N + 1 by rw [← HN.out, HSZ2.out]; simp)
  rw [HN.out] at RN2 ⊢
  refine (HQ.out w2 (H1.out.ext HE2.out) (H2.out.ext HE2.out)).mono ?_
  rintro e w3 ⟨v0, v1, v2, v3, hlog, rfl, hb3⟩
  have HLOG3 := Lib.hid hlog
  have HLC := hlog.cells
  have HE3 := Lib.hid (HE2.out.trans' hb3)
  have RB3 := Lib.hid (RB2.out.ext hb3)
  have RR3 := Lib.hid (RR2.out.ext hb3)
  have BU3 := Lib.hid (BU2.out.ext hb3)
  have BV3 := Lib.hid (BV2.out.ext hb3)
  have RN3 := Lib.hid (RN2.out.ext hb3)
  have hw23 := hb3.size
  clear hlog hb3 RB1 RB2 RB2x RR1 RR2 BU1 BV1 BU2 BV2 RN2 HSZ2 HNEW2
  cases o with
  | none =>
    obtain ⟨rfl, rfl, rfl, rfl⟩ := HLOG3.out
    rw [show otherOf none = .nilFunc from rfl, show (none : Option (Bool × Disk.File)).isSome = false from rfl]
    go_wp2_with first
      | (refine wpList_store_named rfl 50 _ _ rfl w3.heap.size _ rfl rfl 50 _ (heap_alloc_new _ _) (by kernel_rfl) rfl (HLC) w3 (Ext.a1 _ _) (Nat.le_refl _) ?_; intro w4 hb4 hblk4 hs4 ho4; have HNEW4 := Lib.hid hblk4; have HSZ4 := Lib.hid hs4; have HE4 := Lib.hid (HE3.out.trans' hb4); have RB4 := Lib.hid (RB3.out.ext hb4); have RR4 := Lib.hid (RR3.out.ext hb4); have BU4 := Lib.hid (BU3.out.ext hb4); have BV4 := Lib.hid (BV3.out.ext hb4); have RN4 := Lib.hid (RN3.out.ext hb4); have HLOG4 := Lib.hid (HLOG3.out.ext hb4); have RN4x := Lib.hid (show w4.heap[N]? = some (.cells _ 24 (0, 0)) from RN4.out); have RR4x := Lib.hid (show w4.heap[B + 1]? = some (.cells _ 24 (0, 0)) from RR4.out); clear hb4 hblk4 hs4 ho4)
      | (with_reducible refine wpList_load_row rfl 24 _ rfl N rfl 24 _ (0, 0) _ RN4x.out Try.underlying24 rfl (by kernel_rfl) ?_)
      | (refine wpList_store_rec rfl 24 _ _ rfl (B + 1) _ rfl rfl 24 _ RR4x.out (by kernel_rfl) rfl (by simp [hcu1, hcu2]) w HE4.out (by omega) ?_; intro wz hbz hblkz hgz hsz; have HBz := Lib.hid hbz; have HKz := Lib.hid hblkz; have HGz := Lib.hid hgz; clear hbz hblkz hgz hsz)
    refine bodyPost_ret (v := .tuple #[.agg #[u1, u2], .int .i64 60]) ?_ rfl ?_
    · exact results2 (fn := Try.f13) (p := 4) (q := 5) rfl _ (B + 1) (by rfl) HKz.out rfl
    rw [show Disk.snap a b tear = ((a, b), 60) by unfold Disk.snap; rw [Ho.out]]
    exact ⟨_, _, rfl, BU4.out.rec RR4x.out Hn.out HGz.out, BV4.out.rec RR4x.out Hn.out HGz.out, HBz.out⟩
  | some q =>
    obtain ⟨s, f⟩ := q
    obtain ⟨rfl, ⟨Ar, cr, rfl, hls⟩, ⟨Ag, cg, rfl, hcg, hrow⟩, rfl⟩ := HLOG3.out
    have HLS3 := Lib.hid hls.1.ls
    have hgen := Disk.file_gen (Disk.which_file Ho.out)
    have htx := Disk.file_texts (Disk.which_file Ho.out)
    have htx2 : (Disk.texts f.recs).length ≤ 10000000 := by cases s <;> simp at htx <;> omega
    clear hls hrow HLOG3 htx
    rw [show otherOf (some (s, f)) = place (!s) from rfl, show (some (s, f)).isSome = true from rfl, show Disk.genOf (some (s, f)) = f.gen from rfl]
    rw [show Disk.genOf (some (s, f)) = f.gen from rfl] at HLC
    obtain ⟨ot, Hot⟩ : ∃ ot, Hid (place (!s) = ot) := ⟨_, Lib.hid rfl⟩
    obtain ⟨pl, Hpl⟩ : ∃ pl, Hid (place s = pl) := ⟨_, Lib.hid rfl⟩
    rw [Hpl.out] at HLC
    rw [Hot.out, Hpl.out]
    by_cases hmax : f.gen = 1000000
    · have hd0 : ((f.gen : Int) == 1000000) = true := by simp; omega
      have HMAX := Lib.hid hmax
      clear htx2 hmax
      go_wp2_with first
        | (refine wpList_store_named rfl 50 _ _ rfl w3.heap.size _ rfl rfl 50 _ (heap_alloc_new _ _) (by kernel_rfl) rfl (HLC) w3 (Ext.a1 _ _) (Nat.le_refl _) ?_; intro w4 hb4 hblk4 hs4 ho4; have HNEW4 := Lib.hid hblk4; have HSZ4 := Lib.hid hs4; have HE4 := Lib.hid (HE3.out.trans' hb4); have RB4 := Lib.hid (RB3.out.ext hb4); have RR4 := Lib.hid (RR3.out.ext hb4); have BU4 := Lib.hid (BU3.out.ext hb4); have BV4 := Lib.hid (BV3.out.ext hb4); have RN4 := Lib.hid (RN3.out.ext hb4); have HLS4 := Lib.hid (HLS3.out.ext hb4); have RN4x := Lib.hid (show w4.heap[N]? = some (.cells _ 24 (0, 0)) from RN4.out); have RR4x := Lib.hid (show w4.heap[B + 1]? = some (.cells _ 24 (0, 0)) from RR4.out); have hcg0 := (show Rec w4 _ 50 _ from HNEW4.out).cell (i := 0) rfl; clear hb4 hblk4 hs4 ho4)
        | (with_reducible refine wpList_load_row rfl 24 _ rfl N rfl 24 _ (0, 0) _ RN4x.out Try.underlying24 rfl (by kernel_rfl) ?_)
        | (refine wpList_store_rec rfl 24 _ _ rfl (B + 1) _ rfl rfl 24 _ RR4x.out (by kernel_rfl) rfl (by simp [hcu1, hcu2]) w HE4.out (by omega) ?_; intro wz hbz hblkz hgz hsz; have HBz := Lib.hid hbz; have HKz := Lib.hid hblkz; have HGz := Lib.hid hgz; clear hbz hblkz hgz hsz)
      refine bodyPost_ret (v := .tuple #[.agg #[u1, u2], .int .i64 10]) ?_ rfl ?_
      · exact results2 (fn := Try.f13) (p := 4) (q := 5) rfl _ (B + 1) (by rfl) HKz.out rfl
      rw [show Disk.snap a b tear = ((a, b), 10) by unfold Disk.snap; rw [Ho.out]; simp only; rw [if_pos HMAX.out]]
      exact ⟨_, _, rfl, BU4.out.rec RR4x.out Hn.out HGz.out, BV4.out.rec RR4x.out Hn.out HGz.out, HBz.out⟩
    · have hd0 : ((f.gen : Int) == 1000000) = false := by simp; omega
      obtain ⟨hd, Hhd⟩ : ∃ hd, Hid (Disk.head (f.gen + 1) f.recs = hd) := ⟨_, Lib.hid rfl⟩
      have HH := fun w h => head_any Ar cr (f.gen + 1) f.recs w (by omega) (by omega) h
      rw [Hhd.out, show (((f.gen + 1 : Nat)) : Int) = (f.gen : Int) + 1 by omega] at HH
      have HH := Lib.hid HH
      have hhl : hd.length ≤ 10001000 := by
        rw [← Hhd.out, Disk.head_length]
        have h1 := Pack.need_le8 (f.gen + 1) (by omega)
        have h2 := Disk.texts_count f.recs
        have h3 := Pack.need_le8 f.recs.length (by omega)
        omega
      clear htx2
      go_wp2_with first
        | (refine wpList_store_named rfl 50 _ _ rfl w3.heap.size _ rfl rfl 50 _ (heap_alloc_new _ _) (by kernel_rfl) rfl (HLC) w3 (Ext.a1 _ _) (Nat.le_refl _) ?_; intro w4 hb4 hblk4 hs4 ho4; have HNEW4 := Lib.hid hblk4; have HSZ4 := Lib.hid hs4; have HE4 := Lib.hid (HE3.out.trans' hb4); have RB4 := Lib.hid (RB3.out.ext hb4); have RR4 := Lib.hid (RR3.out.ext hb4); have BU4 := Lib.hid (BU3.out.ext hb4); have BV4 := Lib.hid (BV3.out.ext hb4); have RN4 := Lib.hid (RN3.out.ext hb4); have HLS4 := Lib.hid (HLS3.out.ext hb4); have hcg0 := (show Rec w4 _ 50 _ from HNEW4.out).cell (i := 0) rfl; have hcg1 := (show Rec w4 _ 50 _ from HNEW4.out).cell (i := 1) rfl; clear hb4 hblk4 hs4 ho4)
      refine (HH.out w4 HLS4.out).mono ?_
      rintro e w5 ⟨v, rfl, hown, hb5⟩
      obtain ⟨Ah, ch, rfl, hch⟩ := hown.shape
      have HO5 := Lib.hid hown.row
      have HE5 := Lib.hid (HE4.out.trans' hb5)
      have RR5 := Lib.hid (RR4.out.ext hb5)
      have BU5 := Lib.hid (BU4.out.ext hb5)
      have BV5 := Lib.hid (BV4.out.ext hb5)
      have RN5 := Lib.hid (RN4.out.ext hb5)
      clear hown hb5 hcg0 hcg1
      go_wp2_with fail
      have HP := fput_any none Ah 0 ch [] hd w5 (by simp) (by omega) (Row.nil _ _) HO5.out
      by_cases hlong : 100000 < hd.length
      · rw [put_long hlong] at HP
        refine HP.mono ?_
        rintro e w6 ⟨hb6, rfl⟩
        have HE6 := Lib.hid (HE5.out.trans' hb6)
        have RR6 := Lib.hid (RR5.out.ext hb6)
        have BU6 := Lib.hid (BU5.out.ext hb6)
        have BV6 := Lib.hid (BV5.out.ext hb6)
        have RN6 := Lib.hid (RN5.out.ext hb6)
        have RN6x := Lib.hid (show w6.heap[N]? = some (.cells _ 24 (0, 0)) from RN6.out)
        have RR6x := Lib.hid (show w6.heap[B + 1]? = some (.cells _ 24 (0, 0)) from RR6.out)
        clear hb6 HP
        go_wp2_with first
          | (with_reducible refine wpList_load_row rfl 24 _ rfl N rfl 24 _ (0, 0) _ RN6x.out Try.underlying24 rfl (by kernel_rfl) ?_)
          | (refine wpList_store_rec rfl 24 _ _ rfl (B + 1) _ rfl rfl 24 _ RR6x.out (by kernel_rfl) rfl (by simp [hcu1, hcu2]) w HE6.out (by omega) ?_; intro wz hbz hblkz hgz hsz; have HBz := Lib.hid hbz; have HKz := Lib.hid hblkz; have HGz := Lib.hid hgz; clear hbz hblkz hgz hsz)
        refine bodyPost_ret (v := .tuple #[.agg #[u1, u2], .int .i64 60]) ?_ rfl ?_
        · exact results2 (fn := Try.f13) (p := 4) (q := 5) rfl _ (B + 1) (by rfl) HKz.out rfl
        rw [show Disk.snap a b tear = ((a, b), 60) by unfold Disk.snap; rw [Ho.out]; simp only; rw [if_neg hmax, if_pos (by rw [Hhd.out]; exact hlong)]]
        exact ⟨_, _, rfl, BU6.out.rec RR6x.out Hn.out HGz.out, BV6.out.rec RR6x.out Hn.out HGz.out, HBz.out⟩
      · rw [put_ok hlong] at HP
        obtain ⟨r, Hr⟩ : ∃ r, Hid (Disk.write [] (Frame.frame hd) tear = r) := ⟨_, Lib.hid rfl⟩
        have HA := Lib.hid (show Disk.snap a b tear = (Disk.put (!s) a b r.1, r.2) by unfold Disk.snap; rw [Ho.out]; simp only; rw [if_neg hmax, if_neg (by rw [Hhd.out]; exact hlong), Hhd.out, Hr.out])
        obtain ⟨fp, Hfp⟩ : ∃ fp, Hid (Frame.frame hd = fp) := ⟨_, Lib.hid rfl⟩
        have hfl := frame_len_le hd (by omega)
        rw [Hfp.out] at Hr hfl HP
        refine HP.mono ?_
        rintro e w6 ⟨hb6, v, rfl, hown⟩
        obtain ⟨Af, cf, rfl, hcf⟩ := hown.shape
        have HF6 := Lib.hid hown.row
        have HE6 := Lib.hid (HE5.out.trans' hb6)
        have RR6 := Lib.hid (RR5.out.ext hb6)
        have BU6 := Lib.hid (BU5.out.ext hb6)
        have BV6 := Lib.hid (BV5.out.ext hb6)
        have RN6 := Lib.hid (RN5.out.ext hb6)
        clear hb6 HP hown
        cases s with
        | false =>
          rw [show place (!false) = .func (.func 37) #[] #[] from rfl] at Hot
          have hot := Hot.out
          subst hot
          go_wp2_with fail
          refine (second_any N w6).mono ?_
          rintro e w6' ⟨rfl, rfl⟩
          go_wp2_with fail
          have HW := write_any none Af 0 cf [] fp tear w6' ht1 ht2 (by simp) (by omega) hcf (Row.nil _ _) HF6.out
          rw [Hr.out] at HW
          refine HW.mono ?_
          rintro e w7 ⟨v, rfl, hown, hb7⟩
          obtain ⟨Ax, cx, rfl, hcx⟩ := hown.shape
          have HO7 := Lib.hid hown.bs
          have HE7 := Lib.hid (HE6.out.trans' hb7)
          have RR7 := Lib.hid (RR6.out.ext hb7)
          have BU7 := Lib.hid (BU6.out.ext hb7)
          have BV7 := Lib.hid (BV6.out.ext hb7)
          have RN7 := Lib.hid (RN6.out.ext hb7)
          have hc7 := RN7.out.cell (i := 1) rfl
          have hf7 := RN7.out.free 1
          have hcx7 : (Value.slice Ax r.1.length cx).oneCell' = true := rfl
          have HGc := Lib.hid (grown_setCell w7 N 1 (.slice Ax r.1.length cx))
          have RN8x := Lib.hid (show (w7.setCell ⟨N, 1, none⟩ (.slice Ax r.1.length cx)).heap[N]? = some (.cells #[u1, .slice Ax r.1.length cx] 24 (0, 0)) from RN7.out.setCell 1 _)
          have RR8x := Lib.hid (show (w7.setCell ⟨N, 1, none⟩ (.slice Ax r.1.length cx)).heap[B + 1]? = some (.cells #[.slice none 0 0, .slice none 0 0] 24 (0, 0)) from RR7.out.turned HGc.out (by intro e; injection e with e; omega))
          have HE8 := Lib.hid (show Ext w (w7.setCell ⟨N, 1, none⟩ (.slice Ax r.1.length cx)) from ext_grown hB HE7.out HGc.out (by omega))
          clear hown hb7 HW
          go_wp2_with first
            | (with_reducible refine wpList_load_row rfl 24 _ rfl N rfl 24 _ (0, 0) _ RN8x.out Try.underlying24 rfl (by kernel_rfl) ?_)
            | (refine wpList_store_rec rfl 24 _ _ rfl (B + 1) _ rfl rfl 24 _ RR8x.out (by kernel_rfl) rfl (by simp [hcx7, hcu1]) w HE8.out (by omega) ?_; intro wz hbz hblkz hgz hsz; have HBz := Lib.hid hbz; have HKz := Lib.hid hblkz; have HGz := Lib.hid hgz; clear hbz hblkz hgz hsz)
          refine bodyPost_ret (v := .tuple #[.agg #[u1, .slice Ax r.1.length cx], .int .i64 r.2]) ?_ rfl ?_
          · exact results2 (fn := Try.f13) (p := 4) (q := 5) rfl _ (B + 1) (by rfl) HKz.out rfl
          rw [HA.out]
          exact ⟨_, _, rfl, (BU7.out.rec RN7.out Hnu.out HGc.out).rec RR8x.out Hn.out HGz.out, (HO7.out.rec RN7.out Hnu.out HGc.out).rec RR8x.out Hn.out HGz.out, HBz.out⟩
        | true =>
          rw [show place (!true) = .func (.func 36) #[] #[] from rfl] at Hot
          have hot := Hot.out
          subst hot
          go_wp2_with fail
          refine (first_any N w6).mono ?_
          rintro e w6' ⟨rfl, rfl⟩
          go_wp2_with fail
          have HW := write_any none Af 0 cf [] fp tear w6' ht1 ht2 (by simp) (by omega) hcf (Row.nil _ _) HF6.out
          rw [Hr.out] at HW
          refine HW.mono ?_
          rintro e w7 ⟨v, rfl, hown, hb7⟩
          obtain ⟨Ax, cx, rfl, hcx⟩ := hown.shape
          have HO7 := Lib.hid hown.bs
          have HE7 := Lib.hid (HE6.out.trans' hb7)
          have RR7 := Lib.hid (RR6.out.ext hb7)
          have BU7 := Lib.hid (BU6.out.ext hb7)
          have BV7 := Lib.hid (BV6.out.ext hb7)
          have RN7 := Lib.hid (RN6.out.ext hb7)
          have hc7 := RN7.out.cell (i := 0) rfl
          have hf7 := RN7.out.free 0
          have hcx7 : (Value.slice Ax r.1.length cx).oneCell' = true := rfl
          have HGc := Lib.hid (grown_setCell w7 N 0 (.slice Ax r.1.length cx))
          have RN8x := Lib.hid (show (w7.setCell ⟨N, 0, none⟩ (.slice Ax r.1.length cx)).heap[N]? = some (.cells #[.slice Ax r.1.length cx, u2] 24 (0, 0)) from RN7.out.setCell 0 _)
          have RR8x := Lib.hid (show (w7.setCell ⟨N, 0, none⟩ (.slice Ax r.1.length cx)).heap[B + 1]? = some (.cells #[.slice none 0 0, .slice none 0 0] 24 (0, 0)) from RR7.out.turned HGc.out (by intro e; injection e with e; omega))
          have HE8 := Lib.hid (show Ext w (w7.setCell ⟨N, 0, none⟩ (.slice Ax r.1.length cx)) from ext_grown hB HE7.out HGc.out (by omega))
          clear hown hb7 HW
          go_wp2_with first
            | (with_reducible refine wpList_load_row rfl 24 _ rfl N rfl 24 _ (0, 0) _ RN8x.out Try.underlying24 rfl (by kernel_rfl) ?_)
            | (refine wpList_store_rec rfl 24 _ _ rfl (B + 1) _ rfl rfl 24 _ RR8x.out (by kernel_rfl) rfl (by simp [hcx7, hcu2]) w HE8.out (by omega) ?_; intro wz hbz hblkz hgz hsz; have HBz := Lib.hid hbz; have HKz := Lib.hid hblkz; have HGz := Lib.hid hgz; clear hbz hblkz hgz hsz)
          refine bodyPost_ret (v := .tuple #[.agg #[.slice Ax r.1.length cx, u2], .int .i64 r.2]) ?_ rfl ?_
          · exact results2 (fn := Try.f13) (p := 4) (q := 5) rfl _ (B + 1) (by rfl) HKz.out rfl
          rw [HA.out]
          exact ⟨_, _, rfl, (HO7.out.rec RN7.out Hnu.out HGc.out).rec RR8x.out Hn.out HGz.out, (BV7.out.rec RN7.out Hnu.out HGc.out).rec RR8x.out Hn.out HGz.out, HBz.out⟩

end Go.Proofs.Ytjcngipaeoegcaa
