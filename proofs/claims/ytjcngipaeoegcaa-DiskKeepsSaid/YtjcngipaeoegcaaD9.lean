/-
  Disks: what a disk's file tells, and the other one's place.
-/
import Derived.Test.YtjcngipaeoegcaaLog
namespace Go.Proofs.Ytjcngipaeoegcaa
open Go.RowKit

def otherOf (o : Option (Bool × Disk.File)) : Value := match o with | none => .nilFunc | some (s, _) => place (!s)
namespace Disk
def best (a b : List UInt8) : Nat → Option (Bool × File)
  | 0 => none
  | 1 => pick none false a
  | _ => pick (pick none false a) true b
theorem pick_no {o : Option (Bool × File)} {s : Bool} {x : List UInt8} (h : file x = none) : pick o s x = o := by unfold pick; rw [h]
theorem pick_yes {o : Option (Bool × File)} {s : Bool} {x : List UInt8} {f : File} (h : file x = some f) (hg : genOf o < f.gen) : pick o s x = some (s, f) := by unfold pick; rw [h]; simp only; rw [if_pos hg]
theorem pick_old {o : Option (Bool × File)} {s : Bool} {x : List UInt8} {f : File} (h : file x = some f) (hg : ¬ genOf o < f.gen) : pick o s x = o := by unfold pick; rw [h]; simp only; rw [if_neg hg]
theorem file_nil {x : List UInt8} (h : (Frame.all x).1 = []) : file x = none := by unfold file; rw [h]
theorem file_bad {x hd : List UInt8} {t : List (List UInt8)} (h : (Frame.all x).1 = hd :: t) (hp : parse hd = none) : file x = none := by unfold file; rw [h]; simp only; rw [hp]
theorem file_ok {x hd : List UInt8} {t : List (List UInt8)} {g : Nat} {rs : List (List UInt8)} (h : (Frame.all x).1 = hd :: t) (hp : parse hd = some (g, rs)) : file x = some ⟨g, rs ++ t, x.take (x.length - (Frame.all x).2.length)⟩ := by unfold file; rw [h]; simp only; rw [hp]
end Disk
theorem ext_grown {w w1 w2 : World} {B g : Nat} (hB : w.heap.size = B) (h : Ext w w1) (hg : w1.grownBy w2 (some g)) (hgB : B ≤ g) : Ext w w2 := by
  subst hB
  exact Below.grown h hg h.size (fun k e => by cases e; exact hgB)
def LogSay (g D : Nat) (o : Option (Bool × Disk.File)) (T : World → Prop) : Say := fun w _ => T w ∧ ∃ v0 v1 v2 v3, Rec w g 50 #[v0, v1, v2, v3] ∧ LogIs w D o v0 v1 v2 v3

theorem ix1 (w : World) : (Instr.index 67 (.agg #[.func (.func 36) #[] #[], .func (.func 37) #[] #[]]) (.int .i64 0)).run Try.prog w = .ok (.func (.func 36) #[] #[]) w := by kernel_rfl
theorem ix2 (w : World) : (Instr.index 67 (.agg #[.func (.func 36) #[] #[], .func (.func 37) #[] #[]]) (.int .i64 1)).run Try.prog w = .ok (.func (.func 37) #[] #[]) w := by kernel_rfl
theorem ix3 (w : World) : (Instr.index 67 (.agg #[.func (.func 37) #[] #[], .func (.func 36) #[] #[]]) (.int .i64 0)).run Try.prog w = .ok (.func (.func 37) #[] #[]) w := by kernel_rfl
theorem ix4 (w : World) : (Instr.index 67 (.agg #[.func (.func 37) #[] #[], .func (.func 36) #[] #[]]) (.int .i64 1)).run Try.prog w = .ok (.func (.func 36) #[] #[]) w := by kernel_rfl
theorem results23 (tmps : Array Value) (g : Nat) (h2 : tmps.getD 2 undef = .pointer (some ⟨g, 0, none⟩)) {w : World} {cs : Array Value} (hg : Rec w g 50 cs) (hs : cs.size = 4) :
    (results Try.f23 tmps).run Try.prog w = .ok (.tuple #[.agg cs, tmps.getD 3 undef, tmps.getD 4 undef]) w := by
  have h2' : tmps[2]?.getD undef = .pointer (some ⟨g, 0, none⟩) := by simpa using h2
  have h := run_loadVar_row (P := Try.prog) w g 50 50 cs (0, 0) _ hg Try.underlying50 rfl (by rw [hs]; kernel_rfl)
  simp [results, h2', asAddr, h, Result.andThen]

set_option maxHeartbeats 8000000 in
set_option maxRecDepth 100000 in
theorem read_any (A A' : Option Addr) (c c' : Nat) (a b : List UInt8) (w : World) (hca : a.length ≤ c) (hcb : b.length ≤ c') (ha : a.length ≤ 100000000) (hb : b.length ≤ 100000000) (h1 : Row w A (a.map B8)) (h2 : Row w A' (b.map B8)) :
    Calls Try.prog 23 #[.agg #[.slice A a.length c, .slice A' b.length c']] w fun e w' => ∃ v0 v1 v2 v3, LogIs w' w.heap.size (Disk.which a b) v0 v1 v2 v3 ∧ e = .returned (.tuple #[.agg #[v0, v1, v2, v3], otherOf (Disk.which a b), .bool (Disk.which a b).isSome]) ∧ Ext w w' := by
  rw [← Disk.pick_two]
  have HROWa := Lib.hid h1
  have HROWb := Lib.hid h2
  clear h1 h2
  have j1 := ix1
  have j2 := ix2
  have j3 := ix3
  have j4 := ix4
  obtain ⟨B, hB⟩ : ∃ B, w.heap.size = B := ⟨_, rfl⟩
  go_enter Try.func23, Try.ntmps23
  go_wp2_with fail
  obtain ⟨wx, hwx⟩ : ∃ wx, (w.alloc (.cells #[.slice A a.length c, .slice A' b.length c'] 24)).alloc (.cells #[.int .i64 0, .slice none 0 0, .slice none 0 0, .nilFunc] 50) = wx := ⟨_, rfl⟩
  have HE := Lib.hid (show Ext w wx by rw [← hwx]; exact (Ext.a1 _ _).alloc' _)
  have R1 := Lib.hid (show Rec wx B 24 #[.slice A a.length c, .slice A' b.length c'] by rw [← hwx, ← hB]; exact (Rec.new w _ _).ext (Ext.a1 _ _))
  have R2 := Lib.hid (show Rec wx (B + 1) 50 #[.int .i64 0, .slice none 0 0, .slice none 0 0, .nilFunc] by rw [← hwx, ← hB]; have := Rec.new (w.alloc (.cells #[.slice A a.length c, .slice A' b.length c'] 24)) 50 #[.int .i64 0, .slice none 0 0, .slice none 0 0, .nilFunc]; rw [World.size_alloc] at this; exact this)
  rw [hwx]
  clear hwx
  go_loopw [3, 4, 14] (fun ot ok i wr => ∃ k : Nat, k ≤ 2 ∧ i = .int .i64 (k : Int) ∧ ∃ o v0 v1 v2 v3, o = Disk.best a b k ∧ ot = otherOf o ∧ ok = .bool o.isSome ∧ Rec wr B 24 #[.slice A a.length c, .slice A' b.length c'] ∧ Rec wr (B + 1) 50 #[v0, v1, v2, v3] ∧ LogIs wr B o v0 v1 v2 v3 ∧ Ext w wr) (fun _ _ i _ => 2 - (intOf i).toNat)
  case atStart => exact ⟨0, by omega, rfl, none, _, _, _, _, rfl, rfl, rfl, R1.out, R2.out, ⟨rfl, rfl, rfl, rfl⟩, HE.out⟩
  case round =>
    obtain ⟨k, hk, rfl, o, v0, v1, v2, v3, ho, rfl, rfl, hr1, hr2, hlog, hE⟩ := hrel
    have RB := Lib.hid hr1
    have RL := Lib.hid hr2
    have HLOG := Lib.hid hlog
    have HEr := Lib.hid hE
    have hsz := hE.size
    have HO := Lib.hid ho
    clear hr1 hr2 hlog hE ho
    have hv0 := HLOG.out.1
    subst hv0
    rcases (show k = 0 ∨ k = 1 ∨ k = 2 by omega) with rfl | rfl | rfl
    · -- file 0
      have hc := RB.out.cell (i := 0) rfl
      have HN := Lib.hid (Frame.all_few a)
      have hgood := Frame.all_rest a
      obtain ⟨gl, Hgl⟩ : ∃ gl : Nat, Hid (gl = a.length - (Frame.all a).2.length) := ⟨_, Lib.hid rfl⟩
      have HGL := Lib.hid (show (a.length : Int) - ((Frame.all a).2.length : Int) = (gl : Int) ∧ gl ≤ a.length by rw [Hgl.out]; omega)
      clear hgood
      go_wp2_with fail
      refine (first_any B wr).mono ?_
      rintro e w0 ⟨rfl, hw0⟩
      subst hw0
      go_wp2_with fail
      have HQ := fall_any A c a w0 hca ha (HROWa.out.ext HEr.out)
      rw [HGL.out.1] at HQ
      refine HQ.mono ?_
      clear HQ
      intro e w1 ⟨vl, he, hl1, hb1⟩
      subst he
      have HB1 := Lib.hid hb1
      have RB1 := Lib.hid (RB.out.ext hb1)
      have RL1 := Lib.hid (RL.out.ext hb1)
      have HLOG1 := Lib.hid (HLOG.out.ext hb1)
      have HE1 := Lib.hid (HEr.out.trans' hb1)
      have HLs := Lib.hid hl1
      obtain ⟨Al, cl, hvl, hcl⟩ := hl1.shape
      subst hvl
      clear hl1 hb1 hc
      cases hall : (Frame.all a).1 with
      | nil =>
        have HP := Lib.hid (show Disk.best a b 1 = o by rw [HO.out]; exact Disk.pick_no (Disk.file_nil hall))
        rw [hall] at HLs hcl
        clear hall
        go_wp2_with fail
        go_roundw
        case rel => exact ⟨1, by omega, by go_num, o, _, _, _, _, HP.out.symm, rfl, rfl, RB1.out, RL1.out, HLOG1.out, HE1.out⟩
        case measure => simp [intOf]
      | cons hd t =>
        rw [hall] at HLs hcl HN
        have hhd : hd.length ≤ 100000 := HN.out.2 hd (by simp)
        have htl : t.length ≤ 100000000 := by have := HN.out.1; simp at this; omega
        obtain ⟨ad, u, had, hcu, hbu⟩ := HLs.out.ls.at_ (k := 0) (by simp)
        subst had
        rw [show ad.add 0 = ad by unfold Addr.add; simp] at hcu
        simp only [List.getElem_cons_zero] at hbu
        obtain ⟨Ah, ch, hu, hch, hrh⟩ := hbu
        subst hu
        have HQ := parse_any Ah ch hd w1 hch (by omega) hrh
        have HTL := Lib.hid (HLs.out.ls.cut (k := 1) hcl)
        have hnl : (((hd :: t).length : Int) == 0) = false := by simp; omega
        clear hrh
        cases hp : Disk.parse hd with
        | none =>
          have HP := Lib.hid (show Disk.best a b 1 = o by rw [HO.out]; exact Disk.pick_no (Disk.file_bad hall hp))
          rw [hp] at HQ
          have HQ := Lib.hid HQ
          clear hall hp
          go_wp2_with fail
          refine HQ.out.mono ?_
          rintro e w2 ⟨hb2, n2, A2, k2, c2, rfl⟩
          have HE2 := Lib.hid (HE1.out.trans' hb2)
          have HB2 := Lib.hid hb2
          clear hb2
          go_wp2_with fail
          go_roundw
          case rel => exact ⟨1, by omega, by go_num, o, _, _, _, _, HP.out.symm, rfl, rfl, RB1.out.ext HB2.out, RL1.out.ext HB2.out, HLOG1.out.ext HB2.out, HE2.out⟩
          case measure => simp [intOf]
        | some q =>
          obtain ⟨g, rs⟩ := q
          have HFI := Lib.hid (Disk.file_ok hall hp)
          have hgb := (Disk.parse_own _ _ _ hp).2
          have hrsl : rs.length ≤ 100000 := by
            have h1 := (Disk.parse_own _ _ _ hp).1
            have h2 := Disk.head_length g rs
            have h3 := Disk.texts_count rs
            rw [← h1] at h2
            omega
          rw [hp] at HQ
          have HQ := Lib.hid HQ
          by_cases hnew : Disk.genOf o < g
          · have HP := Lib.hid (show Disk.best a b 1 = some (false, ⟨g, rs ++ t, a.take (a.length - (Frame.all a).2.length)⟩) by
              show Disk.pick none false a = _
              have := Disk.pick_yes (o := o) (s := false) HFI.out hnew
              rw [HO.out] at this
              exact this)
            rw [← Hgl.out] at HP
            have hd1 : decide ((Disk.genOf o : Int) < (g : Int)) = true := by simp; omega
            clear hall hp
            go_wp2_with fail
            refine HQ.out.mono ?_
            rintro e w2 ⟨hb2, vr, rfl, hlr⟩
            obtain ⟨Ar, cr, hvr, hcr⟩ := hlr.shape
            subst hvr
            have HLR := Lib.hid hlr.ls
            have HE2 := Lib.hid (HE1.out.trans' hb2)
            have HTL2 := Lib.hid (HTL.out.ext hb2)
            have RB2 := Lib.hid (RB1.out.ext hb2)
            have RL2 := Lib.hid (RL1.out.ext hb2)
            have HLOG2 := Lib.hid (HLOG1.out.ext hb2)
            have hcg := RL2.out.cell (i := 0) rfl
            have hB2 : B ≤ w2.heap.size := by have := RB2.out.lt; omega
            have HROW2 := Lib.hid (HROWa.out.ext HE2.out)
            clear hlr hb2
            go_wp2_with fail
            have hcut := fun w => run_cut27 (some ad) (t.length + 1) cl 1 (by omega) 1 rfl w
            obtain ⟨At, HAt⟩ : ∃ At, Hid (At = if cl = 1 then some ad else (some ad).map (·.add 1)) := ⟨_, Lib.hid rfl⟩
            rw [← HAt.out] at HTL2 hcut
            simp only [List.drop_succ_cons, List.drop_zero] at HTL2
            obtain ⟨nR, HnR⟩ : ∃ nR, Hid ((rs ++ t).length = nR) := ⟨_, Lib.hid rfl⟩
            have hglc : gl ≤ c := by have := HGL.out.2; omega
            have hgli : (gl : Int) ≤ (c : Int) := by omega
            apply wp_region_gen (B) 11 (hB2) (by kernel_rfl) (by kernel_rfl) (by kernel_rfl)
              [Is (.int .i64 (g : Int)), Is (.slice Ar rs.length cr), Is (.slice (some ad) (t.length + 1) cl), Is (.slice At t.length (cl - 1)), fun w v => ∃ x, v = .slice (some x) 2 2 ∧ Row w (some x) [.slice Ar rs.length cr, .slice At t.length (cl - 1)], fun w v => ∃ X k, v = .slice X nR k ∧ LsN w B (.slice X nR k) (rs ++ t), Is (.slice A a.length c), Is (.int .i64 (gl : Int)), Is (.slice A gl c), Is (place false), fun w v => ∃ X k, v = .agg #[.int .i64 (g : Int), .slice X nR k, .slice A gl c, place false] ∧ LsN w B (.slice X nR k) (rs ++ t), LogSay (B + 1) B (some (false, ⟨g, rs ++ t, a.take gl⟩)) (fun w' => Rec w' B 24 #[.slice A a.length c, .slice A' b.length c'] ∧ Ext w w')] (fun i w' => (i = 5 → Ext w2 w') ∧ (i = 11 → Rec w' B 24 #[.slice A a.length c, .slice A' b.length c'] ∧ Ext w w' ∧ ∃ v1 v2 v3, Rec w' (B + 1) 50 #[.int .i64 (Disk.genOf o : Int), v1, v2, v3] ∧ LogIs w' B o (.int .i64 (Disk.genOf o : Int)) v1 v2 v3))
            case mono => exact ⟨Is.st _, Is.st _, Is.st _, Is.st _, Say.st_of (fun w w' v he ⟨x, h1, h2⟩ => ⟨x, h1, h2.ext he⟩), Say.st_of (fun w w' v he ⟨X, k, h1, h2⟩ => ⟨X, k, h1, h2.ext he⟩), Is.st _, Is.st _, Is.st _, Is.st _, Say.st_of (fun w w' v he ⟨X, k, h1, h2⟩ => ⟨X, k, h1, h2.ext he⟩), Say.st_of (fun w w' v he ⟨hT, v0, v1, v2, v3, h1, h2⟩ => ⟨⟨hT.1.ext he, Ext.trans' hT.2 he⟩, v0, v1, v2, v3, h1.ext he, h2.ext he⟩), True.intro⟩
            case monoS => exact fun i w w' he h => ⟨fun e => (h.1 e).trans' he, fun e => by obtain ⟨h1, h2, v1, v2, v3, h3, h4⟩ := h.2 e; exact ⟨h1.ext he, h2.trans' he, v1, v2, v3, h3.ext he, h4.ext he⟩⟩
            case startS => exact fun i => ⟨fun _ => Below.refl _ _, fun _ => ⟨RB2.out, HE2.out, _, _, _, RL2.out, HLOG2.out⟩⟩
            case hF => intro u; simp only [fill, Nat.reduceAdd, List.setIfInBounds_toArray, List.set_cons_succ, List.set_cons_zero]; exact rfl
            case steps =>
              refine StepsG.cons ?_ ?_
              · intro u w1 K hE hS hU hd hK hW
                go_simp
                exact hK _ _ (Below.refl _ _) rfl
              refine StepsG.cons ?_ ?_
              · intro u w1 K hE hS hU hd hK hW
                go_simp
                exact hK _ _ (Below.refl _ _) rfl
              refine StepsG.cons ?_ ?_
              · intro u w1 K hE hS hU hd hK hW
                go_simp
                exact hK _ _ (Below.refl _ _) rfl
              refine StepsG.cons ?_ ?_
              · intro u w1 K hE hS hU hd hK hW
                have d2 : u 2 = (.slice (some ad) (t.length + 1) cl) := hd 2 rfl
                simp only [d2] at hK
                go_simp
                exact hK _ _ (Below.refl _ _) rfl
              refine StepsG.cons ?_ ?_
              · intro u w1 K hE hS hU hd hK hW
                have d1 : u 1 = (.slice Ar rs.length cr) := hd 1 rfl
                have d3 : u 3 = (.slice At t.length (cl - 1)) := hd 3 rfl
                simp only [d1, d3] at hK
                go_simp
                exact hK _ _ ((Below.refl _ _).alloc (Nat.le_refl _) _) ⟨_, rfl, Row.newM w1 #[.slice Ar rs.length cr, .slice At t.length (cl - 1)] 27 (0, 0)⟩
              refine StepsG.cons ?_ ?_
              · intro u w1 K hE hS hU hd hK hW
                obtain ⟨x4, d4, h4_1⟩ : ∃ x4, u 4 = .slice (some x4) 2 2 ∧ Row w1 (some x4) [.slice Ar rs.length cr, .slice At t.length (cl - 1)] := hd 4 rfl
                simp only [d4] at hK
                go_simp
                have hX := hS.1 rfl
                have hC := concat2_any (some x4) Ar At 2 cr (cl - 1) rs t w1 (by omega) (by omega) h4_1 (HLR.out.ext hX) (HTL2.out.ext hX)
                refine hC.mono ?_
                rintro e w3 ⟨v, rfl, hown, hb3⟩
                obtain ⟨X, k, hv, hk⟩ := hown.1.shape
                subst hv
                rw [HnR.out] at hown ⊢
                exact hK _ _ hb3 ⟨X, k, rfl, hown.1.mono (Nat.le_trans hB2 hE.size), hown.2⟩
              refine StepsG.cons ?_ ?_
              · intro u w1 K hE hS hU hd hK hW
                go_simp
                exact hK _ _ (Below.refl _ _) rfl
              refine StepsG.cons ?_ ?_
              · intro u w1 K hE hS hU hd hK hW
                go_simp
                exact hK _ _ (Below.refl _ _) rfl
              refine StepsG.cons ?_ ?_
              · intro u w1 K hE hS hU hd hK hW
                have d6 : u 6 = (.slice A a.length c) := hd 6 rfl
                have d7 : u 7 = (.int .i64 (gl : Int)) := hd 7 rfl
                simp only [d6, d7] at hK
                go_simp
                exact hK _ _ (Below.refl _ _) rfl
              refine StepsG.cons ?_ ?_
              · intro u w1 K hE hS hU hd hK hW
                go_simp
                exact hK _ _ (Below.refl _ _) rfl
              refine StepsG.cons ?_ ?_
              · intro u w1 K hE hS hU hd hK hW
                have d0 : u 0 = (.int .i64 (g : Int)) := hd 0 rfl
                obtain ⟨X5, k5, d5, h5_1⟩ : ∃ X5 k5, u 5 = .slice X5 nR k5 ∧ LsN w1 B (.slice X5 nR k5) (rs ++ t) := hd 5 rfl
                have d8 : u 8 = (.slice A gl c) := hd 8 rfl
                have d9 : u 9 = (place false) := hd 9 rfl
                simp only [d0, d5, d8, d9] at hK
                go_simp
                exact hK _ _ (Below.refl _ _) ⟨_, _, rfl, h5_1⟩
              refine StepsG.cons ?_ ?_
              · intro u w1 K hE hS hU hd hK hW
                obtain ⟨X10, k10, d10, h10_1⟩ : ∃ X10 k10, u 10 = .agg #[.int .i64 (g : Int), .slice X10 nR k10, .slice A gl c, place false] ∧ LsN w1 B (.slice X10 nR k10) (rs ++ t) := hd 10 rfl
                obtain ⟨hRB, hEX, y1, y2, y3, hR, hLG⟩ := hS.2 rfl
                refine if_run rfl ?_
                refine wp_store_row 50 (.tmp 2) (.tmp 55) rfl (B + 1) _ rfl d10 50 _ hR (by kernel_rfl) rfl (by simp [Value.oneCell', place]) ?_
                have hg := grown_setRow w1 (B + 1) #[.int .i64 (g : Int), .slice X10 nR k10, .slice A gl c, place false]
                have ht := Turns.ofRec (B := B) hR (by decide) (by omega)
                have hrowg := HROWa.out.ext hEX
                have hnby := hLG.noByte
                have hnew : LogIs w1 B (some (false, ⟨g, rs ++ t, a.take gl⟩)) (.int .i64 (g : Int)) (.slice X10 nR k10) (.slice A gl c) (place false) := ⟨rfl, ⟨X10, k10, by rw [← HnR.out], h10_1⟩, ⟨A, c, by rw [List.length_take, Nat.min_eq_left HGL.out.2], by rw [List.length_take]; omega, by rw [List.map_take]; exact hrowg.take gl⟩, rfl⟩
                exact hW undef _ (Below.grown (Below.refl B w1) hg (Nat.le_trans hB2 hE.size) (fun k e => (ht k e).1)) ⟨fun _ _ h => h, fun _ _ h => h, fun _ _ h => h, fun _ _ h => h, fun hk => absurd hk (by decide), fun hk => absurd hk (by decide), fun _ _ h => h, fun _ _ h => h, fun _ _ h => h, fun _ _ h => h, fun hk => absurd hk (by decide), fun hk => absurd hk (by decide), True.intro⟩ (fun k hk h => ⟨fun e => absurd hk (by subst e; decide), fun e => absurd hk (by subst e; decide)⟩)  ⟨⟨hRB.turned hg (by simp), ext_grown hB hEX hg (by omega)⟩, _, _, _, _, hR.setRow _, hnew.turned hR (by decide) hnby hg⟩
              exact StepsG.nil
            case fin =>
              intro u w9 hE9 hP
              
              obtain ⟨⟨hRB9, hEX9⟩, y0, y1, y2, y3, hR9, hL9⟩ := hP 11 (by decide) (by decide)
              clear hE9 hP
              go_wp2_with fail
              go_roundw
              case rel => exact ⟨1, by omega, by go_num, _, _, _, _, _, HP.out.symm, rfl, rfl, hRB9, hR9, hL9, hEX9⟩
              case measure => simp [intOf]
          · have HP := Lib.hid (show Disk.best a b 1 = o by
              show Disk.pick none false a = _
              have := Disk.pick_old (o := o) (s := false) HFI.out hnew
              rw [HO.out] at this ⊢
              exact this)
            have hd1 : decide ((Disk.genOf o : Int) < (g : Int)) = false := by simp; omega
            clear hall hp
            go_wp2_with fail
            refine HQ.out.mono ?_
            rintro e w2 ⟨hb2, vr, rfl, hlr⟩
            obtain ⟨Ar, cr, hvr, hcr⟩ := hlr.shape
            subst hvr
            have RL2 := Lib.hid (RL1.out.ext hb2)
            have HB2 := Lib.hid hb2
            have HE2 := Lib.hid (HE1.out.trans' hb2)
            have hcg := RL2.out.cell (i := 0) rfl
            clear hlr hb2
            go_wp2_with fail
            go_roundw
            case rel => exact ⟨1, by omega, by go_num, o, _, _, _, _, HP.out.symm, rfl, rfl, RB1.out.ext HB2.out, RL2.out, HLOG1.out.ext HB2.out, HE2.out⟩
            case measure => simp [intOf]
    · -- file 1
      have hc := RB.out.cell (i := 1) rfl
      have HN := Lib.hid (Frame.all_few b)
      have hgood := Frame.all_rest b
      obtain ⟨gl, Hgl⟩ : ∃ gl : Nat, Hid (gl = b.length - (Frame.all b).2.length) := ⟨_, Lib.hid rfl⟩
      have HGL := Lib.hid (show (b.length : Int) - ((Frame.all b).2.length : Int) = (gl : Int) ∧ gl ≤ b.length by rw [Hgl.out]; omega)
      clear hgood
      go_wp2_with fail
      refine (second_any B wr).mono ?_
      rintro e w0 ⟨rfl, hw0⟩
      subst hw0
      go_wp2_with fail
      have HQ := fall_any A' c' b w0 hcb hb (HROWb.out.ext HEr.out)
      rw [HGL.out.1] at HQ
      refine HQ.mono ?_
      clear HQ
      intro e w1 ⟨vl, he, hl1, hb1⟩
      subst he
      have HB1 := Lib.hid hb1
      have RB1 := Lib.hid (RB.out.ext hb1)
      have RL1 := Lib.hid (RL.out.ext hb1)
      have HLOG1 := Lib.hid (HLOG.out.ext hb1)
      have HE1 := Lib.hid (HEr.out.trans' hb1)
      have HLs := Lib.hid hl1
      obtain ⟨Al, cl, hvl, hcl⟩ := hl1.shape
      subst hvl
      clear hl1 hb1 hc
      cases hall : (Frame.all b).1 with
      | nil =>
        have HP := Lib.hid (show Disk.best a b 2 = o by rw [HO.out]; exact Disk.pick_no (Disk.file_nil hall))
        rw [hall] at HLs hcl
        clear hall
        go_wp2_with fail
        go_roundw
        case rel => exact ⟨2, by omega, by go_num, o, _, _, _, _, HP.out.symm, rfl, rfl, RB1.out, RL1.out, HLOG1.out, HE1.out⟩
        case measure => simp [intOf]
      | cons hd t =>
        rw [hall] at HLs hcl HN
        have hhd : hd.length ≤ 100000 := HN.out.2 hd (by simp)
        have htl : t.length ≤ 100000000 := by have := HN.out.1; simp at this; omega
        obtain ⟨ad, u, had, hcu, hbu⟩ := HLs.out.ls.at_ (k := 0) (by simp)
        subst had
        rw [show ad.add 0 = ad by unfold Addr.add; simp] at hcu
        simp only [List.getElem_cons_zero] at hbu
        obtain ⟨Ah, ch, hu, hch, hrh⟩ := hbu
        subst hu
        have HQ := parse_any Ah ch hd w1 hch (by omega) hrh
        have HTL := Lib.hid (HLs.out.ls.cut (k := 1) hcl)
        have hnl : (((hd :: t).length : Int) == 0) = false := by simp; omega
        clear hrh
        cases hp : Disk.parse hd with
        | none =>
          have HP := Lib.hid (show Disk.best a b 2 = o by rw [HO.out]; exact Disk.pick_no (Disk.file_bad hall hp))
          rw [hp] at HQ
          have HQ := Lib.hid HQ
          clear hall hp
          go_wp2_with fail
          refine HQ.out.mono ?_
          rintro e w2 ⟨hb2, n2, A2, k2, c2, rfl⟩
          have HE2 := Lib.hid (HE1.out.trans' hb2)
          have HB2 := Lib.hid hb2
          clear hb2
          go_wp2_with fail
          go_roundw
          case rel => exact ⟨2, by omega, by go_num, o, _, _, _, _, HP.out.symm, rfl, rfl, RB1.out.ext HB2.out, RL1.out.ext HB2.out, HLOG1.out.ext HB2.out, HE2.out⟩
          case measure => simp [intOf]
        | some q =>
          obtain ⟨g, rs⟩ := q
          have HFI := Lib.hid (Disk.file_ok hall hp)
          have hgb := (Disk.parse_own _ _ _ hp).2
          have hrsl : rs.length ≤ 100000 := by
            have h1 := (Disk.parse_own _ _ _ hp).1
            have h2 := Disk.head_length g rs
            have h3 := Disk.texts_count rs
            rw [← h1] at h2
            omega
          rw [hp] at HQ
          have HQ := Lib.hid HQ
          by_cases hnew : Disk.genOf o < g
          · have HP := Lib.hid (show Disk.best a b 2 = some (true, ⟨g, rs ++ t, b.take (b.length - (Frame.all b).2.length)⟩) by
              show Disk.pick (Disk.pick none false a) true b = _
              have := Disk.pick_yes (o := o) (s := true) HFI.out hnew
              rw [HO.out] at this
              exact this)
            rw [← Hgl.out] at HP
            have hd1 : decide ((Disk.genOf o : Int) < (g : Int)) = true := by simp; omega
            clear hall hp
            go_wp2_with fail
            refine HQ.out.mono ?_
            rintro e w2 ⟨hb2, vr, rfl, hlr⟩
            obtain ⟨Ar, cr, hvr, hcr⟩ := hlr.shape
            subst hvr
            have HLR := Lib.hid hlr.ls
            have HE2 := Lib.hid (HE1.out.trans' hb2)
            have HTL2 := Lib.hid (HTL.out.ext hb2)
            have RB2 := Lib.hid (RB1.out.ext hb2)
            have RL2 := Lib.hid (RL1.out.ext hb2)
            have HLOG2 := Lib.hid (HLOG1.out.ext hb2)
            have hcg := RL2.out.cell (i := 0) rfl
            have hB2 : B ≤ w2.heap.size := by have := RB2.out.lt; omega
            have HROW2 := Lib.hid (HROWb.out.ext HE2.out)
            clear hlr hb2
            go_wp2_with fail
            have hcut := fun w => run_cut27 (some ad) (t.length + 1) cl 1 (by omega) 1 rfl w
            obtain ⟨At, HAt⟩ : ∃ At, Hid (At = if cl = 1 then some ad else (some ad).map (·.add 1)) := ⟨_, Lib.hid rfl⟩
            rw [← HAt.out] at HTL2 hcut
            simp only [List.drop_succ_cons, List.drop_zero] at HTL2
            obtain ⟨nR, HnR⟩ : ∃ nR, Hid ((rs ++ t).length = nR) := ⟨_, Lib.hid rfl⟩
            have hglc : gl ≤ c' := by have := HGL.out.2; omega
            have hgli : (gl : Int) ≤ (c' : Int) := by omega
            apply wp_region_gen (B) 11 (hB2) (by kernel_rfl) (by kernel_rfl) (by kernel_rfl)
              [Is (.int .i64 (g : Int)), Is (.slice Ar rs.length cr), Is (.slice (some ad) (t.length + 1) cl), Is (.slice At t.length (cl - 1)), fun w v => ∃ x, v = .slice (some x) 2 2 ∧ Row w (some x) [.slice Ar rs.length cr, .slice At t.length (cl - 1)], fun w v => ∃ X k, v = .slice X nR k ∧ LsN w B (.slice X nR k) (rs ++ t), Is (.slice A' b.length c'), Is (.int .i64 (gl : Int)), Is (.slice A' gl c'), Is (place true), fun w v => ∃ X k, v = .agg #[.int .i64 (g : Int), .slice X nR k, .slice A' gl c', place true] ∧ LsN w B (.slice X nR k) (rs ++ t), LogSay (B + 1) B (some (true, ⟨g, rs ++ t, b.take gl⟩)) (fun w' => Rec w' B 24 #[.slice A a.length c, .slice A' b.length c'] ∧ Ext w w')] (fun i w' => (i = 5 → Ext w2 w') ∧ (i = 11 → Rec w' B 24 #[.slice A a.length c, .slice A' b.length c'] ∧ Ext w w' ∧ ∃ v1 v2 v3, Rec w' (B + 1) 50 #[.int .i64 (Disk.genOf o : Int), v1, v2, v3] ∧ LogIs w' B o (.int .i64 (Disk.genOf o : Int)) v1 v2 v3))
            case mono => exact ⟨Is.st _, Is.st _, Is.st _, Is.st _, Say.st_of (fun w w' v he ⟨x, h1, h2⟩ => ⟨x, h1, h2.ext he⟩), Say.st_of (fun w w' v he ⟨X, k, h1, h2⟩ => ⟨X, k, h1, h2.ext he⟩), Is.st _, Is.st _, Is.st _, Is.st _, Say.st_of (fun w w' v he ⟨X, k, h1, h2⟩ => ⟨X, k, h1, h2.ext he⟩), Say.st_of (fun w w' v he ⟨hT, v0, v1, v2, v3, h1, h2⟩ => ⟨⟨hT.1.ext he, Ext.trans' hT.2 he⟩, v0, v1, v2, v3, h1.ext he, h2.ext he⟩), True.intro⟩
            case monoS => exact fun i w w' he h => ⟨fun e => (h.1 e).trans' he, fun e => by obtain ⟨h1, h2, v1, v2, v3, h3, h4⟩ := h.2 e; exact ⟨h1.ext he, h2.trans' he, v1, v2, v3, h3.ext he, h4.ext he⟩⟩
            case startS => exact fun i => ⟨fun _ => Below.refl _ _, fun _ => ⟨RB2.out, HE2.out, _, _, _, RL2.out, HLOG2.out⟩⟩
            case hF => intro u; simp only [fill, Nat.reduceAdd, List.setIfInBounds_toArray, List.set_cons_succ, List.set_cons_zero]; exact rfl
            case steps =>
              refine StepsG.cons ?_ ?_
              · intro u w1 K hE hS hU hd hK hW
                go_simp
                exact hK _ _ (Below.refl _ _) rfl
              refine StepsG.cons ?_ ?_
              · intro u w1 K hE hS hU hd hK hW
                go_simp
                exact hK _ _ (Below.refl _ _) rfl
              refine StepsG.cons ?_ ?_
              · intro u w1 K hE hS hU hd hK hW
                go_simp
                exact hK _ _ (Below.refl _ _) rfl
              refine StepsG.cons ?_ ?_
              · intro u w1 K hE hS hU hd hK hW
                have d2 : u 2 = (.slice (some ad) (t.length + 1) cl) := hd 2 rfl
                simp only [d2] at hK
                go_simp
                exact hK _ _ (Below.refl _ _) rfl
              refine StepsG.cons ?_ ?_
              · intro u w1 K hE hS hU hd hK hW
                have d1 : u 1 = (.slice Ar rs.length cr) := hd 1 rfl
                have d3 : u 3 = (.slice At t.length (cl - 1)) := hd 3 rfl
                simp only [d1, d3] at hK
                go_simp
                exact hK _ _ ((Below.refl _ _).alloc (Nat.le_refl _) _) ⟨_, rfl, Row.newM w1 #[.slice Ar rs.length cr, .slice At t.length (cl - 1)] 27 (0, 0)⟩
              refine StepsG.cons ?_ ?_
              · intro u w1 K hE hS hU hd hK hW
                obtain ⟨x4, d4, h4_1⟩ : ∃ x4, u 4 = .slice (some x4) 2 2 ∧ Row w1 (some x4) [.slice Ar rs.length cr, .slice At t.length (cl - 1)] := hd 4 rfl
                simp only [d4] at hK
                go_simp
                have hX := hS.1 rfl
                have hC := concat2_any (some x4) Ar At 2 cr (cl - 1) rs t w1 (by omega) (by omega) h4_1 (HLR.out.ext hX) (HTL2.out.ext hX)
                refine hC.mono ?_
                rintro e w3 ⟨v, rfl, hown, hb3⟩
                obtain ⟨X, k, hv, hk⟩ := hown.1.shape
                subst hv
                rw [HnR.out] at hown ⊢
                exact hK _ _ hb3 ⟨X, k, rfl, hown.1.mono (Nat.le_trans hB2 hE.size), hown.2⟩
              refine StepsG.cons ?_ ?_
              · intro u w1 K hE hS hU hd hK hW
                go_simp
                exact hK _ _ (Below.refl _ _) rfl
              refine StepsG.cons ?_ ?_
              · intro u w1 K hE hS hU hd hK hW
                go_simp
                exact hK _ _ (Below.refl _ _) rfl
              refine StepsG.cons ?_ ?_
              · intro u w1 K hE hS hU hd hK hW
                have d6 : u 6 = (.slice A' b.length c') := hd 6 rfl
                have d7 : u 7 = (.int .i64 (gl : Int)) := hd 7 rfl
                simp only [d6, d7] at hK
                go_simp
                exact hK _ _ (Below.refl _ _) rfl
              refine StepsG.cons ?_ ?_
              · intro u w1 K hE hS hU hd hK hW
                go_simp
                exact hK _ _ (Below.refl _ _) rfl
              refine StepsG.cons ?_ ?_
              · intro u w1 K hE hS hU hd hK hW
                have d0 : u 0 = (.int .i64 (g : Int)) := hd 0 rfl
                obtain ⟨X5, k5, d5, h5_1⟩ : ∃ X5 k5, u 5 = .slice X5 nR k5 ∧ LsN w1 B (.slice X5 nR k5) (rs ++ t) := hd 5 rfl
                have d8 : u 8 = (.slice A' gl c') := hd 8 rfl
                have d9 : u 9 = (place true) := hd 9 rfl
                simp only [d0, d5, d8, d9] at hK
                go_simp
                exact hK _ _ (Below.refl _ _) ⟨_, _, rfl, h5_1⟩
              refine StepsG.cons ?_ ?_
              · intro u w1 K hE hS hU hd hK hW
                obtain ⟨X10, k10, d10, h10_1⟩ : ∃ X10 k10, u 10 = .agg #[.int .i64 (g : Int), .slice X10 nR k10, .slice A' gl c', place true] ∧ LsN w1 B (.slice X10 nR k10) (rs ++ t) := hd 10 rfl
                obtain ⟨hRB, hEX, y1, y2, y3, hR, hLG⟩ := hS.2 rfl
                refine if_run rfl ?_
                refine wp_store_row 50 (.tmp 2) (.tmp 55) rfl (B + 1) _ rfl d10 50 _ hR (by kernel_rfl) rfl (by simp [Value.oneCell', place]) ?_
                have hg := grown_setRow w1 (B + 1) #[.int .i64 (g : Int), .slice X10 nR k10, .slice A' gl c', place true]
                have ht := Turns.ofRec (B := B) hR (by decide) (by omega)
                have hrowg := HROWb.out.ext hEX
                have hnby := hLG.noByte
                have hnew : LogIs w1 B (some (true, ⟨g, rs ++ t, b.take gl⟩)) (.int .i64 (g : Int)) (.slice X10 nR k10) (.slice A' gl c') (place true) := ⟨rfl, ⟨X10, k10, by rw [← HnR.out], h10_1⟩, ⟨A', c', by rw [List.length_take, Nat.min_eq_left HGL.out.2], by rw [List.length_take]; omega, by rw [List.map_take]; exact hrowg.take gl⟩, rfl⟩
                exact hW undef _ (Below.grown (Below.refl B w1) hg (Nat.le_trans hB2 hE.size) (fun k e => (ht k e).1)) ⟨fun _ _ h => h, fun _ _ h => h, fun _ _ h => h, fun _ _ h => h, fun hk => absurd hk (by decide), fun hk => absurd hk (by decide), fun _ _ h => h, fun _ _ h => h, fun _ _ h => h, fun _ _ h => h, fun hk => absurd hk (by decide), fun hk => absurd hk (by decide), True.intro⟩ (fun k hk h => ⟨fun e => absurd hk (by subst e; decide), fun e => absurd hk (by subst e; decide)⟩)  ⟨⟨hRB.turned hg (by simp), ext_grown hB hEX hg (by omega)⟩, _, _, _, _, hR.setRow _, hnew.turned hR (by decide) hnby hg⟩
              exact StepsG.nil
            case fin =>
              intro u w9 hE9 hP
              
              obtain ⟨⟨hRB9, hEX9⟩, y0, y1, y2, y3, hR9, hL9⟩ := hP 11 (by decide) (by decide)
              clear hE9 hP
              go_wp2_with fail
              go_roundw
              case rel => exact ⟨2, by omega, by go_num, _, _, _, _, _, HP.out.symm, rfl, rfl, hRB9, hR9, hL9, hEX9⟩
              case measure => simp [intOf]
          · have HP := Lib.hid (show Disk.best a b 2 = o by
              show Disk.pick (Disk.pick none false a) true b = _
              have := Disk.pick_old (o := o) (s := true) HFI.out hnew
              rw [HO.out] at this ⊢
              exact this)
            have hd1 : decide ((Disk.genOf o : Int) < (g : Int)) = false := by simp; omega
            clear hall hp
            go_wp2_with fail
            refine HQ.out.mono ?_
            rintro e w2 ⟨hb2, vr, rfl, hlr⟩
            obtain ⟨Ar, cr, hvr, hcr⟩ := hlr.shape
            subst hvr
            have RL2 := Lib.hid (RL1.out.ext hb2)
            have HB2 := Lib.hid hb2
            have HE2 := Lib.hid (HE1.out.trans' hb2)
            have hcg := RL2.out.cell (i := 0) rfl
            clear hlr hb2
            go_wp2_with fail
            go_roundw
            case rel => exact ⟨2, by omega, by go_num, o, _, _, _, _, HP.out.symm, rfl, rfl, RB1.out.ext HB2.out, RL2.out, HLOG1.out.ext HB2.out, HE2.out⟩
            case measure => simp [intOf]
    · have HFIN := Lib.hid (show o = Disk.pick (Disk.pick none false a) true b from HO.out)
      have hcells := HLOG.out.cells
      have HRL := Lib.hid (show wr.heap[B + 1]? = some (.cells #[.int .i64 (Disk.genOf o : Int), v1, v2, v3] 50 (0, 0)) from RL.out)
      go_wp2_with first
        | (with_reducible refine wpList_load_row rfl 50 _ rfl (B + 1) rfl 50 _ (0, 0) _ HRL.out Try.underlying50 rfl (by kernel_rfl) ?_)
        | (with_reducible refine wpList_store_row rfl 50 _ _ rfl (B + 1) _ rfl rfl 50 _ HRL.out (by kernel_rfl) rfl hcells ?_)
      rw [setRow_id _ _ _ _ HRL.out]
      rw [← HFIN.out]
      refine bodyPost_ret (results23 _ (B + 1) rfl RL.out rfl) rfl ⟨_, _, _, _, ?_, rfl, HEr.out⟩
      rw [hB]
      exact HLOG.out

end Go.Proofs.Ytjcngipaeoegcaa
