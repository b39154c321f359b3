/-
  Joined: Clk, Awk, In, In2. Nothing is proved here of a statement.
-/
import Derived.Test.YtpdghiplnlhnfaaGreatMP
import Derived.Test.YtpdghiplnlhnfaaGreatMO
import Derived.Test.YtpdghiplnlhnfaaGreatMH
import Derived.Deep.SlicePairs
import Derived.WideShapes
import Derived.ChangeShapes
import Derived.Test.YtpdghiplnlhnfaaGreatMN
namespace Go.Proofs.YtpdghiplnlhnfaaGreat.Ax
set_option linter.unusedSimpArgs false
set_option linter.unusedVariables false
open Go Go.Proofs
set_option maxRecDepth 100000
set_option linter.unusedSimpArgs false
set_option linter.unusedVariables false
attribute [go_sem] ty101 ty136
theorem Pre.noRes {h0 h L : List Ob} (k : Pre h0 h) (hL : NoRes L) : Pre h0 (h ++ L) := k.app hL
theorem New.of {h h' : List Ob} {e : Nat} {x : AV} {rows : List (List AV)} {L L2 : List Ob} (hh : h' = h ++ L) (k : New h' e x rows L2) : New h e x rows (L ++ L2) := fun h2 hl => by
  have := k (h2 ++ L) (by rw [hh]; simp [hl])
  rwa [List.append_assoc] at this
theorem NoRes.app {L M : List Ob} (a : NoRes L) (b : NoRes M) : NoRes (L ++ M) := fun o ho => by
  rcases List.mem_append.1 ho with h | h
  · exact a o h
  · exact b o h
theorem c67 (g : Seg) : Pure Tryz.prog 56 [.ag (segC g)] (bl true) := fun h => by
  refine acalls_wp Tryz.f56 [.tmp 2] 3 rfl rfl rfl rfl rfl rfl (by decide) (⟨_, _, ⟨rfl, rfl⟩, .refl⟩) fun B => ?_
  simp only [go_sem]
  (first | refine endA_pure0 ?_ | refine endA_pure ?_ (by rfl)) <;> (simp only [go_sem] <;> try rfl)
theorem c68 (h : List Ob) (i : Nat) (g : Seg) (k : Int) (hi : h[i]? = some (.box 3 [i64 k])) : ACalls Tryz.prog 58 [.ag (segC g), .ptr i 0] h fun r h' => r = bl (g.kind == k) ∧ h' = h := by
  have hb : ∀ M, (h ++ M)[i]? = some (.box 3 [i64 k]) := fun M => get_app_old hi
  refine acalls_wp Tryz.f58 [.tmp 3] 8 rfl rfl rfl rfl rfl rfl (by decide) (⟨_, _, ⟨rfl, rfl⟩, .refl⟩) fun B => ?_
  simp only [go_sem, hb]
  (first | refine endA_pure0 ?_ | refine endA_pure ?_ (by rfl)) <;> (simp only [go_sem] <;> try rfl)
def spansP (p : Seg → Bool) (l : List Seg) : List Spn := (l.filter p).map spS
theorem spansP_snoc (p : Seg → Bool) (l : List Seg) (g : Seg) : spansP p (l ++ [g]) = if p g then spansP p l ++ [spS g] else spansP p l := by
  unfold spansP
  rw [List.filter_append, List.map_append]
  cases h : p g <;> simp [h]
theorem spansP_len (p : Seg → Bool) (l : List Seg) : (spansP p l).length ≤ l.length := by
  unfold spansP
  rw [List.length_map]
  exact List.length_filter_le p l
set_option maxHeartbeats 1000000 in
theorem c66 (h : List Ob) (x : AV) (f : FuncId) (cs : List AV) (l : List Seg) (p : Seg → Bool) (hx : SlOf h x 5 (l.map segC)) (hl : l.length < 1048576) (hp : ∀ g ∈ l, ∀ L, ACalls Tryz.prog f ([.ag (segC g)] ++ cs) (h ++ L) fun r h' => r = bl (p g) ∧ h' = h ++ L) :
    ACalls Tryz.prog 55 [x, .fn (.func f) [] cs] h fun r h' => ∃ L, h' = h ++ L ∧ NoRes L ∧ New h 2 r ((normS (spansP p l)).map spnC) L := by
  have hex : ∃ r h', (∃ L, h' = h ++ L ∧ NoRes L ∧ New h 2 r ((normS (spansP p l)).map spnC) L) ∧ ResK h h' :=
    ⟨.sl 2 _, _, ⟨[], rfl, noRes0, fun _ _ => ⟨rfl, fun _ => rfl⟩⟩, resK_app⟩
  refine acalls_wp Tryz.f55 [.tmp 4] 29 rfl rfl rfl rfl rfl rfl (by decide) (hex) fun B => ?_
  simp only [go_sem, hx.rows, List.length_map]
  refine wp_loop_a (by decide) (fun m T h' => ∃ k : Nat, k ≤ l.length ∧ Pre h h' ∧ OwnS h h' 88 2 (T 5) ((spansP p (l.take k)).map spnC) ∧ T 1 = .fn (.func f) [] cs ∧ T 8 = x ∧ T 9 = i64 l.length ∧ T 10 = i64 k ∧ m = l.length - k) l.length
    ⟨0, by omega, Pre.refl, .inl ⟨by simp only [go_sem], rfl⟩, by simp only [go_sem], by simp only [go_sem], by simp only [go_sem], by (simp only [go_sem] <;> rfl), rfl⟩ ?_
  rintro m T h' ⟨k, hk, hpre, ho, t1, t8, t9, t10, rfl⟩
  simp only [go_sem, t9, t10]
  refine ways (fun e => ?_) (fun e => ?_)
  · have hlt := dlt e
    obtain ⟨L0, rfl, hN⟩ := hpre
    have hx' : SlOf (h ++ L0) x 5 (l.map segC) := hx.app _
    have hee := hx'.at (i := k) (by simpa using hlt)
    have hrow : (l.map segC)[k]? = some (segC l[k]) := by rw [List.getElem?_map, List.getElem?_eq_getElem hlt]; rfl
    have hkl : (k : Int) < l.length := by omega
    have hstep := spansP_snoc p (l.take k) l[k]
    rw [List.take_append_getElem hlt] at hstep
    have hmem : l[k] ∈ l := List.getElem_mem hlt
    obtain ⟨y, hy⟩ : ∃ y, y = l[k] := ⟨_, rfl⟩
    rw [← hy] at hrow hstep hmem
    have fin : k + 1 ≤ l.length := by omega
    have hA : List.length (segC y) = 5 := rfl
    have hcall := hp y hmem (L0 ++ [.box 55 (segC y)])
    rw [← List.append_assoc] at hcall
    have hpre : Pre h (h ++ L0) := ⟨L0, rfl, hN⟩
    generalize h ++ L0 = h' at *
    simp only [go_sem, t8, t10, t1, hee, hx'.rows, hrow, hkl, List.length_map, Int.toNat_natCast, Int.natCast_nonneg]
    refine call_by hcall ?_
    rintro _ h3 ⟨rfl, e3⟩
    subst e3
    simp only [go_sem]
    refine ways (fun e2 => ?_) (fun e2 => ?_)
    · rw [e2] at hstep
      simp only [if_true] at hstep
      rcases ho with ⟨t5, hn⟩ | ⟨id, st, q1, t5, q3⟩
      · simp only [go_sem, t5, t10]
        refine ⟨l.length - (k + 1), by omega, k + 1, fin, hpre.app (noRes_cons rfl (noRes_cons rfl (noRes1 rfl))), .inr ⟨_, _, by have := hpre.len; omega, rfl, ?_⟩, t1, t8, t9, t_succ (by omega) rfl, rfl⟩
        rw [hstep, List.map_append, hn, get_new rfl]
        rfl
      · have hrl : (((spansP p (l.take k)).map spnC).length + 1) * 17 ≤ 140737488355328 := by
          have := spansP_len p (l.take k)
          rw [List.length_take] at this
          rw [List.length_map]; omega
        have hg : ∀ M, (h' ++ M)[id]? = some (.row 88 2 ((spansP p (l.take k)).map spnC) st) := fun M => get_app_old q3
        simp only [go_sem, t5, t10, hg, hrl]
        refine ⟨l.length - (k + 1), by omega, k + 1, fin, (hpre.app (noRes_cons rfl (noRes1 rfl))).set q1 rfl, .inr ⟨id, st + 1, q1, rfl, ?_⟩, t1, t8, t9, t_succ (by omega) rfl, rfl⟩
        rw [hstep, List.map_append]
        exact get_set_same (hg _)
    · have e2 : p y = false := by simpa using e2
      rw [e2] at hstep
      simp only [Bool.false_eq_true, if_false] at hstep
      simp only [go_sem, t10]
      exact ⟨l.length - (k + 1), by omega, k + 1, fin, hpre.app (noRes1 rfl), by rw [hstep]; exact ho.app _, t1, t8, t9, t_succ (by omega) rfl, rfl⟩
  · have hge := dnlt e
    have hk2 : k = l.length := by omega
    subst hk2
    rw [List.take_length] at ho
    have hsl := spansP_len p l
    rcases ho with ⟨t5, hn⟩ | ⟨id, st, q1, t5, q3⟩
    · have hn : spansP p l = [] := by simpa using hn
      simp only [go_sem, t5]
      refine call_by (c96z _) ?_
      rintro _ h4 ⟨rfl, e1⟩
      subst e1
      simp only [go_sem]
      refine call_by (c65 _ (.v (.slice none 0 0)) [] ⟨rfl, fun h => absurd rfl h⟩ (by simp)) ?_
      rintro r h4 ⟨L2, rfl, n1, n2⟩
      simp only [go_sem]
      obtain ⟨L, rfl, hN⟩ := hpre
      exact ⟨r, by simp only [go_sem], .inl ⟨L ++ L2, by simp, hN.app n1, by rw [hn]; exact n2.of rfl⟩⟩
    · simp only [go_sem, t5]
      refine call_by (c96 _ id st _ q3) ?_
      rintro _ h4 ⟨rfl, rfl⟩
      simp only [go_sem]
      refine call_by (c65 _ (.sl 2 ((spansP p l).map spnC)) (spansP p l) ⟨rfl, fun _ => rfl⟩ (by omega)) ?_
      rintro r h4 ⟨L2, rfl, n1, n2⟩
      simp only [go_sem]
      have hpre := hpre.set (o := .gone) q1 rfl
      obtain ⟨L, hL, hN⟩ := hpre
      exact ⟨r, by simp only [go_sem], .inl ⟨L ++ L2, by rw [hL]; simp, hN.app n1, n2.of hL⟩⟩
def clockP (l : List Seg) : List Spn := normS (l.map spS)
def onlyP (l : List Seg) (k : Int) : List Spn := normS ((l.filter fun g => g.kind == k).map spS)
theorem c31 (h : List Ob) (x : AV) (l : List Seg) (hx : SlOf h x 5 (l.map segC)) (hl : l.length < 1048576) :
    ACalls Tryz.prog 19 [x] h fun r h' => ∃ L, h' = h ++ L ∧ NoRes L ∧ New h 2 r ((clockP l).map spnC) L := by
  have hex : ∃ r h', (∃ L, h' = h ++ L ∧ NoRes L ∧ New h 2 r ((clockP l).map spnC) L) ∧ ResK h h' :=
    ⟨.sl 2 _, _, ⟨[], rfl, noRes0, fun _ _ => ⟨rfl, fun _ => rfl⟩⟩, resK_app⟩
  have hall : spansP (fun _ => true) l = l.map spS := by unfold spansP; rw [filter_all fun _ _ => rfl]
  refine acalls_wp Tryz.f19 [.tmp 2] 5 rfl rfl rfl rfl rfl rfl (by decide) (hex) fun B => ?_
  simp only [go_sem]
  refine call_by (c66 h x 56 [] l (fun _ => true) hx hl fun g _ L => c67 g _) ?_
  rintro r h4 ⟨L2, rfl, n1, n2⟩
  simp only [go_sem]
  exact ⟨r, by simp only [go_sem], .inl ⟨L2, rfl, n1, by rw [hall] at n2; exact n2⟩⟩
theorem c32 (h : List Ob) (x : AV) (l : List Seg) (k : Int) (hx : SlOf h x 5 (l.map segC)) (hl : l.length < 1048576) :
    ACalls Tryz.prog 21 [x, i64 k] h fun r h' => ∃ L, h' = h ++ L ∧ NoRes L ∧ New h 2 r ((onlyP l k).map spnC) L := by
  have hex : ∃ r h', (∃ L, h' = h ++ L ∧ NoRes L ∧ New h 2 r ((onlyP l k).map spnC) L) ∧ ResK h h' :=
    ⟨.sl 2 _, _, ⟨[], rfl, noRes0, fun _ _ => ⟨rfl, fun _ => rfl⟩⟩, resK_app⟩
  refine acalls_wp Tryz.f21 [.tmp 4] 8 rfl rfl rfl rfl rfl rfl (by decide) (hex) fun B => ?_
  simp only [go_sem]
  refine call_by (c66 _ x 58 [.ptr h.length 0] l (fun g => g.kind == k) (hx.app _) hl fun g _ L => c68 _ _ g k (by rw [List.append_assoc, get_new0 rfl]; rfl)) ?_
  rintro r h4 ⟨L2, rfl, n1, n2⟩
  simp only [go_sem]
  exact ⟨r, by simp only [go_sem], .inl ⟨_, rfl, noRes_cons rfl n1, n2.of rfl⟩⟩
theorem sizeS_snoc (l : List Spn) (x : Spn) : sizeS (l ++ [x]) = sizeS l + (x.to_ - x.from_) := by simp [sizeS]
theorem sizeS_le {l : List Spn} (hp : ∀ s ∈ l, 0 ≤ s.from_ ∧ s.from_ < s.to_ ∧ s.to_ ≤ 32054400) : 0 ≤ sizeS l ∧ sizeS l ≤ 32054400 * l.length := by
  induction l with
  | nil => simp [sizeS]
  | cons x l ih =>
    have := ih fun s h => hp s (.tail _ h)
    have := hp x (.head _)
    simp only [sizeS, List.map_cons, List.sum_cons, List.length_cons] at *
    omega
theorem c30 (h : List Ob) (x : AV) (l : List Spn) (hx : SlOf h x 2 (l.map spnC)) (hl : l.length < 1048576) :
    ACalls Tryz.prog 25 [x] h fun r h' => r = i64 (sizeS (normS l)) ∧ h' = h := by
  have hin := @normS_in l
  have hlen := normS_len l
  obtain ⟨n, hn⟩ : ∃ n, n = normS l := ⟨_, rfl⟩
  rw [← hn] at hin hlen
  refine acalls_wp Tryz.f25 [.tmp 2] 21 rfl rfl rfl rfl rfl rfl (by decide) (⟨_, _, ⟨rfl, rfl⟩, .refl⟩) fun B => ?_
  simp only [go_sem]
  refine call_by (c65 _ x l hx hl) ?_
  rintro r h4 ⟨L2, rfl, n1, n2⟩
  rw [← hn] at n2 ⊢
  have hr : SlOf (h ++ L2) r 2 (n.map spnC) := n2 h rfl
  simp only [go_sem, hr.rows, List.length_map]
  refine wp_loop_a (by decide) (fun m T h' => ∃ k : Nat, k ≤ n.length ∧ Pre (h ++ L2) h' ∧ T 2 = i64 (sizeS (n.take k)) ∧ T 6 = r ∧ T 7 = i64 n.length ∧ T 8 = i64 k ∧ m = n.length - k) n.length
    ⟨0, by omega, Pre.refl, by (simp only [go_sem] <;> rfl), by simp only [go_sem], by simp only [go_sem], by (simp only [go_sem] <;> rfl), rfl⟩ ?_
  rintro m T h' ⟨k, hk, hpre, t2, t6, t7, t8, rfl⟩
  simp only [go_sem, t7, t8]
  refine ways (fun e => ?_) (fun e => ?_)
  · have hlt := dlt e
    have hx' := hpre.sl hr
    have hee := hx'.at (i := k) (by simpa using hlt)
    have hrow : (n.map spnC)[k]? = some (spnC n[k]) := by rw [List.getElem?_map, List.getElem?_eq_getElem hlt]; rfl
    have hkl : (k : Int) < n.length := by omega
    have hs1 := sizeS_snoc (n.take k) n[k]
    rw [List.take_append_getElem hlt] at hs1
    have hb1 := sizeS_le (l := n.take k) fun s h => hin s (List.mem_of_mem_take h)
    have hb2 := hin _ (List.getElem_mem hlt)
    rw [List.length_take] at hb1
    obtain ⟨y, hy⟩ : ∃ y, y = n[k] := ⟨_, rfl⟩
    rw [← hy] at hrow hs1 hb2
    have hA : List.length (spnC y) = 2 := rfl
    simp only [go_sem, t2, t6, t8, hee, hx'.rows, hrow, hkl, List.length_map, Int.toNat_natCast, Int.natCast_nonneg]
    refine ⟨n.length - (k + 1), by omega, k + 1, by omega, hpre.app (noRes1 rfl), ?_, t7, t_succ (by omega) rfl, rfl⟩
    rw [hs1]
    show i64 (wr (sizeS (n.take k) + wr (y.to_ - y.from_))) = _
    rw [wr_fit (n := y.to_ - y.from_) (by unfold Fit; omega), wr_fit (by unfold Fit; omega)]
  · have hge := dnlt e
    have hk2 : k = n.length := by omega
    subst hk2
    rw [List.take_length] at t2
    obtain ⟨L3, rfl, hN3⟩ := hpre
    rw [List.append_assoc]
    simp only [go_sem, t2]
    (first | refine endA_pure0 ?_ | refine endA_pure ?_ (by rfl)) <;> (simp only [go_sem] <;> try rfl)
end Go.Proofs.YtpdghiplnlhnfaaGreat.Ax

namespace Go.Proofs.YtpdghiplnlhnfaaGreat.Ax
set_option linter.unusedSimpArgs false
set_option linter.unusedVariables false
open Go Go.Proofs
set_option maxRecDepth 100000
set_option linter.unusedSimpArgs false
set_option linter.unusedVariables false
attribute [go_sem] ty24 ty25 ty26 ty27 ty84 pe24
def s0 : Setup := ⟨1, [], (1, 1), [((1, 1), (1, 1))], [(1, 1)], [(1, 1)], 0, 900, 3600, 0, 0, 0, 0, 0, 0, 0, 0, [1], 0, 0, 0, []⟩
def l0 : List Ev := [⟨2, 0, 1000, 3, 0, 0, 0, 0, 0, 0, 0⟩, ⟨1, 0, 400, 1, 0, 0, 0, 0, 0, 0, 0⟩, ⟨3, 0, 2000, 2, 0, 0, 0, 0, 0, 0, 0⟩, ⟨4, 0, 2001, 5, 0, 0, 0, 0, 0, 0, 0⟩, ⟨5, 0, 9000, 1, 0, 0, 0, 0, 0, 0, 0⟩]
def p0 : List Seg := [⟨0, 1000, 0, 1, 0⟩, ⟨1000, 1800, 1, 2, 0⟩, ⟨9000, 12600, 0, 5, 0⟩]
def f0 : List Flg := [⟨4, 3⟩, ⟨5, 1⟩]
theorem str0 : streamP s0 l0 0 = (p0, f0) := by kernel_rfl
theorem str1 : streamP s0 l0 1 = ([], []) := by kernel_rfl
theorem only0 : onlyP p0 1 = [⟨1000, 1800⟩] := by
  have h : goodS ((p0.filter fun g => g.kind == 1).map spS) = [⟨1000, 1800⟩] := by rfl
  unfold onlyP
  rw [← merge_any (m := [⟨1000, 1800⟩]) (by rw [h]) (by simp)]
  rfl
theorem clock0 : clockP p0 = [⟨0, 1800⟩, ⟨9000, 12600⟩] := by
  have h : goodS (p0.map spS) = [⟨0, 1000⟩, ⟨1000, 1800⟩, ⟨9000, 12600⟩] := by rfl
  unfold clockP
  rw [← merge_any (m := [⟨0, 1000⟩, ⟨1000, 1800⟩, ⟨9000, 12600⟩]) (by rw [h]) (by simp [leS])]
  rfl
theorem size0 : sizeS (normS (clockP p0)) = 5400 := by
  rw [norm_size]
  · rw [clock0]; rfl
  · rw [clock0]; simp
  · rw [clock0]; simp
theorem fit0 : SFit s0 := ⟨by simp [Fit, s0], by simp [FitR, Fit, s0], by simp [FitR, Fit, s0], by simp [FitR, Fit, s0], by simp [FitR, Fit, s0], by simp [FitR, Fit, s0], by simp [s0], by simp [s0], by simp [s0], by simp [s0], by simp [s0], by simp [s0]⟩
def a0 (n : Nat) : SA := ⟨.v (.slice none 0 0), .tl (n + 1) 0, .tl (n + 2) 0, .tl (n + 3) 0, .tl (n + 4) 0, .v (.slice none 0 0)⟩
def H0 (n : Nat) : List Ob := [.box 24 (rrow (1, 1)), .row 84 4 (s0.elements.map erow) 0, .row 24 2 (s0.classes.map rrow) 0, .row 24 2 (s0.gears.map rrow) 0, .row 3 1 (s0.rates.map irow) 0, .box 30 (setupC s0 (a0 n)), .row 61 11 (l0.map evC) 0]
theorem get_h0 (h : List Ob) (k : Nat) : (h ++ H0 h.length)[h.length + k]? = (H0 h.length)[k]? := get_new rfl
theorem sl_row {h : List Ob} {id ty e st : Nat} {xs : List (List AV)} (k : h[id]? = some (.row ty e xs st)) : SlOf h (.tl id st) e xs := ⟨by rw [rowsOf_tl, k, rowTl_row, if_pos rfl], fun _ => by rw [eOf_tl, k, eTl_row]⟩
theorem sl_nil {h : List Ob} {e : Nat} : SlOf h (.v (.slice none 0 0)) e [] := ⟨rfl, fun h => absurd rfl h⟩
theorem sin0 (h : List Ob) : SIn (h ++ H0 h.length) s0 (a0 h.length) :=
  ⟨sl_nil, sl_row (get_h0 h 1), sl_row (get_h0 h 2), sl_row (get_h0 h 3), sl_row (get_h0 h 4), sl_nil⟩
theorem c28 : Pure Tryz.prog 12 [] (bl true) := fun h => by
  refine acalls_wp Tryz.f12 [.tmp 0] 99 rfl rfl rfl rfl rfl rfl (by decide) (⟨_, _, ⟨rfl, rfl⟩, .refl⟩) fun B => ?_
  simp only [go_sem]
  have k := sin0 h
  have hev : SlOf (h ++ H0 h.length) (.tl (h.length + 6) 0) 11 (l0.map evC) := sl_row (get_h0 h 6)
  have hb : (h ++ H0 h.length)[h.length + 5]? = some (.box 30 (setupC s0 (a0 h.length))) := get_h0 h 5
  refine call_by (c21 (h ++ H0 h.length) s0 (a0 h.length) k fit0 (.tl (h.length + 6) 0) l0 0 hev (by decide)) ?_
  rintro _ h4 ⟨L, y, z, rfl, n1, rfl, ny, nz⟩
  rw [str0] at ny nz
  generalize hh : h ++ H0 h.length = h1 at *
  have hb2 : ∀ M, (h1 ++ M)[h.length + 5]? = some (.box 30 (setupC s0 (a0 h.length))) := fun M => get_app_old hb
  have one := k.app L
  simp only [go_sem, hb2, one.w.one, one.e.one, one.c.one, one.g.one, one.r.one, one.t.one]
  refine call_by (c21 (h1 ++ L) s0 (a0 h.length) one fit0 (.tl (h.length + 6) 0) l0 1 (hev.app L) (by decide)) ?_
  rintro _ h4 ⟨L', y', z', rfl, n1', rfl, ny', nz'⟩
  rw [str1] at ny' nz'
  have hy : ∀ M, SlOf (h1 ++ (L ++ M)) y 5 (p0.map segC) := fun M => by
    rw [← List.append_assoc]; exact (ny h1 (by rw [← hh])).app M
  have hz : ∀ M, SlOf (h1 ++ (L ++ M)) z 2 (f0.map flgC) := fun M => by
    rw [← List.append_assoc]; exact (nz h1 (by rw [← hh])).app M
  have hy' : ∀ M, SlOf (h1 ++ (L ++ (L' ++ M))) y' 5 [] := fun M => by
    rw [← List.append_assoc, ← List.append_assoc]; exact (ny' (h1 ++ L) rfl).app M
  have hy1 : ∀ M, rowsOf (h1 ++ (L ++ M)) y = some (p0.map segC) := fun M => (hy M).rows
  have hy2 : ∀ M, eOf (h1 ++ (L ++ M)) y = some 5 := fun M => (hy M).ee (by decide)
  have hz1 : ∀ M, rowsOf (h1 ++ (L ++ M)) z = some (f0.map flgC) := fun M => (hz M).rows
  have hz2 : ∀ M, eOf (h1 ++ (L ++ M)) z = some 2 := fun M => (hz M).ee (by decide)
  have hy1' : rowsOf (h1 ++ (L ++ L')) y' = some [] := by have := (hy' []).rows; simpa using this
  rw [List.append_assoc]
  simp only [go_sem, hy1, hy2, hz1, hz2, p0, f0, List.map_cons, List.map_nil, List.length_cons, List.length_nil, bne_self_eq_false, beq_self_eq_true, bq_t, hy1', Bool.not_false, Bool.not_true]
  refine call_by (c32 _ y p0 1 (hy _) (by decide)) ?_
  rintro r h4 ⟨L3, rfl, n3, nr⟩
  rw [only0] at nr
  have hr : ∀ M, SlOf (h1 ++ (L ++ (L' ++ (L3 ++ M)))) r 2 ([(⟨1000, 1800⟩ : Spn)].map spnC) := fun M => by
    have := (nr (h1 ++ (L ++ L')) rfl).app M
    simpa only [List.append_assoc] using this
  simp only [go_sem]
  refine call_by (c35 _ r _ [⟨1000, 1800⟩] [⟨1000, 1800⟩] (hr _) (sl_row (ty := 88) (st := 0) (xs := [(⟨1000, 1800⟩ : Spn)].map spnC) (by
    have : ∀ o : Ob, (h1 ++ (L ++ (L' ++ (L3 ++ [o]))))[h1.length + (L.length + (L'.length + L3.length))]? = some o := fun o => by simp
    exact this _)) (by decide) (by decide)) ?_
  rintro _ h4 ⟨rfl, rfl⟩
  simp only [go_sem, decide_true, bq_t]
  refine call_by (c31 _ y p0 (hy _) (by decide)) ?_
  rintro r2 h4 ⟨L4, rfl, n4, nr2⟩
  simp only [go_sem]
  refine call_by (c30 _ r2 (clockP p0) (by simpa only [List.append_assoc, List.cons_append, List.nil_append] using nr2 _ rfl) (by rw [clock0]; decide)) ?_
  rintro _ h4 ⟨rfl, rfl⟩
  rw [size0]
  simp only [go_sem, beq_self_eq_true]
  rw [← hh, List.append_assoc]
  (first | refine endA_pure0 ?_ | refine endA_pure ?_ (by rfl)) <;> (simp only [go_sem] <;> try rfl)
end Go.Proofs.YtpdghiplnlhnfaaGreat.Ax

namespace Go.Proofs.YtpdghiplnlhnfaaGreat.Ax
set_option linter.unusedSimpArgs false
set_option linter.unusedVariables false
open Go Go.RowKit Go.ChangeShapes Go.WideShapes
section
variable {H : Type} {enc : TypeId × Value → H} {P : Program} {w : World} {base : Nat} {held : Bool}
/-- A type of whole numbers alone. -/
def flatN (P : Program) : Nat → TypeId → Bool
  | 0, _ => false
  | n + 1, t => match P.underlying t with
    | some (.int .i64) => true
    | some (.struct fs) => (List.range (P.cellsOf t)).all fun k => fs.toList.any fun f => flatN P n f.type && (decide (f.offset ≤ k) && decide (k < f.offset + P.cellsOf f.type))
    | _ => false
theorem trod_flat {spare : Nat → Bool} : ∀ (n : Nat) {t : TypeId} {fuel : Nat} {cs : List Value} {x : DataW H × List MemPlace}, flatN P n t = true → DataW.trod enc P w base spare held fuel t cs = some x → ∀ v ∈ cs, ∃ z, v = .int .i64 z ∧ (Lit.int .i64 z).wf = true
  | 0, _, _, _, _, h, _ => by cases h
  | n + 1, t, fuel, cs, x, h, hx => by
    unfold flatN at h
    split at h
    · rename_i hu
      obtain ⟨z, rfl, _, hz⟩ := DataW.trod_int hu hx
      intro v hv
      simp at hv
      exact ⟨z, hv, hz⟩
    · rename_i fs hu
      obtain ⟨xs, n', _, _, hl, hlen, hf⟩ := DataW.trod_struct hu hx
      intro v hv
      obtain ⟨k, hk, rfl⟩ := List.mem_iff_getElem.1 hv
      have hk2 := List.all_eq_true.1 h k (List.mem_range.2 (by omega))
      obtain ⟨f, hfm, hff⟩ := List.any_eq_true.1 hk2
      simp only [Bool.and_eq_true, decide_eq_true_eq] at hff
      obtain ⟨hf1, hf2, hf3⟩ := hff
      obtain ⟨j, hj, rfl⟩ := List.mem_iff_getElem.1 hfm
      have hjs : j < fs.size := by simpa using hj
      have := hf j _ (by rw [Array.getElem?_eq_getElem hjs])
      rw [List.getElem?_eq_getElem (by omega)] at this
      refine trod_flat n hf1 this _ ?_
      rw [List.mem_iff_getElem?]
      refine ⟨k - fs.toList[j].offset, ?_⟩
      have e1 : fs[j] = fs.toList[j] := by simp
      rw [e1, List.getElem?_take, if_pos (by omega), List.getElem?_drop, show fs.toList[j].offset + (k - fs.toList[j].offset) = k by omega, List.getElem?_eq_getElem hk]
    · cases h
abbrev gN : Gh := ⟨fun _ => 0, fun _ => undef⟩
abbrev c0 (w : World) : Ctx := ctx w gN []
theorem rd0 {ad : Addr} {u : Value} (h : w.cell? ad = some u) : (c0 w).rd ad u := ⟨fun ⟨i, o, hi, _⟩ => (by cases hi), h⟩
theorem acells_of {c : Ctx} {A : Addr} : ∀ (zs : List Int) (k : Nat), (∀ j z, zs[j]? = some z → c.rd (A.add (k + j)) (.int .i64 z)) → ACells c (some A) k (zs.map i64)
  | [], _, _ => trivial
  | z :: zs, k, h => by
    refine ⟨⟨A, _, rfl, by simpa using h 0 z rfl, rfl⟩, acells_of zs (k + 1) fun j z' hj => ?_⟩
    have := h (j + 1) z' (by simpa using hj)
    rwa [show k + (j + 1) = k + 1 + j by omega] at this
theorem arows_of {c : Ctx} {A : Addr} {e : Nat} : ∀ (rows : List (List Int)) (i : Nat), (∀ r ∈ rows, r.length = e) → (∀ j r, rows[j]? = some r → ∀ k z, r[k]? = some z → c.rd (A.add ((i + j) * e + k)) (.int .i64 z)) → ARows c (some A) e i (rows.map (·.map i64))
  | [], _, _, _ => trivial
  | r :: rows, i, h1, h2 => by
    refine ⟨⟨by simpa using h1 r (.head _), acells_of r (i * e) fun k z hk => by simpa using h2 0 r rfl k z hk⟩, arows_of rows (i + 1) (fun q hq => h1 q (.tail _ hq)) fun j q hq k z hk => ?_⟩
    have := h2 (j + 1) q (by simpa using hq) k z hk
    rwa [show i + (j + 1) = i + 1 + j by omega] at this
/-- A slice of such things. -/
def RowsIn (w : World) (e : Nat) (v : Value) (a : AV) (rows : List (List Int)) : Prop :=
  AR (c0 w) a v ∧ SlOf [] a e (rows.map (·.map i64)) ∧ ∀ r ∈ rows, r.length = e ∧ ∀ z ∈ r, (Lit.int .i64 z).wf = true
theorem slice_in {t e : TypeId} {n fuel : Nat} {v : Value} {x : DataW H × List MemPlace} (ht : P.underlying t = some (.slice e)) (hfl : flatN P n e = true) (h : DataW.trod enc P w base (fun _ => true) held fuel t [v] = some x) :
    ∃ a rows, RowsIn w (P.cellsOf e) v a rows := by
  rcases Go.Deep.open_slice ht h with ⟨hcs, _⟩ | ⟨a, len, cap, m, n', D, Pl, hcs, hb, hl, hm, hmm, rfl, hx⟩
  · injection hcs with hcs _
    subst hcs
    exact ⟨.v (.slice none 0 0), [], rfl, ⟨rfl, fun h => absurd rfl h⟩, fun _ h => by cases h⟩
  · injection hcs with hcs _
    subst hcs
    have each : ∀ i, i < len → ∃ r : List Int, r.length = P.cellsOf e ∧ (∀ z ∈ r, (Lit.int .i64 z).wf = true) ∧ ∀ k z, r[k]? = some z → w.cell? (a.add (i * P.cellsOf e + k)) = some (.int .i64 z) := by
      intro i hi
      obtain ⟨cs', h1, h2⟩ := hx i (by rw [hmm]; simp; omega)
      obtain ⟨_, hlen, hcell⟩ := World.cells?_some h1
      have hall := trod_flat n hfl h2
      have key : ∀ k, ∃ z : Int, k < cs'.length → cs'[k]? = some (.int .i64 z) ∧ (Lit.int .i64 z).wf = true := fun k => by
        by_cases hk : k < cs'.length
        · obtain ⟨z, hz1, hz2⟩ := hall cs'[k] (List.getElem_mem hk)
          exact ⟨z, fun _ => ⟨by rw [List.getElem?_eq_getElem hk, hz1], hz2⟩⟩
        · exact ⟨0, fun h => absurd h hk⟩
      obtain ⟨f, hf⟩ := Classical.axiomOfChoice key
      refine ⟨(List.range (P.cellsOf e)).map f, by simp, fun z hz => ?_, fun k z hk => ?_⟩
      · obtain ⟨k, hk, rfl⟩ := List.mem_map.1 hz
        exact (hf k (by have := List.mem_range.1 hk; omega)).2
      · have hkl : k < P.cellsOf e := by have := (List.getElem?_eq_some_iff.1 hk).1; simpa using this
        have hz : f k = z := by simpa [hkl] using hk
        rw [← Addr.add_add, hcell k hkl, (hf k (by omega)).1, hz]
    have : ∃ f : Nat → List Int, ∀ i, i < len → (f i).length = P.cellsOf e ∧ (∀ z ∈ f i, (Lit.int .i64 z).wf = true) ∧ ∀ k z, (f i)[k]? = some z → w.cell? (a.add (i * P.cellsOf e + k)) = some (.int .i64 z) := Go.Deep.choose_lt each
    obtain ⟨f, hf⟩ := this
    have hlen : ((List.range len).map f).length = len := by simp
    have hmem : ∀ r ∈ (List.range len).map f, ∃ i, i < len ∧ f i = r := fun r hr => by
      obtain ⟨i, hi, e⟩ := List.mem_map.1 hr
      exact ⟨i, List.mem_range.1 hi, e⟩
    refine ⟨.sl (P.cellsOf e) (((List.range len).map f).map (·.map i64)), (List.range len).map f, ⟨some a, cap, by simp, by simpa using hl, ?_⟩, ⟨rfl, fun _ => rfl⟩, fun r hr => ?_⟩
    · refine arows_of _ 0 (fun r hr => ?_) fun j r hj k z hk => ?_
      · obtain ⟨i, hi, rfl⟩ := hmem r hr
        exact (hf i hi).1
      · have hjl : j < len := by have := (List.getElem?_eq_some_iff.1 hj).1; simpa using this
        have hr : f j = r := by simpa [hjl] using hj
        rw [Nat.zero_add]
        exact rd0 ((hf j hjl).2.2 k z (by rw [hr]; exact hk))
    · obtain ⟨i, hi, rfl⟩ := hmem r hr
      exact ⟨(hf i hi).1, (hf i hi).2.1⟩
end
end Go.Proofs.YtpdghiplnlhnfaaGreat.Ax

namespace Go.Proofs.YtpdghiplnlhnfaaGreat.Ax
set_option linter.unusedSimpArgs false
set_option linter.unusedVariables false
open Go Go.RowKit Go.ChangeShapes Go.WideShapes
theorem wf_fit {z : Int} (h : (Lit.int .i64 z).wf = true) : Fit z := by
  simp [Lit.wf, IntKind.min, IntKind.max, IntKind.bits, IntKind.signed] at h
  unfold Fit
  omega
def nthI (r : List Int) (k : Nat) : Int := r.getD k 0
def evOfR (r : List Int) : Ev := ⟨nthI r 0, nthI r 1, nthI r 2, nthI r 3, nthI r 4, nthI r 5, nthI r 6, nthI r 7, nthI r 8, nthI r 9, nthI r 10⟩
theorem ev_row : ∀ {r : List Int}, r.length = 11 → r.map i64 = evC (evOfR r)
  | [_, _, _, _, _, _, _, _, _, _, _], _ => rfl
def ratOfR (r : List Int) : Rat2 := (nthI r 0, nthI r 1)
theorem rat_row : ∀ {r : List Int}, r.length = 2 → r.map i64 = rrow (ratOfR r)
  | [_, _], _ => rfl
def wayOfR (r : List Int) : Way := (nthI r 0, nthI r 1, nthI r 2)
theorem way_row : ∀ {r : List Int}, r.length = 3 → r.map i64 = wrow (wayOfR r)
  | [_, _, _], _ => rfl
def eltOfR (r : List Int) : Elt := ((nthI r 0, nthI r 1), (nthI r 2, nthI r 3))
theorem elt_row : ∀ {r : List Int}, r.length = 4 → r.map i64 = erow (eltOfR r)
  | [_, _, _, _], _ => rfl
theorem int_row : ∀ {r : List Int}, r.length = 1 → r.map i64 = irow (nthI r 0)
  | [_], _ => rfl
theorem nthI_fit {r : List Int} (h : ∀ z ∈ r, (Lit.int .i64 z).wf = true) (k : Nat) : Fit (nthI r k) := by
  unfold nthI
  rw [List.getD_eq_getElem?_getD]
  by_cases hk : k < r.length
  · rw [List.getElem?_eq_getElem hk]; exact wf_fit (h _ (List.getElem_mem hk))
  · rw [List.getElem?_eq_none (by omega)]; simp [Fit]
theorem rows_as {α : Type} {f : List Int → α} {g : α → List AV} {e : Nat} (hfg : ∀ {r : List Int}, r.length = e → r.map i64 = g (f r)) {rows : List (List Int)} (h : ∀ r ∈ rows, r.length = e) : rows.map (·.map i64) = (rows.map f).map g := by
  rw [List.map_map]
  exact List.map_congr_left fun r hr => hfg (h r hr)
structure SFit0 (s : Setup) : Prop where
  places : Fit s.places
  pace : FitR s.pace
  elements : ∀ e ∈ s.elements, FitR e.1 ∧ FitR e.2
  classes : ∀ p ∈ s.classes, FitR p
  gears : ∀ p ∈ s.gears, FitR p
  tiers : ∀ t ∈ s.tiers, FitR t
theorem SFit0.few {s : Setup} (f : SFit0 s) (h : fewS s = true) : SFit s := by
  simp only [fewS, decide_eq_true_eq] at h
  obtain ⟨h1, h2, h3, h4, h5, h6⟩ := h
  exact ⟨f.places, f.pace, f.elements, f.classes, f.gears, f.tiers, by omega, by omega, by omega, by omega, by omega, by omega⟩
def InEvs (w : World) (v : Value) : Prop := ∃ (x : AV) (l : List Ev), AR (c0 w) x v ∧ SlOf [] x 11 (l.map evC)
def InSet (w : World) (v : Value) : Prop := ∃ (s : Setup) (a : SA), AR (c0 w) (setupV s a) v ∧ SIn [] s a ∧ SFit0 s
section
variable {H : Type} {enc : TypeId × Value → H} {w : World} {base : Nat} {held : Bool}
theorem evs_in {fuel : Nat} {v : Value} {x : DataW H × List MemPlace} (h : DataW.trod enc Tryz.prog w base (fun _ => true) held fuel 31 [v] = some x) : InEvs w v := by
  obtain ⟨a, rows, h1, h2, h3⟩ := slice_in Tryz.underlying31 (n := 2) (by kernel_rfl) h
  have e : Tryz.prog.cellsOf 61 = 11 := by kernel_rfl
  rw [e] at h2 h3
  rw [rows_as (f := evOfR) (g := evC) ev_row fun r hr => (h3 r hr).1] at h2
  exact ⟨a, _, h1, h2⟩
theorem sl_in {t e : TypeId} {n fuel : Nat} {v : Value} {y : Option (DataW H × List MemPlace)} (ht : Tryz.prog.underlying t = some (.slice e)) (hfl : flatN Tryz.prog n e = true) (h : DataW.trod enc Tryz.prog w base (fun _ => true) held fuel t [v] = y) (hy : y.isSome = true) : ∃ a rows, RowsIn w (Tryz.prog.cellsOf e) v a rows := by
  cases y with
  | none => cases hy
  | some y => exact slice_in ht hfl h
theorem int_in {fuel : Nat} {v : Value} {y : Option (DataW H × List MemPlace)} (h : DataW.trod enc Tryz.prog w base (fun _ => true) held fuel 3 [v] = y) (hy : y.isSome = true) : ∃ z, v = .int .i64 z ∧ Fit z := by
  cases y with
  | none => cases hy
  | some y =>
    obtain ⟨z, hz, _, hw⟩ := DataW.trod_int Tryz.underlying3 h
    injection hz with hz _
    exact ⟨z, hz, wf_fit hw⟩
theorem rat_in {fuel : Nat} {v0 v1 : Value} {y : Option (DataW H × List MemPlace)} (h : DataW.trod enc Tryz.prog w base (fun _ => true) held fuel 24 [v0, v1] = y) (hy : y.isSome = true) : ∃ z0 z1, v0 = .int .i64 z0 ∧ v1 = .int .i64 z1 ∧ Fit z0 ∧ Fit z1 := by
  cases y with
  | none => cases hy
  | some y =>
    have := trod_flat (n := 2) (by kernel_rfl) h
    obtain ⟨z0, h0, w0⟩ := this v0 (by simp)
    obtain ⟨z1, h1, w1⟩ := this v1 (by simp)
    exact ⟨z0, z1, h0, h1, wf_fit w0, wf_fit w1⟩
set_option maxHeartbeats 1000000 in
set_option maxRecDepth 100000 in
theorem setup_in {r : Reach} {b0 : Nat} {v : Value} {d : DataW H} {p : List MemPlace} (hv : Value.okWide Tryz.prog w r b0 30 v) (h : DataW.Trod enc Tryz.prog w base (fun _ => true) held 30 v d p) : InSet w v := by
  simp only [Value.okWide, Tryz.underlying30] at hv
  obtain ⟨cs, rfl, _, _⟩ := hv
  obtain ⟨fuel, hf0⟩ := h
  have hf0 : DataW.trod enc Tryz.prog w base (fun _ => true) held fuel 30 cs.toList = some (d, p) := by simpa [Value.cells] using hf0
  obtain ⟨xs, n, _, _, hl, hlen, hf⟩ := DataW.trod_struct Tryz.underlying30 hf0
  have e30 : Tryz.prog.cellsOf 30 = 23 := by kernel_rfl
  have k3 : Tryz.prog.cellsOf 3 = 1 := by kernel_rfl
  have k22 : Tryz.prog.cellsOf 22 = 1 := by kernel_rfl
  have k24 : Tryz.prog.cellsOf 24 = 2 := by kernel_rfl
  have k25 : Tryz.prog.cellsOf 25 = 1 := by kernel_rfl
  have k26 : Tryz.prog.cellsOf 26 = 1 := by kernel_rfl
  have k27 : Tryz.prog.cellsOf 27 = 1 := by kernel_rfl
  have k28 : Tryz.prog.cellsOf 28 = 1 := by kernel_rfl
  have k113 : Tryz.prog.cellsOf 126 = 3 := by kernel_rfl
  have k96 : Tryz.prog.cellsOf 84 = 4 := by kernel_rfl
  have k59 : Tryz.prog.cellsOf 81 = 2 := by kernel_rfl
  rw [e30] at hl
  have hx : ∀ j, j < 22 → (xs[j]?).isSome = true := fun j hj => by
    have : j < xs.length := by rw [hlen]; exact hj
    simp [this]
  generalize hcs : cs.toList = L at hl hf

  match L, hl with
  | [v0, v1, v2, v3, v4, v5, v6, v7, v8, v9, v10, v11, v12, v13, v14, v15, v16, v17, v18, v19, v20, v21, v22], _ =>
    have f0 := hf 0 ⟨"Places", 3, 0, false, "", "", 0⟩ rfl
    have f1 := hf 1 ⟨"Ways", 22, 1, false, "", "", 8⟩ rfl
    have f2 := hf 2 ⟨"Pace", 24, 2, false, "", "", 32⟩ rfl
    have f3 := hf 3 ⟨"Elements", 25, 4, false, "", "", 48⟩ rfl
    have f4 := hf 4 ⟨"Classes", 26, 5, false, "", "", 72⟩ rfl
    have f5 := hf 5 ⟨"Gears", 26, 6, false, "", "", 96⟩ rfl
    have f6 := hf 6 ⟨"Allow", 3, 7, false, "", "", 120⟩ rfl
    have f7 := hf 7 ⟨"Unit", 3, 8, false, "", "", 128⟩ rfl
    have f8 := hf 8 ⟨"Cap", 3, 9, false, "", "", 136⟩ rfl
    have f9 := hf 9 ⟨"PaidBreak", 3, 10, false, "", "", 144⟩ rfl
    have f10 := hf 10 ⟨"AutoAfter", 3, 11, false, "", "", 152⟩ rfl
    have f11 := hf 11 ⟨"AutoBreak", 3, 12, false, "", "", 160⟩ rfl
    have f12 := hf 12 ⟨"DayReg", 3, 13, false, "", "", 168⟩ rfl
    have f13 := hf 13 ⟨"DayOver", 3, 14, false, "", "", 176⟩ rfl
    have f14 := hf 14 ⟨"WeekReg", 3, 15, false, "", "", 184⟩ rfl
    have f15 := hf 15 ⟨"NightFrom", 3, 16, false, "", "", 192⟩ rfl
    have f16 := hf 16 ⟨"NightTo", 3, 17, false, "", "", 200⟩ rfl
    have f17 := hf 17 ⟨"Rates", 27, 18, false, "", "", 208⟩ rfl
    have f18 := hf 18 ⟨"Diff", 3, 19, false, "", "", 232⟩ rfl
    have f19 := hf 19 ⟨"Least", 3, 20, false, "", "", 240⟩ rfl
    have f20 := hf 20 ⟨"Fault", 3, 21, false, "", "", 248⟩ rfl
    have f21 := hf 21 ⟨"Tiers", 28, 22, false, "", "", 256⟩ rfl
    simp only [List.drop_succ_cons, List.drop_zero, List.take_succ_cons, List.take_zero, List.take_nil, k3, k22, k24, k25, k26, k27, k28] at f0 f1 f2 f3 f4 f5 f6 f7 f8 f9 f10 f11 f12 f13 f14 f15 f16 f17 f18 f19 f20 f21
    obtain ⟨z0, rfl, g0⟩ := int_in f0 (hx 0 (by omega))
    obtain ⟨a1, r1, m1, n1, o1⟩ := sl_in Tryz.underlying22 (n := 3) (by kernel_rfl) f1 (hx 1 (by omega))
    rw [k113] at n1 o1
    obtain ⟨z2, z3, rfl, rfl, g2, g3⟩ := rat_in f2 (hx 2 (by omega))
    obtain ⟨a4, r4, m4, n4, o4⟩ := sl_in Tryz.underlying25 (n := 3) (by kernel_rfl) f3 (hx 3 (by omega))
    rw [k96] at n4 o4
    obtain ⟨a5, r5, m5, n5, o5⟩ := sl_in Tryz.underlying26 (n := 3) (by kernel_rfl) f4 (hx 4 (by omega))
    rw [k24] at n5 o5
    obtain ⟨a6, r6, m6, n6, o6⟩ := sl_in Tryz.underlying26 (n := 3) (by kernel_rfl) f5 (hx 5 (by omega))
    rw [k24] at n6 o6
    obtain ⟨z7, rfl, g7⟩ := int_in f6 (hx 6 (by omega))
    obtain ⟨z8, rfl, g8⟩ := int_in f7 (hx 7 (by omega))
    obtain ⟨z9, rfl, g9⟩ := int_in f8 (hx 8 (by omega))
    obtain ⟨z10, rfl, g10⟩ := int_in f9 (hx 9 (by omega))
    obtain ⟨z11, rfl, g11⟩ := int_in f10 (hx 10 (by omega))
    obtain ⟨z12, rfl, g12⟩ := int_in f11 (hx 11 (by omega))
    obtain ⟨z13, rfl, g13⟩ := int_in f12 (hx 12 (by omega))
    obtain ⟨z14, rfl, g14⟩ := int_in f13 (hx 13 (by omega))
    obtain ⟨z15, rfl, g15⟩ := int_in f14 (hx 14 (by omega))
    obtain ⟨z16, rfl, g16⟩ := int_in f15 (hx 15 (by omega))
    obtain ⟨z17, rfl, g17⟩ := int_in f16 (hx 16 (by omega))
    obtain ⟨a18, r18, m18, n18, o18⟩ := sl_in Tryz.underlying27 (n := 3) (by kernel_rfl) f17 (hx 17 (by omega))
    rw [k3] at n18 o18
    obtain ⟨z19, rfl, g19⟩ := int_in f18 (hx 18 (by omega))
    obtain ⟨z20, rfl, g20⟩ := int_in f19 (hx 19 (by omega))
    obtain ⟨z21, rfl, g21⟩ := int_in f20 (hx 20 (by omega))
    obtain ⟨a22, r22, m22, n22, o22⟩ := sl_in Tryz.underlying28 (n := 3) (by kernel_rfl) f21 (hx 21 (by omega))
    rw [k59] at n22 o22
    rw [rows_as (f := wayOfR) (g := wrow) way_row fun r hr => (o1 r hr).1] at n1
    rw [rows_as (f := eltOfR) (g := erow) elt_row fun r hr => (o4 r hr).1] at n4
    rw [rows_as (f := ratOfR) (g := rrow) rat_row fun r hr => (o5 r hr).1] at n5
    rw [rows_as (f := ratOfR) (g := rrow) rat_row fun r hr => (o6 r hr).1] at n6
    rw [rows_as (f := (fun r => nthI r 0)) (g := irow) int_row fun r hr => (o18 r hr).1] at n18
    rw [rows_as (f := ratOfR) (g := rrow) rat_row fun r hr => (o22 r hr).1] at n22
    refine ⟨⟨z0, r1.map wayOfR, (z2, z3), r4.map eltOfR, r5.map ratOfR, r6.map ratOfR, z7, z8, z9, z10, z11, z12, z13, z14, z15, z16, z17, r18.map (fun r => nthI r 0), z19, z20, z21, r22.map ratOfR⟩, ⟨a1, a4, a5, a6, a18, a22⟩, ⟨cs, rfl, ?_⟩, ⟨n1, n4, n5, n6, n18, n22⟩, ⟨g0, ⟨g2, g3⟩, ?_, ?_, ?_, ?_⟩⟩
    · rw [hcs]
      exact ⟨_, _, rfl, rfl, ⟨_, _, rfl, m1, ⟨_, _, rfl, rfl, ⟨_, _, rfl, rfl, ⟨_, _, rfl, m4, ⟨_, _, rfl, m5, ⟨_, _, rfl, m6, ⟨_, _, rfl, rfl, ⟨_, _, rfl, rfl, ⟨_, _, rfl, rfl, ⟨_, _, rfl, rfl, ⟨_, _, rfl, rfl, ⟨_, _, rfl, rfl, ⟨_, _, rfl, rfl, ⟨_, _, rfl, rfl, ⟨_, _, rfl, rfl, ⟨_, _, rfl, rfl, ⟨_, _, rfl, rfl, ⟨_, _, rfl, m18, ⟨_, _, rfl, rfl, ⟨_, _, rfl, rfl, ⟨_, _, rfl, rfl, ⟨_, _, rfl, m22, rfl⟩⟩⟩⟩⟩⟩⟩⟩⟩⟩⟩⟩⟩⟩⟩⟩⟩⟩⟩⟩⟩⟩⟩
    · intro e he
      obtain ⟨r, hr, rfl⟩ := List.mem_map.1 he
      have := nthI_fit (o4 r hr).2
      exact ⟨⟨this 0, this 1⟩, this 2, this 3⟩
    · intro e he
      obtain ⟨r, hr, rfl⟩ := List.mem_map.1 he
      have := nthI_fit (o5 r hr).2
      exact ⟨this 0, this 1⟩
    · intro e he
      obtain ⟨r, hr, rfl⟩ := List.mem_map.1 he
      have := nthI_fit (o6 r hr).2
      exact ⟨this 0, this 1⟩
    · intro e he
      obtain ⟨r, hr, rfl⟩ := List.mem_map.1 he
      have := nthI_fit (o22 r hr).2
      exact ⟨this 0, this 1⟩
end
/-- A law, said of what comes in. -/
theorem run_law {f : FuncId} {args : List AV} {vs : List Value} {w : World} (c : ACalls Tryz.prog f args [] fun r h' => r = bl true ∧ h' = []) (ha : ARs (c0 w) args vs) : Calls Tryz.prog f vs.toArray w fun e w' => e = .returned (.bool true) ∧ Below w.heap.size w w' := by
  have hf : fill (fun _ => .res) ([] : List Ob) = [] := fill_none
  have hok : HOk w.heap.size w gN [] := ⟨fun i o hi => (by cases hi), fun i j o p b _ hi => (by cases hi)⟩
  refine (c.2.2 (fun _ => .res) (fun _ _ => rfl) w.heap.size w gN vs (by rw [hf]; exact hok) (Nat.le_refl _) (by rw [hf]; exact ha)).mono ?_
  rintro e w' ⟨v, r, h', g', rfl, ⟨rfl, rfl⟩, _, hg, hr⟩
  have hr : v = .bool true := hr
  subst hr
  exact ⟨rfl, hg.below⟩
end Go.Proofs.YtpdghiplnlhnfaaGreat.Ax
