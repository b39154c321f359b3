/-
  Joined: Lay, Spn, Spn2, Norm, Clip. Nothing is proved here of a statement.
-/
import Derived.Test.YtpdghiplnlhnfaaMX
import Derived.Shelf.SlSortCmp.WholeK
import Derived.Shelf.SlSortCmp.NoneTotal
import Derived.Shelf.SlicesG.Cmp
import Derived.Test.YtpdghiplnlhnfaaMN
import Derived.Test.YtpdghiplnlhnfaaMO
namespace Go.Proofs.Ytpdghiplnlhnfaa.Ax
set_option linter.unusedSimpArgs false
set_option linter.unusedVariables false
open Go Go.Proofs Go.Shelf
def sortSpan_ren : Go.Shelf.Ren := ⟨fun | 6 => 93 | 15 => 112 | 14 => 111 | 28 => 127 | 29 => 128 | 20 => 119 | 21 => 120 | 22 => 121 | 23 => 122 | 24 => 123 | 25 => 124 | 26 => 125 | 27 => 126 | 46 => 132 | 47 => 133 | 48 => 134 | 49 => 135 | 50 => 136 | 57 => 138 | n => n, fun | 22 => 62 | 24 => 98 | 25 => 132 | 3 => 3 | 39 => 150 | 0 => 0 | 53 => 166 | 55 => 168 | 4 => 4 | 46 => 159 | 45 => 158 | 50 => 163 | 5 => 5 | 9 => 9 | 66 => 173 | 70 => 109 | 76 => 178 | 77 => 122 | n => n, fun | n => n⟩
theorem sortSpan : Go.Proofs.SlLaysF0.n6 Try.prog sortSpan_ren := {
  mixed := by kernel_rfl
  f6 := ⟨Try.f93.name, by decide, Try.func93.trans (congrArg some (by kernel_rfl))⟩
  f14 := ⟨Try.f111.name, by decide, Try.func111.trans (congrArg some (by kernel_rfl))⟩
  f15 := Try.func112.trans (congrArg some (by kernel_rfl))
  f20 := ⟨Try.f119.name, by decide, Try.func119.trans (congrArg some (by kernel_rfl))⟩
  f21 := ⟨Try.f120.name, by decide, Try.func120.trans (congrArg some (by kernel_rfl))⟩
  f22 := ⟨Try.f121.name, by decide, Try.func121.trans (congrArg some (by kernel_rfl))⟩
  f23 := ⟨Try.f122.name, by decide, Try.func122.trans (congrArg some (by kernel_rfl))⟩
  f24 := ⟨Try.f123.name, by decide, Try.func123.trans (congrArg some (by kernel_rfl))⟩
  f25 := ⟨Try.f124.name, by decide, Try.func124.trans (congrArg some (by kernel_rfl))⟩
  f26 := ⟨Try.f125.name, by decide, Try.func125.trans (congrArg some (by kernel_rfl))⟩
  f27 := ⟨Try.f126.name, by decide, Try.func126.trans (congrArg some (by kernel_rfl))⟩
  f28 := Try.func127.trans (congrArg some (by kernel_rfl))
  f29 := Try.func128.trans (congrArg some (by kernel_rfl))
  f46 := ⟨Try.f132.name, by decide, Try.func132.trans (congrArg some (by kernel_rfl))⟩
  f47 := Try.func133.trans (congrArg some (by kernel_rfl))
  f48 := Try.func134.trans (congrArg some (by kernel_rfl))
  f49 := ⟨Try.f135.name, by decide, Try.func135.trans (congrArg some (by kernel_rfl))⟩
  f50 := ⟨Try.f136.name, by decide, Try.func136.trans (congrArg some (by kernel_rfl))⟩
  f57 := ⟨Try.f138.name, by decide, Try.func138.trans (congrArg some (by kernel_rfl))⟩
  t0 := Try.underlying0
  a0 := Try.isAgg0
  z0 := Try.sizeOf0
  v0 := Try.zeroValue0
  t3 := Try.underlying3
  a3 := Try.isAgg3
  z3 := Try.sizeOf3
  v3 := Try.zeroValue3
  t4 := Try.underlying4
  a4 := Try.isAgg4
  z4 := Try.sizeOf4
  v4 := Try.zeroValue4
  t5 := Try.underlying5
  a5 := Try.isAgg5
  z5 := Try.sizeOf5
  v5 := Try.zeroValue5
  t9 := Try.underlying9
  a9 := Try.isAgg9
  z9 := Try.sizeOf9
  v9 := Try.zeroValue9
  t22 := Try.underlying62
  a22 := Try.isAgg62
  z22 := Try.sizeOf62
  v22 := Try.zeroValue62
  t25 := Try.underlying132
  a25 := Try.isAgg132
  z25 := Try.sizeOf132
  v25 := Try.zeroValue132
  t39 := Try.underlying150
  a39 := Try.isAgg150
  z39 := Try.sizeOf150
  v39 := Try.zeroValue150
  t45 := Try.underlying158
  a45 := Try.isAgg158
  z45 := Try.sizeOf158
  v45 := Try.zeroValue158
  t46 := Try.underlying159
  a46 := Try.isAgg159
  z46 := Try.sizeOf159
  v46 := Try.zeroValue159
  t50 := Try.underlying163
  a50 := Try.isAgg163
  z50 := Try.sizeOf163
  v50 := Try.zeroValue163
  t53 := Try.underlying166
  a53 := Try.isAgg166
  z53 := Try.sizeOf166
  v53 := Try.zeroValue166
  t55 := Try.underlying168
  a55 := Try.isAgg168
  z55 := Try.sizeOf168
  v55 := Try.zeroValue168
  t66 := Try.underlying173
  a66 := Try.isAgg173
  z66 := Try.sizeOf173
  v66 := Try.zeroValue173
  t70 := Try.underlying109
  a70 := Try.isAgg109
  z70 := Try.sizeOf109
  v70 := Try.zeroValue109
  t76 := Try.underlying178
  a76 := Try.isAgg178
  z76 := Try.sizeOf178
  v76 := Try.zeroValue178
  t77 := Try.underlying122
  a77 := Try.isAgg122
  z77 := Try.sizeOf122
  v77 := Try.zeroValue122 }
def cmpInt_ren : Go.Shelf.Ren := ⟨fun | 5 => 95 | 7 => 113 | n => n, fun | 22 => 3 | 3 => 3 | 4 => 4 | n => n, fun | n => n⟩
theorem cmpInt : Go.Proofs.SlLaysC2.n5 Try.prog cmpInt_ren := {
  mixed := by kernel_rfl
  f5 := ⟨Try.f95.name, by decide, Try.func95.trans (congrArg some (by kernel_rfl))⟩
  f7 := ⟨Try.f113.name, by decide, Try.func113.trans (congrArg some (by kernel_rfl))⟩
  t3 := Try.underlying3
  a3 := Try.isAgg3
  z3 := Try.sizeOf3
  v3 := Try.zeroValue3
  t4 := Try.underlying4
  a4 := Try.isAgg4
  z4 := Try.sizeOf4
  v4 := Try.zeroValue4
  t22 := Try.underlying3
  a22 := Try.isAgg3
  z22 := Try.sizeOf3
  v22 := Try.zeroValue3 }
end Go.Proofs.Ytpdghiplnlhnfaa.Ax

namespace Go.Proofs.Ytpdghiplnlhnfaa.Ax
set_option linter.unusedSimpArgs false
set_option linter.unusedVariables false
open Go Go.Proofs Go.Shelf Go.RowKit Go.Lib Go.Sort
instance : Inhabited Spn := ⟨⟨0, 0⟩⟩
def encSpn (x : Spn) : List Value := [.int .i64 x.from_, .int .i64 x.to_]
set_option maxHeartbeats 1000000 in
theorem closure94 (x y : Spn) (W : World) : Calls Try.prog 94 #[.agg #[.int .i64 x.from_, .int .i64 x.to_], .agg #[.int .i64 y.from_, .int .i64 y.to_]] W fun e w' => e = .returned (.int .i64 (Lib.compareInt x.from_ y.from_)) ∧ ∃ q os', w' = grow (W.drewN q) os' := by
  have hcon := fun W' => AnyG.cmp_Compare_int cmpInt x.from_ y.from_ W'
  change ∀ W', Calls Try.prog 95 _ _ _ at hcon
  generalize Lib.compareInt x.from_ y.from_ = r at hcon ⊢
  go_enter Try.func94, Try.ntmps94
  go_wp2_with (go_at_call 95; refine (hcon _).mono ?_; rintro e w' ⟨rfl, rfl⟩)
  go_ret
  exact ⟨rfl, 0, _, by rw [alloc_eq_grow, alloc_eq_grow, grow_grow]; rfl⟩
theorem cmpLays94 (blk off size : Nat) (w : World) : CmpLays Try.prog 94 #[] encSpn 2 (fun x y => Lib.compareInt x.from_ y.from_) blk off size w :=
  fun _ _ _ _ x y => closure94 x y _
theorem ltSpn (x y : Spn) : ltOf (fun x y : Spn => Lib.compareInt x.from_ y.from_) x y = decide (x.from_ < y.from_) := by
  unfold ltOf Lib.compareInt
  by_cases h1 : x.from_ < y.from_
  · simp [h1]
  · by_cases h2 : y.from_ < x.from_ <;> simp [h1, h2]
theorem swoSpn : SWO (ltOf fun x y : Spn => Lib.compareInt x.from_ y.from_) :=
  { irrefl := fun x => by rw [ltSpn]; simp
    trans := fun x y z h1 h2 => by rw [ltSpn] at *; simp at *; omega
    ntrans := fun x y z h1 h2 => by rw [ltSpn] at *; simp at *; omega }
theorem calls93 (blk off cap : Nat) (d : Array Spn) (w : World) (hH : HoldsK encSpn 2 w blk off d) (hblk : blk < w.heap.size) (hsz : d.size < 4611686018427387904) :
    Calls Try.prog 93 #[.slice (some ⟨blk, off, none⟩) d.size cap, .func (.func 94) #[] #[]] w fun e w' => e = .returned (.tuple #[]) ∧ ∃ d' n os, PermIn 0 d.size d d' ∧ SortedIn (ltOf fun x y : Spn => Lib.compareInt x.from_ y.from_) 0 d.size d' ∧ w' = sortWorldK encSpn 2 w blk off n d' os := by
  have eg : ∀ args w, (callFunc 94 args).run Try.prog w = .ok (.enter 94 args) w := enters_of Try.func94 (by kernel_rfl) rfl
  have hcon := AnyQ.slices_SortFunc sortSpan 2 Try.isAgg98 Try.sizeOf98 encSpn (fun _ => rfl) (fun x v hv => by simp [encSpn] at hv; rcases hv with rfl | rfl <;> rfl) (fun x y => Lib.compareInt x.from_ y.from_) swoSpn 94 #[] blk off cap d w eg (cmpLays94 blk off d.size w) hH hblk hsz
  exact hcon
theorem calls93z (A : Option Addr) (cap : Nat) (fv : Value) (w : World) : Calls Try.prog 93 #[.slice A 0 cap, fv] w fun e w' => e = .returned (.tuple #[]) ∧ w' = w := by
  have hcon := AnyF.slices_SortFunc_none sortSpan A cap fv w
  exact hcon
end Go.Proofs.Ytpdghiplnlhnfaa.Ax

namespace Go.Proofs.Ytpdghiplnlhnfaa.Ax
set_option linter.unusedSimpArgs false
set_option linter.unusedVariables false
open Go Go.Proofs Go.Shelf Go.RowKit Go.Lib Go.Sort
def flatS (l : List Spn) : List Value := (l.map encSpn).flatten
theorem flatS_len : ∀ l : List Spn, (flatS l).length = l.length * 2
  | [] => rfl
  | x :: l => by
    have := flatS_len l
    simp only [flatS, List.map_cons, List.flatten_cons, List.length_append, encSpn, List.length_cons, List.length_nil] at this ⊢
    omega
theorem flatS_at : ∀ (l : List Spn) (t : Nat), t < l.length * 2 → (flatS l)[t]? = some ((encSpn l.toArray[t / 2]!)[t % 2]!)
  | [], t, h => by simp at h
  | x :: l, 0, _ => by simp [flatS, encSpn]
  | x :: l, 1, _ => by simp [flatS, encSpn]
  | x :: l, t + 2, h => by
    have := flatS_at l t (by simp at h; omega)
    have e1 : (t + 2) / 2 = t / 2 + 1 := by omega
    have e2 : (t + 2) % 2 = t % 2 := by omega
    have e3 : (flatS (x :: l))[t + 2]? = (flatS l)[t]? := by simp [flatS, encSpn]
    rw [e3, this, e1, e2]
    simp
theorem flatK_list (l : List Spn) : (flatK encSpn 2 l.toArray).toList = flatS l := by
  apply List.ext_getElem?
  intro t
  by_cases ht : t < l.length * 2
  · rw [flatS_at l t ht]
    simp [flatK, ht]
  · rw [List.getElem?_eq_none (by simp; omega), List.getElem?_eq_none (by rw [flatS_len]; omega)]
theorem flat_spn : ∀ l : List Spn, (l.map spnC).flatten = (flatS l).map .v
  | [] => rfl
  | x :: l => by
    have := flat_spn l
    simp only [flatS, List.map_cons, List.flatten_cons, List.map_append] at this ⊢
    rw [this]
    rfl
theorem ars_v_eq {c : Ctx} : ∀ {vs us : List Value}, ARs c (vs.map .v) us → us = vs
  | [], _, h => h
  | v :: vs, us, ⟨u, r, h1, h2, h3⟩ => by
    have h2 : u = v := h2
    rw [h1, h2, ars_v_eq h3]
theorem put_heap (w : World) (blk n : Nat) (F : Array Value) (os : Array Obj) {cur : Array Value} {e : TypeId} {fz : Nat × Nat} (hb : w.heap[blk]? = some (.cells cur e fz)) :
    (grow (putRow id (Sort.ahead w n) blk 0 F) os).heap[blk]? = some (.cells (putCells id 0 F cur) e fz) := by
  have hlt := (Array.getElem?_eq_some_iff.1 hb).1
  simp only [grow, putRow, mapBlock, Sort.ahead]
  rw [Array.getElem?_append_left (by simpa using hlt)]
  simp [Array.getElem?_modify, hb, onCells]
theorem put_grown (w : World) (blk n : Nat) (F : Array Value) (os : Array Obj) : w.grownBy (grow (putRow id (Sort.ahead w n) blk 0 F) os) (some blk) := by
  refine ⟨rfl, rfl, rfl, by simp [grow, putRow, mapBlock, Sort.ahead], fun k hk hne => ?_⟩
  simp only [grow, putRow, mapBlock, Sort.ahead]
  rw [Array.getElem?_append_left (by simpa using hk), Array.getElem?_modify, if_neg (fun e => hne (by rw [e]))]
theorem put_take (F cur : Array Value) (h : F.size ≤ cur.size) : (putCells id 0 F cur).toList.take F.size = F.toList := by
  apply List.ext_getElem?
  intro t
  by_cases ht : t < F.size
  · have hc : t < cur.size := by omega
    simp [putCells, List.getElem?_take, ht, hc]
  · rw [List.getElem?_eq_none (by simp; omega), List.getElem?_eq_none (by simp; omega)]

theorem c93 (h : List Ob) (id st : Nat) (l : List Spn) (ho : h[id]? = some (.row 98 2 (l.map spnC) st)) (hl : l.length < 1099511627776) :
    ACalls Try.prog 93 [.tl id st, .fn (.func 94) [] []] h fun r h' => r = .tup [] ∧ ∃ l' : List Spn, l'.Perm l ∧ l'.Pairwise leS ∧ h' = h.set id (.row 98 2 (l'.map spnC) st) := by
  refine ⟨by kernel_rfl, ⟨_, _, ⟨rfl, _, List.mergeSort_perm l (fun a b => decide (a.from_ ≤ b.from_)), ?_, rfl⟩, resK_set ho rfl⟩, ?_⟩
  · have := List.pairwise_mergeSort (le := fun a b : Spn => decide (a.from_ ≤ b.from_)) (fun a b c h1 h2 => by simp at *; omega) (fun a b => by simp; omega) l
    exact this.imp fun h => by simpa [leS] using h
  · intro φ hu B w g vs hh hB hargs
    have ho' : (fill φ h)[id]? = some (.row 98 2 (l.map spnC) st) := fill_live ho rfl
    obtain ⟨v1, r1, rfl, ⟨_, hlive, htok⟩, v2, r2, rfl, ⟨us, vs, rfl, hus, hvs⟩, hr⟩ := hargs
    have hr : r2 = [] := hr
    subst hr
    have hus : us.toList = [] := hus
    have hvs : vs.toList = [] := hvs
    have hus : us = #[] := by simpa using hus
    have hvs : vs = #[] := by simpa using hvs
    subst hus; subst hvs
    have e0 : v1 = g.cur id := (htok st (by simp [ctx, ho', Ob.tok])).2 rfl
    obtain ⟨q0, q1, cells, q2, q3⟩ := hh.ok id _ ho'
    rw [flat_spn] at q3
    have e1 := ars_v_eq q3
    subst e1
    by_cases hne : l = []
    · subst hne
      have hz : ∃ A k, g.cur id = .slice A 0 k := by
        rcases q2.2 with ⟨e3, _⟩ | ⟨gg, cap, cur, e3, _⟩
        · exact ⟨_, _, e3⟩
        · exact ⟨_, _, e3⟩
      obtain ⟨A, k, hz⟩ := hz
      rw [e0, hz]
      refine (calls93z A k _ w).mono ?_
      rintro e w' ⟨rfl, rfl⟩
      exact ⟨_, _, _, _, rfl, ⟨rfl, [], .refl _, .nil, (set_self ho).symm⟩, .refl, Good.refl hh hB, #[], rfl, rfl⟩
    rcases q2.2 with ⟨_, e3⟩ | ⟨gg, cap, cur, e3, e4, e5, e6, e7, e8, e9⟩
    · exfalso
      simp at e3
      exact hne e3
    · have e3 : g.cur id = _ := e3
      simp only [List.length_map] at e3 e6 e9
      have hcl : l.length * 2 ≤ cur.size := by rw [e8]; exact Nat.mul_le_mul_right _ e6
      have hat : ∀ j, j < l.length * 2 → cur[j]? = some ((encSpn l.toArray[j / 2]!)[j % 2]!) := fun j hj => by
        rw [← flatS_at l j hj, ← e9, List.getElem?_take, if_pos hj, Array.getElem?_toList]
      have hH : HoldsK encSpn 2 w gg 0 l.toArray := fun j hj => by
        have hj : j < l.length * 2 := by simpa using hj
        refine ⟨?_, ?_⟩
        · simp only [World.cell?, e5, Nat.zero_add]
          rw [get_flatK _ _ _ _ (by simpa using hj)]
          exact hat j hj
        · simp [World.frozen?, e5]
      have hcall := calls93 gg 0 cap l.toArray w hH (Array.getElem?_eq_some_iff.1 e5).1 (by simp; omega)
      rw [e0, e3]
      have hsz : l.toArray.size = l.length := by simp
      rw [hsz] at hcall
      refine hcall.mono ?_
      rintro e w' ⟨rfl, d', n, os, hp, hs, rfl⟩
      obtain ⟨p1, p2, p3⟩ := hp
      have hd : d'.size = l.length := by rw [p1]; simp
      have hperm : d'.toList.Perm l := by
        have a1 : d'.extract 0 l.length = d' := by rw [← hd]; simp
        have a2 : l.toArray.extract 0 l.length = l.toArray := by simp
        rw [a1, a2] at p3
        exact p3
      have hsort : d'.toList.Pairwise leS := by
        rw [List.pairwise_iff_getElem]
        intro i j hi hj hij
        simp only [Array.length_toList] at hi hj
        have := hs i j (by omega) hij (by omega)
        rw [ltSpn, getElem!_pos d' i hi, getElem!_pos d' j hj] at this
        simp at this
        simpa [leS] using this
      have hF : (flatK encSpn 2 d').toList = flatS d'.toList := flatK_list d'.toList
      have hFs : (flatK encSpn 2 d').size = l.length * 2 := by simp [hd]
      have hgood := turn_row (w' := sortWorldK encSpn 2 w gg 0 n d' os) (v' := g.cur id) (st' := st) (xs' := d'.toList.map spnC) (cells := flatS d'.toList) hh hB ho' (by simp) (by rw [e3]; exact put_grown w gg n _ os)
        ⟨by rw [flatS_len]; simp, .inr ⟨gg, cap, _, by simp [e3, hd], e4, put_heap w gg n _ os e5, by simp [hd]; exact e6, e7, by simp [putCells]; exact e8, by
          have := put_take (flatK encSpn 2 d') cur (by rw [hFs]; exact hcl)
          rw [hF, hFs] at this
          simpa [hd] using this⟩⟩ (by rw [flat_spn]; exact ars_v _) (.inl ⟨rfl, rfl⟩) (fun b hb => .inl hb)
      rw [← fill_set rfl] at hgood
      exact ⟨_, _, _, _, rfl, ⟨rfl, d'.toList, hperm, hsort, rfl⟩, resK_set ho rfl, hgood, #[], rfl, rfl⟩
theorem c93z (x : AV) : Pure Try.prog 93 [.v (.slice none 0 0), x] (.tup []) := fun h => by
  refine ⟨by kernel_rfl, ⟨_, _, ⟨rfl, rfl⟩, .refl⟩, ?_⟩
  intro φ hu B w g vs hh hB hargs
  obtain ⟨v1, r1, rfl, h1, v2, r2, rfl, _, hr⟩ := hargs
  have hr : r2 = [] := hr
  subst hr
  have h1 : v1 = .slice none 0 0 := h1
  subst h1
  refine (calls93z none 0 v2 w).mono ?_
  rintro e w' ⟨rfl, rfl⟩
  exact ⟨_, _, _, _, rfl, ⟨rfl, rfl⟩, .refl, Good.refl hh hB, #[], rfl, rfl⟩
end Go.Proofs.Ytpdghiplnlhnfaa.Ax

namespace Go.Proofs.Ytpdghiplnlhnfaa.Ax
set_option linter.unusedSimpArgs false
set_option linter.unusedVariables false
open Go Go.Proofs
set_option maxRecDepth 100000
set_option linter.unusedSimpArgs false
set_option linter.unusedVariables false
theorem goodS_snoc (l : List Spn) (x : Spn) : goodS (l ++ [x]) = if (cleanS x).from_ < (cleanS x).to_ then goodS l ++ [cleanS x] else goodS l := by
  unfold goodS
  rw [List.map_append, List.filter_append]
  by_cases h : (cleanS x).from_ < (cleanS x).to_
  · simp [h]
  · simp [h]
set_option maxHeartbeats 1000000 in
theorem c65 (h : List Ob) (x : AV) (l : List Spn) (hx : SlOf h x 2 (l.map spnC)) (hl : l.length < 1048576) :
    ACalls Try.prog 65 [x] h fun r h' => ∃ L, h' = h ++ L ∧ NoRes L ∧ New h 2 r ((normS l).map spnC) L := by
  have hex : ∃ r h', (∃ L, h' = h ++ L ∧ NoRes L ∧ New h 2 r ((normS l).map spnC) L) ∧ ResK h h' :=
    ⟨.sl 2 _, _, ⟨[], rfl, noRes0, fun _ _ => ⟨rfl, fun _ => rfl⟩⟩, resK_app⟩
  refine acalls_wp Try.f65 [.tmp 2] 76 rfl rfl rfl rfl rfl rfl (by decide) (hex) fun B => ?_
  rw [wpC_assoc, wpC_assoc, wpC_assoc]
  refine wpC_cut (fun T h' => Pre h h' ∧ ∃ l' : List Spn, OwnS h h' 98 2 (T 3) (l'.map spnC) ∧ l'.Perm (goodS l) ∧ l'.Pairwise leS) ?_ ?_
  · simp only [go_sem, hx.rows, List.length_map]
    refine wp_loop_a (by decide) (fun m T h' => ∃ k : Nat, k ≤ l.length ∧ Pre h h' ∧ OwnS h h' 98 2 (T 3) ((goodS (l.take k)).map spnC) ∧ T 10 = x ∧ T 11 = i64 l.length ∧ T 12 = i64 k ∧ m = l.length - k) l.length
      ⟨0, by omega, Pre.refl, .inl ⟨by simp only [go_sem], rfl⟩, by simp only [go_sem], by simp only [go_sem], by (simp only [go_sem] <;> rfl), rfl⟩ ?_
    rintro m T h' ⟨k, hk, hp, ho, t10, t11, t12, rfl⟩
    simp only [go_sem, t11, t12]
    refine ways (fun e => ?_) (fun e => ?_)
    · have hlt := dlt e
      have hx' : SlOf h' x 2 (l.map spnC) := by
        obtain ⟨L, rfl, _⟩ := hp
        exact hx.app _
      have hee := hx'.at (i := k) (by simpa using hlt)
      have hrow : (l.map spnC)[k]? = some (spnC l[k]) := by rw [List.getElem?_map, List.getElem?_eq_getElem hlt]; rfl
      have hkl : (k : Int) < l.length := by omega
      have hstep := goodS_snoc (l.take k) l[k]
      rw [List.take_append_getElem hlt] at hstep
      obtain ⟨y, hy⟩ : ∃ y, y = l[k] := ⟨_, rfl⟩
      rw [← hy] at hrow hstep
      have fin : k + 1 ≤ l.length := by omega
      have hA : List.length (spnC y) = 2 := rfl
      simp only [go_sem, t10, t12, hee, hx'.rows, hrow, hkl, List.length_map, Int.toNat_natCast, Int.natCast_nonneg, max_if, min_if]
      refine ways (fun e2 => ?_) (fun e2 => ?_)
      · have e2 : (cleanS y).from_ < (cleanS y).to_ := by simpa [cleanS] using e2
        rw [if_pos e2] at hstep
        rcases ho with ⟨t3, hn⟩ | ⟨id, st, q1, t3, q3⟩
        · simp only [go_sem, t3, t12]
          refine ⟨l.length - (k + 1), by omega, k + 1, fin, hp.app (noRes_cons rfl (noRes_cons rfl (noRes1 rfl))), .inr ⟨_, _, by have := hp.len; omega, rfl, ?_⟩, t10, t11, t_succ (by omega) rfl, rfl⟩
          rw [hstep, List.map_append, hn, get_new rfl]
          rfl
        · have hrl : ((goodS (l.take k)).map spnC).length + 1 ≤ 1048576 := by
            have := goodS_len (l.take k)
            rw [List.length_take] at this
            rw [List.length_map]; omega
          have hrl : (((goodS (l.take k)).map spnC).length + 1) * 17 ≤ 140737488355328 := by omega
          have hg : ∀ M, (h' ++ M)[id]? = some (.row 98 2 ((goodS (l.take k)).map spnC) st) := fun M => get_app_old q3
          simp only [go_sem, t3, t12, hg, hrl]
          refine ⟨l.length - (k + 1), by omega, k + 1, fin, (hp.app (noRes_cons rfl (noRes1 rfl))).set q1 rfl, .inr ⟨id, st + 1, q1, rfl, ?_⟩, t10, t11, t_succ (by omega) rfl, rfl⟩
          rw [hstep, List.map_append]
          exact get_set_same (hg _)
      · have e2 : ¬ (cleanS y).from_ < (cleanS y).to_ := by simpa [cleanS] using e2
        rw [if_neg e2] at hstep
        simp only [go_sem, t12]
        exact ⟨l.length - (k + 1), by omega, k + 1, fin, hp.app (noRes1 rfl), by rw [hstep]; exact ho.app _, t10, t11, t_succ (by omega) rfl, rfl⟩
    · have hge := dnlt e
      have hk2 : k = l.length := by omega
      subst hk2
      rw [List.take_length] at ho
      rcases ho with ⟨t3, hn⟩ | ⟨id, st, q1, t3, q3⟩
      · simp only [go_sem, t3]
        refine call_by (c93z _ _) ?_
        rintro _ h4 ⟨rfl, e1⟩
        subst e1
        simp only [go_sem]
        exact ⟨hp, [], .inl ⟨t3, rfl⟩, by rw [show goodS l = [] by simpa using hn], .nil⟩
      · simp only [go_sem, t3]
        refine call_by (c93 _ id st (goodS l) q3 (by have := goodS_len l; omega)) ?_
        rintro _ h4 ⟨rfl, l', p1, p2, rfl⟩
        simp only [go_sem]
        exact ⟨hp.set q1 rfl, l', .inr ⟨id, st, q1, t3, get_set_same q3⟩, p1, p2⟩
  · rintro T h' ⟨hp, l', ho, hperm, hsort⟩
    have hnorm := merge_any hperm hsort
    have hlen : l'.length ≤ l.length := by rw [hperm.length_eq]; exact goodS_len l
    simp only [go_sem, ho.rows.rows, List.length_map]
    refine wp_loop_a (by decide) (fun m T' h' => ∃ (k : Nat) (out : List Spn), k ≤ l'.length ∧ Pre h h' ∧ OwnS h h' 98 2 (T 3) (l'.map spnC) ∧ OwnS h h' 98 2 (T' 6) (out.map spnC) ∧ (∀ i1 s1 i2 s2, T 3 = .tl i1 s1 → T' 6 = .tl i2 s2 → i1 ≠ i2) ∧ out.length ≤ k ∧ ((k = 0 ∧ out = [] ∧ T' 6 = .v (.slice none 0 0)) ∨ ∃ D c, out = D ++ [c] ∧ 0 < k ∧ mergeS l' = D ++ merge1 c (l'.drop k)) ∧ T' 35 = T 3 ∧ T' 36 = i64 l'.length ∧ T' 37 = i64 k ∧ m = l'.length - k) l'.length
      ⟨0, [], by omega, hp, ho, .inl ⟨by simp only [go_sem], rfl⟩, (fun _ _ _ _ _ q => by simp only [go_sem] at q), Nat.le_refl _, .inl ⟨rfl, rfl, by simp only [go_sem]⟩, by simp only [go_sem], by simp only [go_sem], by (simp only [go_sem] <;> rfl), rfl⟩ ?_
    obtain ⟨y, hy⟩ : ∃ y, y = T 3 := ⟨_, rfl⟩
    rw [← hy]
    clear ho hp
    rintro m T' h' ⟨k, out, hk, hp, ho, hu, hap, hol, hj, t35, t36, t37, rfl⟩
    simp only [go_sem, t36, t37]
    refine ways (fun e => ?_) (fun e => ?_)
    · have hlt := dlt e
      have hrow : (l'.map spnC)[k]? = some (spnC l'[k]) := by rw [List.getElem?_map, List.getElem?_eq_getElem hlt]; rfl
      have hdrop : l'.drop k = l'[k] :: l'.drop (k + 1) := List.drop_eq_getElem_cons hlt
      rcases ho with ⟨_, hn⟩ | ⟨id, st, q1, hyt, q3⟩
      · rw [List.map_eq_nil_iff] at hn
        rw [hn] at hlt; simp at hlt
      have hg : ∀ M, (h' ++ M)[id]? = some (.row 98 2 (l'.map spnC) st) := fun M => get_app_old q3
      have hkl : (k : Int) < l'.length := by omega
      obtain ⟨z, hz⟩ : ∃ z, z = l'[k] := ⟨_, rfl⟩
      rw [← hz] at hrow hdrop
      rcases hj with ⟨hk0, rfl, t6⟩ | ⟨D, c, rfl, hk0, hm⟩
      · simp only [go_sem, t35, hyt, t37, t6, q3, hg, hrow, hkl, List.length_map, Int.toNat_natCast, Int.natCast_nonneg]
        refine wp_draw rfl [] 0 [(0, 0, []), (1, 0, []), (2, 0, []), (3, 0, []), (5, 0, []), (6, 0, []), (7, 0, []), (4, 0, []), (8, 0, []), (9, 0, []), (10, 0, []), (11, 0, []), (12, 0, [])] rfl (by decide) (by decide) ?_
        have h00 : decide ((0 : Int) > 0) = false := rfl
        simp only [go_sem, t35, hyt, t37, t6, hg, h00]
        have hlen2 := hp.len
        have hid : id < h'.length := (List.getElem?_eq_some_iff.1 q3).1
        refine ⟨l'.length - (k + 1), by omega, k + 1, [z], by omega, hp.app (noRes_cons rfl (noRes_cons rfl (noRes1 rfl))), .inr ⟨id, st, q1, rfl, hg _⟩, .inr ⟨_, _, by omega, rfl, by rw [get_new rfl]; rfl⟩, (fun i1 s1 i2 s2 r1 r2 => ?_), by simp, .inr ⟨[], z, rfl, by omega, ?_⟩, t36, t_succ (by omega) rfl, rfl⟩
        · injection r1 with r1; injection r2 with r2; omega
        · rw [hk0, List.drop_zero] at hdrop
          rw [hdrop, hk0]
          rfl
      · have hn1 : wr (((D.length + 1 : Nat) : Int) - 1) = (D.length : Int) := by
          rw [wr_fit (by simp at hol; unfold Fit; omega)]; omega
        have hn0 : decide (((D.length + 1 : Nat) : Int) > 0) = true := by simp
        have hlo : ((D ++ [c]).map spnC).length = D.length + 1 := by simp
        have hro : ((D ++ [c]).map spnC)[D.length]? = some (spnC c) := by simp
        have hll : (D.length : Int) < ((D.length + 1 : Nat) : Int) := by omega
        obtain ⟨out, hout⟩ : ∃ out, out = (D ++ [c]).map spnC := ⟨_, rfl⟩
        rcases hu with ⟨_, hn⟩ | ⟨id2, st2, u1, hut, u3⟩
        · simp at hn
        have hne := hap _ _ _ _ hyt hut
        rw [← hout] at u3 hlo hro
        have hg2 : ∀ M, (h' ++ M)[id2]? = some (.row 98 2 out st2) := fun M => get_app_old u3
        simp only [go_sem, t35, hyt, t37, hut, q3, u3, hg, hg2, hrow, hkl, hlo, List.length_map, Int.toNat_natCast, Int.natCast_nonneg]
        refine wp_draw rfl [] 0 [(0, 0, []), (1, 0, []), (2, 0, []), (3, 0, []), (5, 0, []), (6, 0, []), (7, 0, []), (4, 0, []), (8, 0, []), (9, 0, []), (10, 0, []), (11, 0, []), (12, 0, [])] rfl (by decide) (by decide) ?_
        simp only [go_sem, hut, hg, hg2, hn0, hn1, hro, hlo, hll, Int.toNat_natCast, Int.natCast_nonneg]
        refine ways (fun e2 => ?_) (fun e2 => ?_)
        · have e2 : z.from_ ≤ c.to_ := by simpa using e2
          simp only [go_sem]
          refine wp_draw rfl [] 0 [(0, 0, []), (1, 0, []), (2, 0, []), (3, 0, []), (4, 0, []), (5, 0, []), (9, 0, []), (6, 0, []), (7, 0, []), (8, 0, []), (10, 0, []), (11, 0, []), (12, 0, []), (13, 0, []), (14, 0, [])] rfl (by decide) (by decide) ?_
          simp only [go_sem, hut, hg, hg2, hn1, hro, hlo, hll, Int.toNat_natCast, Int.natCast_nonneg, max_if, t37]
          obtain ⟨c2, hc2⟩ : ∃ c2 : Spn, c2 = ⟨c.from_, max c.to_ z.to_⟩ := ⟨_, rfl⟩
          have hset : out.set D.length [i64 c.from_, i64 (max c.to_ z.to_)] = (D ++ [c2]).map spnC := by
            rw [hout, hc2]; simp
          rw [hset]
          refine ⟨l'.length - (k + 1), by omega, k + 1, D ++ [c2], by omega, (hp.app (noRes1 rfl)).set u1 rfl, .inr ⟨id, st, q1, rfl, ?_⟩, .inr ⟨id2, st2, u1, rfl, get_set_same (hg2 _)⟩, (fun i1 s1 i2 s2 r1 r2 => hap i1 s1 i2 s2 (hyt.trans r1) (hut.trans r2)), by simp at hol ⊢; omega, .inr ⟨D, _, rfl, by omega, ?_⟩, by rw [t35, hyt], t36, t_succ (by omega) rfl, rfl⟩
          · rw [List.getElem?_set_ne (Ne.symm hne)]; exact hg _
          · rw [hm, hdrop, merge1, if_pos e2, hc2]
        · have e2 : ¬ z.from_ ≤ c.to_ := by simpa using e2
          have hrl : (out.length + 1) * 17 ≤ 140737488355328 := by rw [hlo]; simp at hol; omega
          simp only [go_sem, hut, hg, hg2, hrl, t37]
          have hset : out ++ [[i64 z.from_, i64 z.to_]] = ((D ++ [c]) ++ [z]).map spnC := by
            rw [hout]; simp
          rw [hset]
          refine ⟨l'.length - (k + 1), by omega, k + 1, (D ++ [c]) ++ [z], by omega, (hp.app (noRes_cons rfl (noRes1 rfl))).set u1 rfl, .inr ⟨id, st, q1, rfl, ?_⟩, .inr ⟨id2, st2 + 1, u1, rfl, get_set_same (hg2 _)⟩, (fun i1 s1 i2 s2 r1 r2 => ?_), by simp at hol ⊢; omega, .inr ⟨D ++ [c], z, rfl, by omega, ?_⟩, by rw [t35, hyt], t36, t_succ (by omega) rfl, rfl⟩
          · rw [List.getElem?_set_ne (Ne.symm hne)]; exact hg _
          · injection r1 with r1; injection r2 with r2; omega
          · rw [hm, hdrop, merge1, if_neg e2, List.append_assoc]
            rfl
    · have hge := dnlt e
      have hk2 : k = l'.length := by omega
      have hfin : out = mergeS l' := by
        rcases hj with ⟨h0, h1, _⟩ | ⟨D, c, h0, _, h1⟩
        · have : l' = [] := List.length_eq_zero_iff.1 (by omega)
          rw [h1, this]; rfl
        · rw [h1, h0, hk2, List.drop_length]; simp [merge1]
      subst hfin
      simp only [go_sem]
      obtain ⟨L, rfl, hN⟩ := hp
      exact ⟨T' 6, by simp only [go_sem], .inl ⟨L, rfl, hN, by rw [← hnorm]; exact hu.new (Nat.le_refl _)⟩⟩
end Go.Proofs.Ytpdghiplnlhnfaa.Ax

namespace Go.Proofs.Ytpdghiplnlhnfaa.Ax
set_option linter.unusedSimpArgs false
set_option linter.unusedVariables false
open Go Go.Proofs Go.RowKit Go.Lib
theorem calls96 (A : Option Addr) (n k : Nat) (hnk : n ≤ k) (w : World) : Calls Try.prog 96 #[.slice A n k] w fun e w' => (e = .returned (.slice A n n) ∧ w' = w) := by
  have h1 : (n : Int) ≤ (k : Int) := by omega
  have h2 : (0 : Int) ≤ (n : Int) := by omega
  go_enter Try.func96, Try.ntmps96
  go_wp2
  go_ret
  exact ⟨rfl, rfl⟩
theorem c96 (h : List Ob) (id st : Nat) (rows : List (List AV)) (ho : h[id]? = some (.row 98 2 rows st)) : ACalls Try.prog 96 [.tl id st] h fun r h' => r = .sl 2 rows ∧ h' = h.set id .gone := by
  refine ⟨by kernel_rfl, ⟨_, _, ⟨rfl, rfl⟩, resK_set ho rfl⟩, ?_⟩
  intro φ hu B w g vs hh hB hargs
  obtain ⟨v1, r1, rfl, h1, hr⟩ := hargs
  have hr : r1 = [] := hr
  subst hr
  obtain ⟨k1, k2⟩ := freeze_good hh hB (fill_live ho rfl)
  rw [← fill_set rfl] at k1 k2
  obtain ⟨A, k, rfl, hle, hrows⟩ := k2 _ h1
  refine (calls96 A rows.length k hle w).mono ?_
  rintro e w' ⟨rfl, rfl⟩
  exact ⟨_, _, _, _, rfl, ⟨rfl, rfl⟩, resK_set ho rfl, k1, A, rows.length, rfl, Nat.le_refl _, hrows⟩
theorem c96z : Pure Try.prog 96 [.v (.slice none 0 0)] (.v (.slice none 0 0)) := fun h => by
  refine ⟨by kernel_rfl, ⟨_, _, ⟨rfl, rfl⟩, .refl⟩, ?_⟩
  intro φ hu B w g vs hh hB hargs
  obtain ⟨v1, r1, rfl, h1, hr⟩ := hargs
  have hr : r1 = [] := hr
  subst hr
  have h1 : v1 = .slice none 0 0 := h1
  subst h1
  refine (calls96 none 0 0 (Nat.le_refl _) w).mono ?_
  rintro e w' ⟨rfl, rfl⟩
  exact ⟨_, _, _, _, rfl, ⟨rfl, rfl⟩, .refl, Good.refl hh hB, rfl⟩
end Go.Proofs.Ytpdghiplnlhnfaa.Ax
