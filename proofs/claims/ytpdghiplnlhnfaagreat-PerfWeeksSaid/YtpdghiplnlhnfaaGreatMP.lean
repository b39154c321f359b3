/-
  Joined: Lay, Spn, Spn2, Norm, Clip. Nothing is proved here of a statement.
-/
import Derived.Test.YtpdghiplnlhnfaaGreatMX
import Derived.Shelf.SlSortCmp.WholeK
import Derived.Shelf.SlSortCmp.NoneTotal
import Derived.Shelf.SlicesG.Cmp
import Derived.Test.YtpdghiplnlhnfaaGreatMN
import Derived.Test.YtpdghiplnlhnfaaGreatMO
namespace Go.Proofs.YtpdghiplnlhnfaaGreat.Ax
set_option linter.unusedSimpArgs false
set_option linter.unusedVariables false
open Go Go.Proofs Go.Shelf
def sortSpan_ren : Go.Shelf.Ren := ⟨fun | 6 => 114 | 15 => 144 | 14 => 143 | 28 => 163 | 29 => 164 | 20 => 155 | 21 => 156 | 22 => 157 | 23 => 158 | 24 => 159 | 25 => 160 | 26 => 161 | 27 => 162 | 46 => 170 | 47 => 171 | 48 => 172 | 49 => 173 | 50 => 174 | 57 => 178 | n => n, fun | 22 => 49 | 24 => 88 | 25 => 136 | 3 => 3 | 39 => 162 | 0 => 0 | 53 => 183 | 55 => 185 | 4 => 4 | 46 => 176 | 45 => 175 | 50 => 180 | 5 => 5 | 9 => 9 | 66 => 189 | 70 => 150 | 76 => 198 | 77 => 139 | n => n, fun | n => n⟩
theorem sortSpan : Go.Proofs.SlLaysF0.n6 Tryz.prog sortSpan_ren := {
  mixed := by kernel_rfl
  f6 := ⟨Tryz.f114.name, by decide, Tryz.func114.trans (congrArg some (by kernel_rfl))⟩
  f14 := ⟨Tryz.f143.name, by decide, Tryz.func143.trans (congrArg some (by kernel_rfl))⟩
  f15 := Tryz.func144.trans (congrArg some (by kernel_rfl))
  f20 := ⟨Tryz.f155.name, by decide, Tryz.func155.trans (congrArg some (by kernel_rfl))⟩
  f21 := ⟨Tryz.f156.name, by decide, Tryz.func156.trans (congrArg some (by kernel_rfl))⟩
  f22 := ⟨Tryz.f157.name, by decide, Tryz.func157.trans (congrArg some (by kernel_rfl))⟩
  f23 := ⟨Tryz.f158.name, by decide, Tryz.func158.trans (congrArg some (by kernel_rfl))⟩
  f24 := ⟨Tryz.f159.name, by decide, Tryz.func159.trans (congrArg some (by kernel_rfl))⟩
  f25 := ⟨Tryz.f160.name, by decide, Tryz.func160.trans (congrArg some (by kernel_rfl))⟩
  f26 := ⟨Tryz.f161.name, by decide, Tryz.func161.trans (congrArg some (by kernel_rfl))⟩
  f27 := ⟨Tryz.f162.name, by decide, Tryz.func162.trans (congrArg some (by kernel_rfl))⟩
  f28 := Tryz.func163.trans (congrArg some (by kernel_rfl))
  f29 := Tryz.func164.trans (congrArg some (by kernel_rfl))
  f46 := ⟨Tryz.f170.name, by decide, Tryz.func170.trans (congrArg some (by kernel_rfl))⟩
  f47 := Tryz.func171.trans (congrArg some (by kernel_rfl))
  f48 := Tryz.func172.trans (congrArg some (by kernel_rfl))
  f49 := ⟨Tryz.f173.name, by decide, Tryz.func173.trans (congrArg some (by kernel_rfl))⟩
  f50 := ⟨Tryz.f174.name, by decide, Tryz.func174.trans (congrArg some (by kernel_rfl))⟩
  f57 := ⟨Tryz.f178.name, by decide, Tryz.func178.trans (congrArg some (by kernel_rfl))⟩
  t0 := Tryz.underlying0
  a0 := Tryz.isAgg0
  z0 := Tryz.sizeOf0
  v0 := Tryz.zeroValue0
  t3 := Tryz.underlying3
  a3 := Tryz.isAgg3
  z3 := Tryz.sizeOf3
  v3 := Tryz.zeroValue3
  t4 := Tryz.underlying4
  a4 := Tryz.isAgg4
  z4 := Tryz.sizeOf4
  v4 := Tryz.zeroValue4
  t5 := Tryz.underlying5
  a5 := Tryz.isAgg5
  z5 := Tryz.sizeOf5
  v5 := Tryz.zeroValue5
  t9 := Tryz.underlying9
  a9 := Tryz.isAgg9
  z9 := Tryz.sizeOf9
  v9 := Tryz.zeroValue9
  t22 := Tryz.underlying49
  a22 := Tryz.isAgg49
  z22 := Tryz.sizeOf49
  v22 := Tryz.zeroValue49
  t25 := Tryz.underlying136
  a25 := Tryz.isAgg136
  z25 := Tryz.sizeOf136
  v25 := Tryz.zeroValue136
  t39 := Tryz.underlying162
  a39 := Tryz.isAgg162
  z39 := Tryz.sizeOf162
  v39 := Tryz.zeroValue162
  t45 := Tryz.underlying175
  a45 := Tryz.isAgg175
  z45 := Tryz.sizeOf175
  v45 := Tryz.zeroValue175
  t46 := Tryz.underlying176
  a46 := Tryz.isAgg176
  z46 := Tryz.sizeOf176
  v46 := Tryz.zeroValue176
  t50 := Tryz.underlying180
  a50 := Tryz.isAgg180
  z50 := Tryz.sizeOf180
  v50 := Tryz.zeroValue180
  t53 := Tryz.underlying183
  a53 := Tryz.isAgg183
  z53 := Tryz.sizeOf183
  v53 := Tryz.zeroValue183
  t55 := Tryz.underlying185
  a55 := Tryz.isAgg185
  z55 := Tryz.sizeOf185
  v55 := Tryz.zeroValue185
  t66 := Tryz.underlying189
  a66 := Tryz.isAgg189
  z66 := Tryz.sizeOf189
  v66 := Tryz.zeroValue189
  t70 := Tryz.underlying150
  a70 := Tryz.isAgg150
  z70 := Tryz.sizeOf150
  v70 := Tryz.zeroValue150
  t76 := Tryz.underlying198
  a76 := Tryz.isAgg198
  z76 := Tryz.sizeOf198
  v76 := Tryz.zeroValue198
  t77 := Tryz.underlying139
  a77 := Tryz.isAgg139
  z77 := Tryz.sizeOf139
  v77 := Tryz.zeroValue139 }
def cmpInt_ren : Go.Shelf.Ren := ⟨fun | 5 => 116 | 7 => 145 | n => n, fun | 22 => 3 | 3 => 3 | 4 => 4 | n => n, fun | n => n⟩
theorem cmpInt : Go.Proofs.SlLaysC2.n5 Tryz.prog cmpInt_ren := {
  mixed := by kernel_rfl
  f5 := ⟨Tryz.f116.name, by decide, Tryz.func116.trans (congrArg some (by kernel_rfl))⟩
  f7 := ⟨Tryz.f145.name, by decide, Tryz.func145.trans (congrArg some (by kernel_rfl))⟩
  t3 := Tryz.underlying3
  a3 := Tryz.isAgg3
  z3 := Tryz.sizeOf3
  v3 := Tryz.zeroValue3
  t4 := Tryz.underlying4
  a4 := Tryz.isAgg4
  z4 := Tryz.sizeOf4
  v4 := Tryz.zeroValue4
  t22 := Tryz.underlying3
  a22 := Tryz.isAgg3
  z22 := Tryz.sizeOf3
  v22 := Tryz.zeroValue3 }
end Go.Proofs.YtpdghiplnlhnfaaGreat.Ax

namespace Go.Proofs.YtpdghiplnlhnfaaGreat.Ax
set_option linter.unusedSimpArgs false
set_option linter.unusedVariables false
open Go Go.Proofs Go.Shelf Go.RowKit Go.Lib Go.Sort
instance : Inhabited Spn := ⟨⟨0, 0⟩⟩
def encSpn (x : Spn) : List Value := [.int .i64 x.from_, .int .i64 x.to_]
set_option maxHeartbeats 1000000 in
theorem closure94 (x y : Spn) (W : World) : Calls Tryz.prog 115 #[.agg #[.int .i64 x.from_, .int .i64 x.to_], .agg #[.int .i64 y.from_, .int .i64 y.to_]] W fun e w' => e = .returned (.int .i64 (Lib.compareInt x.from_ y.from_)) ∧ ∃ q os', w' = grow (W.drewN q) os' := by
  have hcon := fun W' => AnyG.cmp_Compare_int cmpInt x.from_ y.from_ W'
  change ∀ W', Calls Tryz.prog 116 _ _ _ at hcon
  generalize Lib.compareInt x.from_ y.from_ = r at hcon ⊢
  go_enter Tryz.func115, Tryz.ntmps115
  go_wp2_with (go_at_call 116; refine (hcon _).mono ?_; rintro e w' ⟨rfl, rfl⟩)
  go_ret
  exact ⟨rfl, 0, _, by rw [alloc_eq_grow, alloc_eq_grow, grow_grow]; rfl⟩
theorem cmpLays94 (blk off size : Nat) (w : World) : CmpLays Tryz.prog 115 #[] encSpn 2 (fun x y => Lib.compareInt x.from_ y.from_) blk off size w :=
  fun _ _ _ _ x y => closure94 x y _
theorem ltSpn (x y : Spn) : ltOf (fun x y : Spn => Lib.compareInt x.from_ y.from_) x y = decide (x.from_ < y.from_) := by
  unfold ltOf Lib.compareInt
  by_cases h1 : x.from_ < y.from_
  · simp [h1]
  · by_cases h2 : y.from_ < x.from_ <;> simp [h1, h2]
theorem swoSpn : SWO (ltOf fun x y : Spn => Lib.compareInt x.from_ y.from_) :=
  { irrefl := fun x => by rw [ltSpn]; simp
    trans := fun x y z h1 h2 => by rw [ltSpn] at *; simp at *; omega
    ntrans := fun x y z h1 h2 => by rw [ltSpn] at *; simp at *; omega }
theorem calls93 (blk off cap : Nat) (d : Array Spn) (w : World) (hH : HoldsK encSpn 2 w blk off d) (hblk : blk < w.heap.size) (hsz : d.size < 4611686018427387904) :
    Calls Tryz.prog 114 #[.slice (some ⟨blk, off, none⟩) d.size cap, .func (.func 115) #[] #[]] w fun e w' => e = .returned (.tuple #[]) ∧ ∃ d' n os, PermIn 0 d.size d d' ∧ SortedIn (ltOf fun x y : Spn => Lib.compareInt x.from_ y.from_) 0 d.size d' ∧ w' = sortWorldK encSpn 2 w blk off n d' os := by
  have eg : ∀ args w, (callFunc 115 args).run Tryz.prog w = .ok (.enter 115 args) w := enters_of Tryz.func115 (by kernel_rfl) rfl
  have hcon := AnyQ.slices_SortFunc sortSpan 2 Tryz.isAgg88 Tryz.sizeOf88 encSpn (fun _ => rfl) (fun x v hv => by simp [encSpn] at hv; rcases hv with rfl | rfl <;> rfl) (fun x y => Lib.compareInt x.from_ y.from_) swoSpn 115 #[] blk off cap d w eg (cmpLays94 blk off d.size w) hH hblk hsz
  exact hcon
theorem calls93z (A : Option Addr) (cap : Nat) (fv : Value) (w : World) : Calls Tryz.prog 114 #[.slice A 0 cap, fv] w fun e w' => e = .returned (.tuple #[]) ∧ w' = w := by
  have hcon := AnyF.slices_SortFunc_none sortSpan A cap fv w
  exact hcon
end Go.Proofs.YtpdghiplnlhnfaaGreat.Ax

namespace Go.Proofs.YtpdghiplnlhnfaaGreat.Ax
set_option linter.unusedSimpArgs false
set_option linter.unusedVariables false
open Go Go.Proofs Go.Shelf Go.RowKit Go.Lib Go.Sort
def flatS (l : List Spn) : List Value := (l.map encSpn).flatten
theorem flatS_len : ∀ l : List Spn, (flatS l).length = l.length * 2
  | [] => rfl
  | x :: l => by
    have := flatS_len l
    simp only [flatS, List.map_cons, List.flatten_cons, List.length_append, encSpn, List.length_cons, List.length_nil] at this ⊢
    omega
theorem flatS_at : ∀ (l : List Spn) (t : Nat), t < l.length * 2 → (flatS l)[t]? = some ((encSpn l.toArray[t / 2]!)[t % 2]!)
  | [], t, h => by simp at h
  | x :: l, 0, _ => by simp [flatS, encSpn]
  | x :: l, 1, _ => by simp [flatS, encSpn]
  | x :: l, t + 2, h => by
    have := flatS_at l t (by simp at h; omega)
    have e1 : (t + 2) / 2 = t / 2 + 1 := by omega
    have e2 : (t + 2) % 2 = t % 2 := by omega
    have e3 : (flatS (x :: l))[t + 2]? = (flatS l)[t]? := by simp [flatS, encSpn]
    rw [e3, this, e1, e2]
    simp
theorem flatK_list (l : List Spn) : (flatK encSpn 2 l.toArray).toList = flatS l := by
  apply List.ext_getElem?
  intro t
  by_cases ht : t < l.length * 2
  · rw [flatS_at l t ht]
    simp [flatK, ht]
  · rw [List.getElem?_eq_none (by simp; omega), List.getElem?_eq_none (by rw [flatS_len]; omega)]
theorem flat_spn : ∀ l : List Spn, (l.map spnC).flatten = (flatS l).map .v
  | [] => rfl
  | x :: l => by
    have := flat_spn l
    simp only [flatS, List.map_cons, List.flatten_cons, List.map_append] at this ⊢
    rw [this]
    rfl
theorem ars_v_eq {c : Ctx} : ∀ {vs us : List Value}, ARs c (vs.map .v) us → us = vs
  | [], _, h => h
  | v :: vs, us, ⟨u, r, h1, h2, h3⟩ => by
    have h2 : u = v := h2
    rw [h1, h2, ars_v_eq h3]
theorem put_heap (w : World) (blk n : Nat) (F : Array Value) (os : Array Obj) {cur : Array Value} {e : TypeId} {fz : Nat × Nat} (hb : w.heap[blk]? = some (.cells cur e fz)) :
    (grow (putRow id (Sort.ahead w n) blk 0 F) os).heap[blk]? = some (.cells (putCells id 0 F cur) e fz) := by
  have hlt := (Array.getElem?_eq_some_iff.1 hb).1
  simp only [grow, putRow, mapBlock, Sort.ahead]
  rw [Array.getElem?_append_left (by simpa using hlt)]
  simp [Array.getElem?_modify, hb, onCells]
theorem put_grown (w : World) (blk n : Nat) (F : Array Value) (os : Array Obj) : w.grownBy (grow (putRow id (Sort.ahead w n) blk 0 F) os) (some blk) := by
  refine ⟨rfl, rfl, rfl, by simp [grow, putRow, mapBlock, Sort.ahead], fun k hk hne => ?_⟩
  simp only [grow, putRow, mapBlock, Sort.ahead]
  rw [Array.getElem?_append_left (by simpa using hk), Array.getElem?_modify, if_neg (fun e => hne (by rw [e]))]
theorem put_take (F cur : Array Value) (h : F.size ≤ cur.size) : (putCells id 0 F cur).toList.take F.size = F.toList := by
  apply List.ext_getElem?
  intro t
  by_cases ht : t < F.size
  · have hc : t < cur.size := by omega
    simp [putCells, List.getElem?_take, ht, hc]
  · rw [List.getElem?_eq_none (by simp; omega), List.getElem?_eq_none (by simp; omega)]

theorem c93 (h : List Ob) (id st : Nat) (l : List Spn) (ho : h[id]? = some (.row 88 2 (l.map spnC) st)) (hl : l.length < 1099511627776) :
    ACalls Tryz.prog 114 [.tl id st, .fn (.func 115) [] []] h fun r h' => r = .tup [] ∧ ∃ l' : List Spn, l'.Perm l ∧ l'.Pairwise leS ∧ h' = h.set id (.row 88 2 (l'.map spnC) st) := by
  refine ⟨by kernel_rfl, ⟨_, _, ⟨rfl, _, List.mergeSort_perm l (fun a b => decide (a.from_ ≤ b.from_)), ?_, rfl⟩, resK_set ho rfl⟩, ?_⟩
  · have := List.pairwise_mergeSort (le := fun a b : Spn => decide (a.from_ ≤ b.from_)) (fun a b c h1 h2 => by simp at *; omega) (fun a b => by simp; omega) l
    exact this.imp fun h => by simpa [leS] using h
  · intro φ hu B w g vs hh hB hargs
    have ho' : (fill φ h)[id]? = some (.row 88 2 (l.map spnC) st) := fill_live ho rfl
    obtain ⟨v1, r1, rfl, ⟨_, hlive, htok⟩, v2, r2, rfl, ⟨us, vs, rfl, hus, hvs⟩, hr⟩ := hargs
    have hr : r2 = [] := hr
    subst hr
    have hus : us.toList = [] := hus
    have hvs : vs.toList = [] := hvs
    have hus : us = #[] := by simpa using hus
    have hvs : vs = #[] := by simpa using hvs
    subst hus; subst hvs
    have e0 : v1 = g.cur id := (htok st (by simp [ctx, ho', Ob.tok])).2 rfl
    obtain ⟨q0, q1, cells, q2, q3⟩ := hh.ok id _ ho'
    rw [flat_spn] at q3
    have e1 := ars_v_eq q3
    subst e1
    by_cases hne : l = []
    · subst hne
      have hz : ∃ A k, g.cur id = .slice A 0 k := by
        rcases q2.2 with ⟨e3, _⟩ | ⟨gg, cap, cur, e3, _⟩
        · exact ⟨_, _, e3⟩
        · exact ⟨_, _, e3⟩
      obtain ⟨A, k, hz⟩ := hz
      rw [e0, hz]
      refine (calls93z A k _ w).mono ?_
      rintro e w' ⟨rfl, rfl⟩
      exact ⟨_, _, _, _, rfl, ⟨rfl, [], .refl _, .nil, (set_self ho).symm⟩, .refl, Good.refl hh hB, #[], rfl, rfl⟩
    rcases q2.2 with ⟨_, e3⟩ | ⟨gg, cap, cur, e3, e4, e5, e6, e7, e8, e9⟩
    · exfalso
      simp at e3
      exact hne e3
    · have e3 : g.cur id = _ := e3
      simp only [List.length_map] at e3 e6 e9
      have hcl : l.length * 2 ≤ cur.size := by rw [e8]; exact Nat.mul_le_mul_right _ e6
      have hat : ∀ j, j < l.length * 2 → cur[j]? = some ((encSpn l.toArray[j / 2]!)[j % 2]!) := fun j hj => by
        rw [← flatS_at l j hj, ← e9, List.getElem?_take, if_pos hj, Array.getElem?_toList]
      have hH : HoldsK encSpn 2 w gg 0 l.toArray := fun j hj => by
        have hj : j < l.length * 2 := by simpa using hj
        refine ⟨?_, ?_⟩
        · simp only [World.cell?, e5, Nat.zero_add]
          rw [get_flatK _ _ _ _ (by simpa using hj)]
          exact hat j hj
        · simp [World.frozen?, e5]
      have hcall := calls93 gg 0 cap l.toArray w hH (Array.getElem?_eq_some_iff.1 e5).1 (by simp; omega)
      rw [e0, e3]
      have hsz : l.toArray.size = l.length := by simp
      rw [hsz] at hcall
      refine hcall.mono ?_
      rintro e w' ⟨rfl, d', n, os, hp, hs, rfl⟩
      obtain ⟨p1, p2, p3⟩ := hp
      have hd : d'.size = l.length := by rw [p1]; simp
      have hperm : d'.toList.Perm l := by
        have a1 : d'.extract 0 l.length = d' := by rw [← hd]; simp
        have a2 : l.toArray.extract 0 l.length = l.toArray := by simp
        rw [a1, a2] at p3
        exact p3
      have hsort : d'.toList.Pairwise leS := by
        rw [List.pairwise_iff_getElem]
        intro i j hi hj hij
        simp only [Array.length_toList] at hi hj
        have := hs i j (by omega) hij (by omega)
        rw [ltSpn, getElem!_pos d' i hi, getElem!_pos d' j hj] at this
        simp at this
        simpa [leS] using this
      have hF : (flatK encSpn 2 d').toList = flatS d'.toList := flatK_list d'.toList
      have hFs : (flatK encSpn 2 d').size = l.length * 2 := by simp [hd]
      have hgood := turn_row (w' := sortWorldK encSpn 2 w gg 0 n d' os) (v' := g.cur id) (st' := st) (xs' := d'.toList.map spnC) (cells := flatS d'.toList) hh hB ho' (by simp) (by rw [e3]; exact put_grown w gg n _ os)
        ⟨by rw [flatS_len]; simp, .inr ⟨gg, cap, _, by simp [e3, hd], e4, put_heap w gg n _ os e5, by simp [hd]; exact e6, e7, by simp [putCells]; exact e8, by
          have := put_take (flatK encSpn 2 d') cur (by rw [hFs]; exact hcl)
          rw [hF, hFs] at this
          simpa [hd] using this⟩⟩ (by rw [flat_spn]; exact ars_v _) (.inl ⟨rfl, rfl⟩) (fun b hb => .inl hb)
      rw [← fill_set rfl] at hgood
      exact ⟨_, _, _, _, rfl, ⟨rfl, d'.toList, hperm, hsort, rfl⟩, resK_set ho rfl, hgood, #[], rfl, rfl⟩
theorem c93z (x : AV) : Pure Tryz.prog 114 [.v (.slice none 0 0), x] (.tup []) := fun h => by
  refine ⟨by kernel_rfl, ⟨_, _, ⟨rfl, rfl⟩, .refl⟩, ?_⟩
  intro φ hu B w g vs hh hB hargs
  obtain ⟨v1, r1, rfl, h1, v2, r2, rfl, _, hr⟩ := hargs
  have hr : r2 = [] := hr
  subst hr
  have h1 : v1 = .slice none 0 0 := h1
  subst h1
  refine (calls93z none 0 v2 w).mono ?_
  rintro e w' ⟨rfl, rfl⟩
  exact ⟨_, _, _, _, rfl, ⟨rfl, rfl⟩, .refl, Good.refl hh hB, #[], rfl, rfl⟩
end Go.Proofs.YtpdghiplnlhnfaaGreat.Ax

namespace Go.Proofs.YtpdghiplnlhnfaaGreat.Ax
set_option linter.unusedSimpArgs false
set_option linter.unusedVariables false
open Go Go.Proofs
set_option maxRecDepth 100000
set_option linter.unusedSimpArgs false
set_option linter.unusedVariables false
theorem goodS_snoc (l : List Spn) (x : Spn) : goodS (l ++ [x]) = if (cleanS x).from_ < (cleanS x).to_ then goodS l ++ [cleanS x] else goodS l := by
  unfold goodS
  rw [List.map_append, List.filter_append]
  by_cases h : (cleanS x).from_ < (cleanS x).to_
  · simp [h]
  · simp [h]
set_option maxHeartbeats 1000000 in
theorem c65 (h : List Ob) (x : AV) (l : List Spn) (hx : SlOf h x 2 (l.map spnC)) (hl : l.length < 1048576) :
    ACalls Tryz.prog 64 [x] h fun r h' => ∃ L, h' = h ++ L ∧ NoRes L ∧ New h 2 r ((normS l).map spnC) L := by
  have hex : ∃ r h', (∃ L, h' = h ++ L ∧ NoRes L ∧ New h 2 r ((normS l).map spnC) L) ∧ ResK h h' :=
    ⟨.sl 2 _, _, ⟨[], rfl, noRes0, fun _ _ => ⟨rfl, fun _ => rfl⟩⟩, resK_app⟩
  refine acalls_wp Tryz.f64 [.tmp 2] 76 rfl rfl rfl rfl rfl rfl (by decide) (hex) fun B => ?_
  rw [wpC_assoc, wpC_assoc, wpC_assoc]
  refine wpC_cut (fun T h' => Pre h h' ∧ ∃ l' : List Spn, OwnS h h' 88 2 (T 3) (l'.map spnC) ∧ l'.Perm (goodS l) ∧ l'.Pairwise leS) ?_ ?_
  · simp only [go_sem, hx.rows, List.length_map]
    refine wp_loop_a (by decide) (fun m T h' => ∃ k : Nat, k ≤ l.length ∧ Pre h h' ∧ OwnS h h' 88 2 (T 3) ((goodS (l.take k)).map spnC) ∧ T 10 = x ∧ T 11 = i64 l.length ∧ T 12 = i64 k ∧ m = l.length - k) l.length
      ⟨0, by omega, Pre.refl, .inl ⟨by simp only [go_sem], rfl⟩, by simp only [go_sem], by simp only [go_sem], by (simp only [go_sem] <;> rfl), rfl⟩ ?_
    rintro m T h' ⟨k, hk, hp, ho, t10, t11, t12, rfl⟩
    simp only [go_sem, t11, t12]
    refine ways (fun e => ?_) (fun e => ?_)
    · have hlt := dlt e
      have hx' : SlOf h' x 2 (l.map spnC) := by
        obtain ⟨L, rfl, _⟩ := hp
        exact hx.app _
      have hee := hx'.at (i := k) (by simpa using hlt)
      have hrow : (l.map spnC)[k]? = some (spnC l[k]) := by rw [List.getElem?_map, List.getElem?_eq_getElem hlt]; rfl
      have hkl : (k : Int) < l.length := by omega
      have hstep := goodS_snoc (l.take k) l[k]
      rw [List.take_append_getElem hlt] at hstep
      obtain ⟨y, hy⟩ : ∃ y, y = l[k] := ⟨_, rfl⟩
      rw [← hy] at hrow hstep
      have fin : k + 1 ≤ l.length := by omega
      have hA : List.length (spnC y) = 2 := rfl
      simp only [go_sem, t10, t12, hee, hx'.rows, hrow, hkl, List.length_map, Int.toNat_natCast, Int.natCast_nonneg, max_if, min_if]
      refine ways (fun e2 => ?_) (fun e2 => ?_)
      · have e2 : (cleanS y).from_ < (cleanS y).to_ := by simpa [cleanS] using e2
        rw [if_pos e2] at hstep
        rcases ho with ⟨t3, hn⟩ | ⟨id, st, q1, t3, q3⟩
        · simp only [go_sem, t3, t12]
          refine ⟨l.length - (k + 1), by omega, k + 1, fin, hp.app (noRes_cons rfl (noRes_cons rfl (noRes1 rfl))), .inr ⟨_, _, by have := hp.len; omega, rfl, ?_⟩, t10, t11, t_succ (by omega) rfl, rfl⟩
          rw [hstep, List.map_append, hn, get_new rfl]
          rfl
        · have hrl : ((goodS (l.take k)).map spnC).length + 1 ≤ 1048576 := by
            have := goodS_len (l.take k)
            rw [List.length_take] at this
            rw [List.length_map]; omega
          have hrl : (((goodS (l.take k)).map spnC).length + 1) * 17 ≤ 140737488355328 := by omega
          have hg : ∀ M, (h' ++ M)[id]? = some (.row 88 2 ((goodS (l.take k)).map spnC) st) := fun M => get_app_old q3
          simp only [go_sem, t3, t12, hg, hrl]
          refine ⟨l.length - (k + 1), by omega, k + 1, fin, (hp.app (noRes_cons rfl (noRes1 rfl))).set q1 rfl, .inr ⟨id, st + 1, q1, rfl, ?_⟩, t10, t11, t_succ (by omega) rfl, rfl⟩
          rw [hstep, List.map_append]
          exact get_set_same (hg _)
      · have e2 : ¬ (cleanS y).from_ < (cleanS y).to_ := by simpa [cleanS] using e2
        rw [if_neg e2] at hstep
        simp only [go_sem, t12]
        exact ⟨l.length - (k + 1), by omega, k + 1, fin, hp.app (noRes1 rfl), by rw [hstep]; exact ho.app _, t10, t11, t_succ (by omega) rfl, rfl⟩
    · have hge := dnlt e
      have hk2 : k = l.length := by omega
      subst hk2
      rw [List.take_length] at ho
      rcases ho with ⟨t3, hn⟩ | ⟨id, st, q1, t3, q3⟩
      · simp only [go_sem, t3]
        refine call_by (c93z _ _) ?_
        rintro _ h4 ⟨rfl, e1⟩
        subst e1
        simp only [go_sem]
        exact ⟨hp, [], .inl ⟨t3, rfl⟩, by rw [show goodS l = [] by simpa using hn], .nil⟩
      · simp only [go_sem, t3]
        refine call_by (c93 _ id st (goodS l) q3 (by have := goodS_len l; omega)) ?_
        rintro _ h4 ⟨rfl, l', p1, p2, rfl⟩
        simp only [go_sem]
        exact ⟨hp.set q1 rfl, l', .inr ⟨id, st, q1, t3, get_set_same q3⟩, p1, p2⟩
  · rintro T h' ⟨hp, l', ho, hperm, hsort⟩
    have hnorm := merge_any hperm hsort
    have hlen : l'.length ≤ l.length := by rw [hperm.length_eq]; exact goodS_len l
    simp only [go_sem, ho.rows.rows, List.length_map]
    refine wp_loop_a (by decide) (fun m T' h' => ∃ (k : Nat) (out : List Spn), k ≤ l'.length ∧ Pre h h' ∧ OwnS h h' 88 2 (T 3) (l'.map spnC) ∧ OwnS h h' 88 2 (T' 6) (out.map spnC) ∧ (∀ i1 s1 i2 s2, T 3 = .tl i1 s1 → T' 6 = .tl i2 s2 → i1 ≠ i2) ∧ out.length ≤ k ∧ ((k = 0 ∧ out = [] ∧ T' 6 = .v (.slice none 0 0)) ∨ ∃ D c, out = D ++ [c] ∧ 0 < k ∧ mergeS l' = D ++ merge1 c (l'.drop k)) ∧ T' 35 = T 3 ∧ T' 36 = i64 l'.length ∧ T' 37 = i64 k ∧ m = l'.length - k) l'.length
      ⟨0, [], by omega, hp, ho, .inl ⟨by simp only [go_sem], rfl⟩, (fun _ _ _ _ _ q => by simp only [go_sem] at q), Nat.le_refl _, .inl ⟨rfl, rfl, by simp only [go_sem]⟩, by simp only [go_sem], by simp only [go_sem], by (simp only [go_sem] <;> rfl), rfl⟩ ?_
    obtain ⟨y, hy⟩ : ∃ y, y = T 3 := ⟨_, rfl⟩
    rw [← hy]
    clear ho hp
    rintro m T' h' ⟨k, out, hk, hp, ho, hu, hap, hol, hj, t35, t36, t37, rfl⟩
    simp only [go_sem, t36, t37]
    refine ways (fun e => ?_) (fun e => ?_)
    · have hlt := dlt e
      have hrow : (l'.map spnC)[k]? = some (spnC l'[k]) := by rw [List.getElem?_map, List.getElem?_eq_getElem hlt]; rfl
      have hdrop : l'.drop k = l'[k] :: l'.drop (k + 1) := List.drop_eq_getElem_cons hlt
      rcases ho with ⟨_, hn⟩ | ⟨id, st, q1, hyt, q3⟩
      · rw [List.map_eq_nil_iff] at hn
        rw [hn] at hlt; simp at hlt
      have hg : ∀ M, (h' ++ M)[id]? = some (.row 88 2 (l'.map spnC) st) := fun M => get_app_old q3
      have hkl : (k : Int) < l'.length := by omega
      obtain ⟨z, hz⟩ : ∃ z, z = l'[k] := ⟨_, rfl⟩
      rw [← hz] at hrow hdrop
      rcases hj with ⟨hk0, rfl, t6⟩ | ⟨D, c, rfl, hk0, hm⟩
      · simp only [go_sem, t35, hyt, t37, t6, q3, hg, hrow, hkl, List.length_map, Int.toNat_natCast, Int.natCast_nonneg]
        refine wp_draw rfl [] 0 [(0, 0, []), (1, 0, []), (2, 0, []), (3, 0, []), (5, 0, []), (6, 0, []), (7, 0, []), (4, 0, []), (8, 0, []), (9, 0, []), (10, 0, []), (11, 0, []), (12, 0, [])] rfl (by decide) (by decide) ?_
        have h00 : decide ((0 : Int) > 0) = false := rfl
        simp only [go_sem, t35, hyt, t37, t6, hg, h00]
        have hlen2 := hp.len
        have hid : id < h'.length := (List.getElem?_eq_some_iff.1 q3).1
        refine ⟨l'.length - (k + 1), by omega, k + 1, [z], by omega, hp.app (noRes_cons rfl (noRes_cons rfl (noRes1 rfl))), .inr ⟨id, st, q1, rfl, hg _⟩, .inr ⟨_, _, by omega, rfl, by rw [get_new rfl]; rfl⟩, (fun i1 s1 i2 s2 r1 r2 => ?_), by simp, .inr ⟨[], z, rfl, by omega, ?_⟩, t36, t_succ (by omega) rfl, rfl⟩
        · injection r1 with r1; injection r2 with r2; omega
        · rw [hk0, List.drop_zero] at hdrop
          rw [hdrop, hk0]
          rfl
      · have hn1 : wr (((D.length + 1 : Nat) : Int) - 1) = (D.length : Int) := by
          rw [wr_fit (by simp at hol; unfold Fit; omega)]; omega
        have hn0 : decide (((D.length + 1 : Nat) : Int) > 0) = true := by simp
        have hlo : ((D ++ [c]).map spnC).length = D.length + 1 := by simp
        have hro : ((D ++ [c]).map spnC)[D.length]? = some (spnC c) := by simp
        have hll : (D.length : Int) < ((D.length + 1 : Nat) : Int) := by omega
        obtain ⟨out, hout⟩ : ∃ out, out = (D ++ [c]).map spnC := ⟨_, rfl⟩
        rcases hu with ⟨_, hn⟩ | ⟨id2, st2, u1, hut, u3⟩
        · simp at hn
        have hne := hap _ _ _ _ hyt hut
        rw [← hout] at u3 hlo hro
        have hg2 : ∀ M, (h' ++ M)[id2]? = some (.row 88 2 out st2) := fun M => get_app_old u3
        simp only [go_sem, t35, hyt, t37, hut, q3, u3, hg, hg2, hrow, hkl, hlo, List.length_map, Int.toNat_natCast, Int.natCast_nonneg]
        refine wp_draw rfl [] 0 [(0, 0, []), (1, 0, []), (2, 0, []), (3, 0, []), (5, 0, []), (6, 0, []), (7, 0, []), (4, 0, []), (8, 0, []), (9, 0, []), (10, 0, []), (11, 0, []), (12, 0, [])] rfl (by decide) (by decide) ?_
        simp only [go_sem, hut, hg, hg2, hn0, hn1, hro, hlo, hll, Int.toNat_natCast, Int.natCast_nonneg]
        refine ways (fun e2 => ?_) (fun e2 => ?_)
        · have e2 : z.from_ ≤ c.to_ := by simpa using e2
          simp only [go_sem]
          refine wp_draw rfl [] 0 [(0, 0, []), (1, 0, []), (2, 0, []), (3, 0, []), (4, 0, []), (5, 0, []), (9, 0, []), (6, 0, []), (7, 0, []), (8, 0, []), (10, 0, []), (11, 0, []), (12, 0, []), (13, 0, []), (14, 0, [])] rfl (by decide) (by decide) ?_
          simp only [go_sem, hut, hg, hg2, hn1, hro, hlo, hll, Int.toNat_natCast, Int.natCast_nonneg, max_if, t37]
          obtain ⟨c2, hc2⟩ : ∃ c2 : Spn, c2 = ⟨c.from_, max c.to_ z.to_⟩ := ⟨_, rfl⟩
          have hset : out.set D.length [i64 c.from_, i64 (max c.to_ z.to_)] = (D ++ [c2]).map spnC := by
            rw [hout, hc2]; simp
          rw [hset]
          refine ⟨l'.length - (k + 1), by omega, k + 1, D ++ [c2], by omega, (hp.app (noRes1 rfl)).set u1 rfl, .inr ⟨id, st, q1, rfl, ?_⟩, .inr ⟨id2, st2, u1, rfl, get_set_same (hg2 _)⟩, (fun i1 s1 i2 s2 r1 r2 => hap i1 s1 i2 s2 (hyt.trans r1) (hut.trans r2)), by simp at hol ⊢; omega, .inr ⟨D, _, rfl, by omega, ?_⟩, by rw [t35, hyt], t36, t_succ (by omega) rfl, rfl⟩
          · rw [List.getElem?_set_ne (Ne.symm hne)]; exact hg _
          · rw [hm, hdrop, merge1, if_pos e2, hc2]
        · have e2 : ¬ z.from_ ≤ c.to_ := by simpa using e2
          have hrl : (out.length + 1) * 17 ≤ 140737488355328 := by rw [hlo]; simp at hol; omega
          simp only [go_sem, hut, hg, hg2, hrl, t37]
          have hset : out ++ [[i64 z.from_, i64 z.to_]] = ((D ++ [c]) ++ [z]).map spnC := by
            rw [hout]; simp
          rw [hset]
          refine ⟨l'.length - (k + 1), by omega, k + 1, (D ++ [c]) ++ [z], by omega, (hp.app (noRes_cons rfl (noRes1 rfl))).set u1 rfl, .inr ⟨id, st, q1, rfl, ?_⟩, .inr ⟨id2, st2 + 1, u1, rfl, get_set_same (hg2 _)⟩, (fun i1 s1 i2 s2 r1 r2 => ?_), by simp at hol ⊢; omega, .inr ⟨D ++ [c], z, rfl, by omega, ?_⟩, by rw [t35, hyt], t36, t_succ (by omega) rfl, rfl⟩
          · rw [List.getElem?_set_ne (Ne.symm hne)]; exact hg _
          · injection r1 with r1; injection r2 with r2; omega
          · rw [hm, hdrop, merge1, if_neg e2, List.append_assoc]
            rfl
    · have hge := dnlt e
      have hk2 : k = l'.length := by omega
      have hfin : out = mergeS l' := by
        rcases hj with ⟨h0, h1, _⟩ | ⟨D, c, h0, _, h1⟩
        · have : l' = [] := List.length_eq_zero_iff.1 (by omega)
          rw [h1, this]; rfl
        · rw [h1, h0, hk2, List.drop_length]; simp [merge1]
      subst hfin
      simp only [go_sem]
      obtain ⟨L, rfl, hN⟩ := hp
      exact ⟨T' 6, by simp only [go_sem], .inl ⟨L, rfl, hN, by rw [← hnorm]; exact hu.new (Nat.le_refl _)⟩⟩
end Go.Proofs.YtpdghiplnlhnfaaGreat.Ax

namespace Go.Proofs.YtpdghiplnlhnfaaGreat.Ax
set_option linter.unusedSimpArgs false
set_option linter.unusedVariables false
open Go Go.Proofs Go.RowKit Go.Lib
theorem calls96 (A : Option Addr) (n k : Nat) (hnk : n ≤ k) (w : World) : Calls Tryz.prog 103 #[.slice A n k] w fun e w' => (e = .returned (.slice A n n) ∧ w' = w) := by
  have h1 : (n : Int) ≤ (k : Int) := by omega
  have h2 : (0 : Int) ≤ (n : Int) := by omega
  go_enter Tryz.func103, Tryz.ntmps103
  go_wp2
  go_ret
  exact ⟨rfl, rfl⟩
theorem c96 (h : List Ob) (id st : Nat) (rows : List (List AV)) (ho : h[id]? = some (.row 88 2 rows st)) : ACalls Tryz.prog 103 [.tl id st] h fun r h' => r = .sl 2 rows ∧ h' = h.set id .gone := by
  refine ⟨by kernel_rfl, ⟨_, _, ⟨rfl, rfl⟩, resK_set ho rfl⟩, ?_⟩
  intro φ hu B w g vs hh hB hargs
  obtain ⟨v1, r1, rfl, h1, hr⟩ := hargs
  have hr : r1 = [] := hr
  subst hr
  obtain ⟨k1, k2⟩ := freeze_good hh hB (fill_live ho rfl)
  rw [← fill_set rfl] at k1 k2
  obtain ⟨A, k, rfl, hle, hrows⟩ := k2 _ h1
  refine (calls96 A rows.length k hle w).mono ?_
  rintro e w' ⟨rfl, rfl⟩
  exact ⟨_, _, _, _, rfl, ⟨rfl, rfl⟩, resK_set ho rfl, k1, A, rows.length, rfl, Nat.le_refl _, hrows⟩
theorem c96z : Pure Tryz.prog 103 [.v (.slice none 0 0)] (.v (.slice none 0 0)) := fun h => by
  refine ⟨by kernel_rfl, ⟨_, _, ⟨rfl, rfl⟩, .refl⟩, ?_⟩
  intro φ hu B w g vs hh hB hargs
  obtain ⟨v1, r1, rfl, h1, hr⟩ := hargs
  have hr : r1 = [] := hr
  subst hr
  have h1 : v1 = .slice none 0 0 := h1
  subst h1
  refine (calls96 none 0 0 (Nat.le_refl _) w).mono ?_
  rintro e w' ⟨rfl, rfl⟩
  exact ⟨_, _, _, _, rfl, ⟨rfl, rfl⟩, .refl, Good.refl hh hB, rfl⟩
end Go.Proofs.YtpdghiplnlhnfaaGreat.Ax
