/-
  A region that draws its order, where what is said of an operation may name the values of those that it leans on. No program in sight.
-/
import Derived.Test.YtjcngipaeoegcaaRound
namespace Go.Proofs.Ytjcngipaeoegcaa
open Go.RowKit

/-- What may be said of an operation's value: it may name the others' values, too. -/
abbrev SayR := (Nat → Value) → World → Value → Prop
def AllStableR : List SayR → Prop
  | [] => True
  | p :: l => (∀ u, Stable (p u)) ∧ AllStableR l
def saysR (l : List SayR) (i : Nat) : SayR := match l[i]? with | some p => p | none => fun _ _ _ => True
theorem saysR_mono : ∀ (l : List SayR), AllStableR l → ∀ i u w w' v, Ext w w' → saysR l i u w v → saysR l i u w' v
  | [], _, i, _, _, _, _, _, _ => by simp [saysR]
  | p :: l, h, 0, u, w, w', v, he, hp => h.1 u w w' v he hp
  | p :: l, h, i + 1, u, w, w', v, he, hp => by
    have := saysR_mono l h.2 i u w w' v he
    simp only [saysR, List.getElem?_cons_succ] at this hp ⊢
    exact this hp
def AllKeptR (f : Nat → Bool) (u : Nat → Value) (w w' : World) : Nat → List SayR → Prop
  | _, [] => True
  | i, p :: l => (f i = true → ∀ v, p u w v → p u w' v) ∧ AllKeptR f u w w' (i + 1) l
theorem saysR_kept {f : Nat → Bool} {u : Nat → Value} {w w' : World} : ∀ (l : List SayR) (k : Nat), AllKeptR f u w w' k l → ∀ i v, f (k + i) = true → saysR l i u w v → saysR l i u w' v
  | [], _, _, i, _, _, _ => by simp [saysR]
  | p :: l, k, h, 0, v, hf, hp => h.1 hf v hp
  | p :: l, k, h, i + 1, v, hf, hp => by
    have := saysR_kept l (k + 1) h.2 i v (by rwa [show k + 1 + i = k + (i + 1) from by omega])
    simp only [saysR, List.getElem?_cons_succ] at this hp ⊢
    exact this hp
/-- What is said of an operation names no values but of those that it leans on. -/
def Loc (ops : Array Oper) (i : Nat) (p : SayR) : Prop := ∀ u u' w v, (∀ j, (match ops[i]? with | some o => leans o j | none => false) = true → u j = u' j) → p u w v → p u' w v
def AllLoc (ops : Array Oper) : Nat → List SayR → Prop
  | _, [] => True
  | i, p :: l => Loc ops i p ∧ AllLoc ops (i + 1) l
theorem Loc.plain {ops : Array Oper} {i : Nat} (p : Say) : Loc ops i (fun _ => p) := fun _ _ _ _ _ h => h
theorem saysR_loc {ops : Array Oper} : ∀ (l : List SayR) (k : Nat), AllLoc ops k l → ∀ i u u' w v, (∀ j, (match ops[k + i]? with | some o => leans o j | none => false) = true → u j = u' j) → saysR l (0 + i) u w v → saysR l i u' w v
  | [], _, _, i, _, _, _, _, _, _ => by simp [saysR]
  | p :: l, k, h, 0, u, u', w, v, ha, hp => h.1 u u' w v ha hp
  | p :: l, k, h, i + 1, u, u', w, v, ha, hp => by
    have := saysR_loc l (k + 1) h.2 i u u' w v (by rwa [show k + 1 + i = k + (i + 1) from by omega])
    rw [Nat.zero_add] at this hp
    simp only [saysR, List.getElem?_cons_succ] at this hp ⊢
    exact this hp

section
variable {P : Program} {ops : Array Oper} {Q : Exit → Act → World → Prop}

/-- Operation i comes ahead of operation j. -/
def ahead (ops : Array Oper) : Nat → Nat → Nat → Bool
  | 0, _, _ => false
  | n + 1, j, i => match ops[j]? with | some o => o.after.toList.any fun e => Region.binds .any e && (e.on == i || ahead ops n e.on i) | none => false
theorem ahead_listed {listed : Array Bool} (hdown : ∀ j o, ops[j]? = some o → listed.getD j false = true → ∀ k, leans o k = true → listed.getD k false = true) : ∀ n j i, listed.getD j false = true → ahead ops n j i = true → listed.getD i false = true
  | 0, _, _, _, h => by cases h
  | n + 1, j, i, hj, h => by
    unfold ahead at h
    cases ho : ops[j]? with
    | none => rw [ho] at h; cases h
    | some o =>
      rw [ho] at h
      rw [List.any_eq_true] at h
      obtain ⟨e, he, hb⟩ := h
      rw [Bool.and_eq_true, Bool.or_eq_true] at hb
      have hl : listed.getD e.on false = true := hdown j o ho hj _ (by
        unfold leans
        rw [List.any_eq_true]
        exact ⟨e, he, by rw [hb.1]; simp⟩)
      rcases hb.2 with h2 | h2
      · have : e.on = i := by simpa using h2
        rw [← this]; exact hl
      · exact ahead_listed hdown n e.on i hl h2
theorem ahead_ready {listed : Array Bool} (hdown : ∀ j o, ops[j]? = some o → listed.getD j false = true → ∀ k, leans o k = true → listed.getD k false = true) {i : Nat} {o : Oper} (ho : ops[i]? = some o) (hd : ∀ j, leans o j = true → listed.getD j false = true) : ∀ n k, ahead ops n i k = true → listed.getD k false = true
  | 0, _, h => by cases h
  | n + 1, k, h => by
    unfold ahead at h
    rw [ho] at h
    rw [List.any_eq_true] at h
    obtain ⟨e, he, hb⟩ := h
    rw [Bool.and_eq_true, Bool.or_eq_true] at hb
    have hl : listed.getD e.on false = true := hd _ (by
      unfold leans
      rw [List.any_eq_true]
      exact ⟨e, he, by rw [hb.1]; simp⟩)
    rcases hb.2 with h2 | h2
    · have : e.on = k := by simpa using h2
      rw [← this]; exact hl
    · exact ahead_listed hdown n e.on k hl h2
/-- Operation j's value is still wanted behind operation i. -/
def wantedR (lo : Oper → Nat → Bool) (ops : Array Oper) (o1 i j : Nat) : Bool := j != i && !ahead ops 5 j i && (decide (o1 ≤ j) || (List.range ops.size).any fun k => k != i && !ahead ops 5 i k && (match ops[k]? with | some o => lo o j | none => false))
variable (P Q) in
/-- What is owed of one operation: it yields what is said of it; either memory has but grown (the first way on), or what is still wanted stands all the same (the second). -/
def StepR (lo : Oper → Nat → Bool) (ops : Array Oper) (t : Array Value) (F : (Nat → Value) → Array Value) (ds : List Deferred) (l : List SayR) (S : Nat → World → Prop) (o1 : Nat) (B : Nat) (w : World) (i : Nat) (o : Oper) : Prop :=
  ∀ (u : Nat → Value) (w1 : World) (K : Act → World → Prop), Below B w w1 → S i w1 → (∀ j, later ops i j = true → u j = t.getD (slotAt ops j) undef) → (∀ j, lo o j = true → saysR l j u w1 (u j)) → (∀ v w2, Ext w1 w2 → saysR l i u w2 v → K ((⟨F u, ds⟩ : Act).put o.dst v) w2) →
    (∀ v w2, Below B w1 w2 → AllKeptR (wantedR lo ops o1 i) u w1 w2 0 l → (∀ k, startG ops i k = true → S k w1 → S k w2) → saysR l i u w2 v → K ((⟨F u, ds⟩ : Act).put o.dst v) w2) →
    if Region.wanted o (yielded ops (F u)) = true then Oper.wp P o ⟨F u, ds⟩ w1 K Q else K ((⟨F u, ds⟩ : Act).put o.dst undef) w1
variable (P Q) in
def StepsR (lo : Oper → Nat → Bool) (ops : Array Oper) (t : Array Value) (F : (Nat → Value) → Array Value) (ds : List Deferred) (l : List SayR) (S : Nat → World → Prop) (o1 : Nat) (B : Nat) (w : World) : Nat → List Oper → Prop
  | _, [] => True
  | i, o :: rest => StepR P Q lo ops t F ds l S o1 B w i o ∧ StepsR lo ops t F ds l S o1 B w (i + 1) rest

theorem StepsR.get {lo : Oper → Nat → Bool} {t : Array Value} {F : (Nat → Value) → Array Value} {ds : List Deferred} {s : List SayR} {S : Nat → World → Prop} {o1 : Nat} {B : Nat} {w : World} : ∀ (l : List Oper) (i k : Nat) (o : Oper), StepsR P Q lo ops t F ds s S o1 B w i l → l[k]? = some o → StepR P Q lo ops t F ds s S o1 B w (i + k) o
  | [], _, _, _, _, h => by simp at h
  | x :: l, i, 0, o, h, hk => by simp at hk; subst hk; exact h.1
  | x :: l, i, k + 1, o, h, hk => by
    have := StepsR.get l (i + 1) k o h.2 (by simpa using hk)
    rwa [show i + 1 + k = i + (k + 1) from by omega] at this
theorem StepsR.cons {lo : Oper → Nat → Bool} {t : Array Value} {F : (Nat → Value) → Array Value} {ds : List Deferred} {s : List SayR} {S : Nat → World → Prop} {o1 : Nat} {B : Nat} {w : World} {i : Nat} {o : Oper} {rest : List Oper} (h : StepR P Q lo ops t F ds s S o1 B w i o)
    (hs : StepsR P Q lo ops t F ds s S o1 B w (i + 1) rest) : StepsR P Q lo ops t F ds s S o1 B w i (o :: rest) := ⟨h, hs⟩
theorem StepsR.nil {lo : Oper → Nat → Bool} {t : Array Value} {F : (Nat → Value) → Array Value} {ds : List Deferred} {s : List SayR} {S : Nat → World → Prop} {o1 : Nat} {B : Nat} {w : World} {i : Nat} : StepsR P Q lo ops t F ds s S o1 B w i [] := True.intro

theorem wpAny_region_rel (lo : Oper → Nat → Bool) (hlo : ∀ o j, lo o j = true → leans o j = true) (B : Nat) {t : Array Value} {ds : List Deferred} {w : World} (o1 : Nat) (hB : B ≤ w.heap.size) (hback : backward ops = true) (hap : apartB (slotsOf ops.toList) = true)
    (l : List SayR) (S : Nat → World → Prop) (mono : AllStableR l) (loc : AllLoc ops 0 l) (monoS : ∀ i w w', Ext w w' → S i w → S i w') (startS : ∀ i, S i w)
    {F : (Nat → Value) → Array Value} (hF : ∀ u, fill u 0 ops.toList t = F u)
    (steps : StepsR P Q lo ops t F ds l S o1 B w 0 ops.toList)
    (fin : ∀ u w', Below B w w' → (∀ i, o1 ≤ i → i < ops.size → saysR l i u w' (u i)) → Q .normal ⟨F u, ds⟩ w') : wpAny P .any ops Q ops.size (Array.replicate ops.size false) ⟨t, ds⟩ { w with drawn := w.drawn + 1 } := by
  have hsize : unlisted (Array.replicate ops.size false) ≤ ops.size := by
    unfold unlisted; simp
  have hset : ∀ (listed : Array Bool) (i j : Nat), (listed.setIfInBounds i true).getD j false = true → j = i ∨ listed.getD j false = true := by
    intro listed i j hj
    by_cases hji : j = i
    · exact .inl hji
    · right
      rw [Array.getD_eq_getD_getElem?, Array.getElem?_setIfInBounds, if_neg (fun e => hji e.symm)] at hj
      rw [Array.getD_eq_getD_getElem?]; exact hj
  refine wpAny_inv (fun listed a w1 => (listed.size = ops.size ∧ ∀ j o, ops[j]? = some o → listed.getD j false = true → ∀ k, leans o k = true → listed.getD k false = true) ∧ ∃ u, a = ⟨F u, ds⟩ ∧ Below B w w1 ∧ (∀ k, k < ops.size → listed.getD k false = false → S k w1) ∧ (∀ j o d, ops[j]? = some o → o.dst = some d → listed.getD j false = false → u j = t.getD d undef) ∧ ∀ i, listed.getD i false = true → CountsG lo ops o1 listed i → saysR l i u w1 (u i)) ?_ ?_ _ _ _ _ hsize ?_
  · rintro listed a w1 i ⟨⟨hs, hdown⟩, u, rfl, hext, hS, hU, hP⟩ hi
    obtain ⟨h1, o, ho, hd⟩ := ready_iff hi
    have hlt : i < ops.size := (Array.getElem?_eq_some_iff.1 ho).1
    have h1' : listed.getD i false = false := by
      rw [Array.getD_eq_getD_getElem?] at h1 ⊢
      rw [Array.getElem?_eq_getElem (by omega)] at h1 ⊢
      simpa using h1
    have ho' : ops.toList[i]? = some o := by rw [Array.getElem?_toList]; exact ho
    have hst := StepsR.get ops.toList 0 i o steps ho'
    rw [Nat.zero_add] at hst
    have hput : ∀ v, (⟨F u, ds⟩ : Act).put o.dst v = ⟨F (upd u i v), ds⟩ := by
      intro v
      have hfu := fill_upd u v ops.toList 0 i o t hap ho'
      rw [Nat.zero_add] at hfu
      rw [← hF, ← hF, hfu]
      cases o.dst <;> rfl
    have hdown' : ∀ j o, ops[j]? = some o → (listed.setIfInBounds i true).getD j false = true → ∀ k, leans o k = true → (listed.setIfInBounds i true).getD k false = true := by
      intro j oj hoj hj k hk
      have hkl : listed.getD k false = true := by
        rcases hset _ _ _ hj with rfl | hj
        · rw [ho] at hoj
          injection hoj with e
          subst e
          exact hd k hk
        · exact hdown j oj hoj hj k hk
      rw [Array.getD_eq_getD_getElem?, Array.getElem?_setIfInBounds]
      rw [Array.getD_eq_getD_getElem?] at hkl
      split
      · rename_i e
        subst e
        split
        · rfl
        · rename_i hn
          rw [Array.getElem?_eq_none (by omega)] at hkl
          exact hkl
      · exact hkl
    have hun : ∀ k, (listed.setIfInBounds i true).getD k false = false → k ≠ i ∧ listed.getD k false = false := by
      intro k hk
      have hki : k ≠ i := by
        rintro rfl
        rw [Array.getD_eq_getD_getElem?, Array.getElem?_setIfInBounds, if_pos rfl, if_pos (by omega)] at hk
        simp at hk
      refine ⟨hki, ?_⟩
      rw [Array.getD_eq_getD_getElem?, Array.getElem?_setIfInBounds, if_neg (fun e => hki e.symm)] at hk
      rw [Array.getD_eq_getD_getElem?]; exact hk
    have hsw : ∀ k, k < ops.size → (listed.setIfInBounds i true).getD k false = false → startG ops i k = true := by
      intro k _ hl
      obtain ⟨hki, hkl⟩ := hun k hl
      unfold startG
      have hle : leans o k = false := by
        cases h : leans o k with
        | false => rfl
        | true => rw [hd k h] at hkl; cases hkl
      rw [ho]
      simp [hki, hle]
    have hU' : ∀ v j o d, ops[j]? = some o → o.dst = some d → (listed.setIfInBounds i true).getD j false = false → upd u i v j = t.getD d undef := by
      intro v j oj d hoj hd hj
      have hji : j ≠ i := by
        rintro rfl
        rw [Array.getD_eq_getD_getElem?, Array.getElem?_setIfInBounds, if_pos rfl, if_pos (by omega)] at hj
        simp at hj
      unfold upd
      rw [if_neg hji]
      refine hU j oj d hoj hd ?_
      rw [Array.getD_eq_getD_getElem?, Array.getElem?_setIfInBounds, if_neg (fun e => hji e.symm)] at hj
      rw [Array.getD_eq_getD_getElem?]; exact hj
    have hstill : ∀ j, j ≠ i → listed.getD j false = true → CountsG lo ops o1 (listed.setIfInBounds i true) j → CountsG lo ops o1 listed j ∧ wantedR lo ops o1 i j = true := by
      intro j hji hjl hc
      have hfree : ahead ops 5 j i = false := by
        cases hle : ahead ops 5 j i with
        | false => rfl
        | true => rw [ahead_listed hdown 5 j i hjl hle] at h1'; cases h1'
      rcases hc with hc | ⟨k, ok, hk, hkl, hkd⟩
      · refine ⟨.inl hc, ?_⟩
        unfold wantedR
        simp [hji, hc, hfree]
      · have hklt : k < ops.size := (Array.getElem?_eq_some_iff.1 hk).1
        have hki : k ≠ i := by
          rintro rfl
          rw [Array.getD_eq_getD_getElem?, Array.getElem?_setIfInBounds, if_pos rfl, if_pos (by omega)] at hkl
          simp at hkl
        refine ⟨.inr ⟨k, ok, hk, ?_, hkd⟩, ?_⟩
        · rw [Array.getD_eq_getD_getElem?, Array.getElem?_setIfInBounds, if_neg (fun e => hki e.symm)] at hkl
          rw [Array.getD_eq_getD_getElem?]; exact hkl
        · have hkl' := (hun k hkl).2
          have hle : ahead ops 5 i k = false := by
            cases h : ahead ops 5 i k with
            | false => rfl
            | true => rw [ahead_ready hdown ho hd 5 k h] at hkl'; cases hkl'
          have hin : ((List.range ops.size).any fun k => k != i && !ahead ops 5 i k && (match ops[k]? with | some o => lo o j | none => false)) = true := by
            rw [List.any_eq_true]
            exact ⟨k, List.mem_range.2 hklt, by rw [hk]; simp [hki, hkd, hle]⟩
          unfold wantedR
          rw [hin]
          simp [hji, hfree]
    have hagree : ∀ j, listed.getD j false = true → j ≠ i → ∀ v k, (match ops[0 + j]? with | some o => leans o k | none => false) = true → u k = upd u i v k := by
      intro j hj _ v k hk
      rw [Nat.zero_add] at hk
      unfold upd
      rw [if_neg]
      rintro rfl
      cases hoj : ops[j]? with
      | none => rw [hoj] at hk; cases hk
      | some oj => rw [hoj] at hk; rw [hdown j oj hoj hj _ hk] at h1'; cases h1'
    have hagree' : ∀ v k, (match ops[0 + i]? with | some o => leans o k | none => false) = true → u k = upd u i v k := by
      intro v k hk
      rw [Nat.zero_add, ho] at hk
      unfold upd
      rw [if_neg]
      rintro rfl
      rw [hd _ hk] at h1'; cases h1'
    have := hst u w1 (fun a' w' => ((listed.setIfInBounds i true).size = ops.size ∧ ∀ j o, ops[j]? = some o → (listed.setIfInBounds i true).getD j false = true → ∀ k, leans o k = true → (listed.setIfInBounds i true).getD k false = true) ∧ ∃ u, a' = ⟨F u, ds⟩ ∧ Below B w w' ∧ (∀ k, k < ops.size → (listed.setIfInBounds i true).getD k false = false → S k w') ∧ (∀ j o d, ops[j]? = some o → o.dst = some d → (listed.setIfInBounds i true).getD j false = false → u j = t.getD d undef) ∧ ∀ j, (listed.setIfInBounds i true).getD j false = true → CountsG lo ops o1 (listed.setIfInBounds i true) j → saysR l j u w' (u j)) hext
      (hS i hlt h1')
      (fun j hj => by
        unfold later at hj
        unfold slotAt
        cases hoj : ops[j]? with
        | none => rw [hoj] at hj; cases hj
        | some oj =>
          rw [hoj] at hj
          simp only [Bool.and_eq_true] at hj
          cases hd : oj.dst with
          | none => rw [hd] at hj; cases hj.2
          | some d =>
            have hjl : listed.getD j false = false := by
              cases hl : listed.getD j false with
              | false => rfl
              | true => rw [hdown j oj hoj hl i hj.1] at h1'; cases h1'
            have := hU j oj d hoj hd hjl
            simpa [hd] using this)
      (fun j hj => hP j (hd j (hlo _ _ hj)) (.inr ⟨i, o, ho, h1', hj⟩))
      (fun v w2 h12 hv => by
        refine ⟨⟨by simpa using hs, hdown'⟩, upd u i v, hput v, hext.trans (h12.mono (Nat.le_trans hB hext.size)), fun k hk hl => monoS _ _ _ h12 (hS k hk (hun k hl).2), hU' v, fun j hj hc => ?_⟩
        by_cases hji : j = i
        · subst hji
          have h8 := saysR_loc l 0 loc j u (upd u j v) w2 v (hagree' v) (by rw [Nat.zero_add]; exact hv)
          simpa [upd] using h8
        · have hl := (hset _ _ _ hj).resolve_left hji
          obtain ⟨hc1, _⟩ := hstill j hji hl hc
          have h9 := saysR_mono l mono j u w1 w2 _ h12 (hP j hl hc1)
          have h8 := saysR_loc l 0 loc j u (upd u i v) w2 (u j) (hagree j hl hji v) (by rw [Nat.zero_add]; exact h9)
          simpa [upd, hji] using h8)
      (fun v w2 h12 hk hkS hv => by
        refine ⟨⟨by simpa using hs, hdown'⟩, upd u i v, hput v, hext.trans h12, fun k hk hl => hkS k (hsw k hk hl) (hS k hk (hun k hl).2), hU' v, fun j hj hc => ?_⟩
        by_cases hji : j = i
        · subst hji
          have h8 := saysR_loc l 0 loc j u (upd u j v) w2 v (hagree' v) (by rw [Nat.zero_add]; exact hv)
          simpa [upd] using h8
        · have hl := (hset _ _ _ hj).resolve_left hji
          obtain ⟨hc1, hw⟩ := hstill j hji hl hc
          have h9 := saysR_kept l 0 hk j _ (by rw [Nat.zero_add]; exact hw) (hP j hl hc1)
          have h8 := saysR_loc l 0 loc j u (upd u i v) w2 (u j) (hagree j hl hji v) (by rw [Nat.zero_add]; exact h9)
          simpa [upd, hji] using h8)
    unfold wpOp
    rw [ho]
    simp only
    split
    · rename_i hw; rw [if_pos hw] at this; exact .inl this
    · rename_i hw; rw [if_neg hw] at this; exact this
  · rintro listed a w1 ⟨⟨hs, _⟩, u, rfl, hext, _, _, hP⟩ hr
    exact fin u w1 hext fun i h1 h2 => hP i (all_listed hback hs hr i h2) (.inl h1)
  · refine ⟨⟨by simp, fun j o _ hj => by
      rw [Array.getD_eq_getD_getElem?, Array.getElem?_replicate] at hj
      split at hj <;> simp at hj⟩, fun i => match ops[i]? with | some o => (match o.dst with | some d => t.getD d undef | none => undef) | none => undef, ?_, (Below.refl _ _).drew, fun k _ _ => monoS k _ _ (Ext.drew' w) (startS k), fun j o d hoj hd _ => by simp [hoj, hd], fun i hi => ?_⟩
    · rw [← hF]
      congr 1
      symm
      apply fill_own
      intro k o d hk ho
      rw [Array.getElem?_toList] at hk
      simp [hk, ho]
    · rw [Array.getD_eq_getD_getElem?, Array.getElem?_replicate] at hi
      split at hi <;> simp at hi
theorem wp_region_rel (B : Nat) {id : Nat} {t : Array Value} {ds : List Deferred} {w : World} (o1 : Nat) (hB : B ≤ w.heap.size) (hm : P.follows .mixedOrders = true) (hback : backward ops = true) (hap : apartB (slotsOf ops.toList) = true)
    (s : List SayR) (S : Nat → World → Prop) (mono : AllStableR s) (loc : AllLoc ops 0 s) (monoS : ∀ i w w', Ext w w' → S i w → S i w') (startS : ∀ i, S i w)
    {F : (Nat → Value) → Array Value} (hF : ∀ u, fill u 0 ops.toList t = F u)
    (steps : StepsR P Q (leansToo ops) ops t F ds s S o1 B w 0 ops.toList)
    (fin : ∀ u w', Below B w w' → (∀ i, o1 ≤ i → i < ops.size → saysR s i u w' (u i)) → Q .normal ⟨F u, ds⟩ w') : (Code.region id ops true).wp P Q ⟨t, ds⟩ w :=
  wp_region_any hm (wpAny_region_rel (leansToo ops) (fun _ _ h => leansToo_of h) B o1 hB hback hap s S mono loc monoS startS hF steps fin)
end
end Go.Proofs.Ytjcngipaeoegcaa
