/-
  A region that draws its order, within a round of a range over a function, by the plain law. No program in sight.
-/
import Derived.Test.YtjcngipaeoegcaaReg
import Derived.OrdersIn
import Derived.RangeFuncCalls
import Derived.Scope
import Derived.RangeFuncNested
namespace Go.Proofs.Ytjcngipaeoegcaa
open Go.RowKit

section
variable {P : Program} {ops : Array Oper} {Q : Exit → Act → World → Prop}

/-- A store that was carried out may be leaned on too. -/
def leansToo (ops : Array Oper) (o : Oper) (j : Nat) : Bool := leansOn o j || (leans o j && (match ops[j]? with | some p => p.dst.isNone | none => false))
theorem leansToo_of {o : Oper} {j : Nat} (h : leansToo ops o j = true) : leans o j = true := by
  unfold leansToo at h
  rw [Bool.or_eq_true, Bool.and_eq_true] at h
  exact h.elim leans_of (·.1)
/-- Operation j's value is still wanted behind operation i. -/
def wantedG (lo : Oper → Nat → Bool) (ops : Array Oper) (o1 i j : Nat) : Bool := j != i && (match ops[j]? with | some o => !leans o i | none => true) && (decide (o1 ≤ j) || (List.range ops.size).any fun k => k != i && (match ops[i]? with | some o => !leans o k | none => true) && (match ops[k]? with | some o => lo o j | none => false))
/-- The beginning's fact for operation k is still wanted behind operation i. -/
def startG (ops : Array Oper) (i k : Nat) : Bool := k != i && (match ops[i]? with | some o => !leans o k | none => true)

variable (P Q) in
/-- What is owed of one operation: it yields what is said of it; either memory has but grown (the first way on), or what is still wanted stands all the same (the second). -/
def StepG (lo : Oper → Nat → Bool) (ops : Array Oper) (t : Array Value) (F : (Nat → Value) → Array Value) (ds : List Deferred) (l : List Say) (S : Nat → World → Prop) (o1 : Nat) (B : Nat) (w : World) (i : Nat) (o : Oper) : Prop :=
  ∀ (u : Nat → Value) (w1 : World) (K : Act → World → Prop), Below B w w1 → S i w1 → (∀ j, later ops i j = true → u j = t.getD (slotAt ops j) undef) → (∀ j, lo o j = true → says l j w1 (u j)) → (∀ v w2, Ext w1 w2 → says l i w2 v → K ((⟨F u, ds⟩ : Act).put o.dst v) w2) →
    (∀ v w2, Below B w1 w2 → AllKept (wantedG lo ops o1 i) w1 w2 0 l → (∀ k, startG ops i k = true → S k w1 → S k w2) → says l i w2 v → K ((⟨F u, ds⟩ : Act).put o.dst v) w2) →
    if Region.wanted o (yielded ops (F u)) = true then Oper.wp P o ⟨F u, ds⟩ w1 K Q else K ((⟨F u, ds⟩ : Act).put o.dst undef) w1
variable (P Q) in
def StepsG (lo : Oper → Nat → Bool) (ops : Array Oper) (t : Array Value) (F : (Nat → Value) → Array Value) (ds : List Deferred) (l : List Say) (S : Nat → World → Prop) (o1 : Nat) (B : Nat) (w : World) : Nat → List Oper → Prop
  | _, [] => True
  | i, o :: rest => StepG P Q lo ops t F ds l S o1 B w i o ∧ StepsG lo ops t F ds l S o1 B w (i + 1) rest

theorem StepsG.get {lo : Oper → Nat → Bool} {t : Array Value} {F : (Nat → Value) → Array Value} {ds : List Deferred} {s : List Say} {S : Nat → World → Prop} {o1 : Nat} {B : Nat} {w : World} : ∀ (l : List Oper) (i k : Nat) (o : Oper), StepsG P Q lo ops t F ds s S o1 B w i l → l[k]? = some o → StepG P Q lo ops t F ds s S o1 B w (i + k) o
  | [], _, _, _, _, h => by simp at h
  | x :: l, i, 0, o, h, hk => by simp at hk; subst hk; exact h.1
  | x :: l, i, k + 1, o, h, hk => by
    have := StepsG.get l (i + 1) k o h.2 (by simpa using hk)
    rwa [show i + 1 + k = i + (k + 1) from by omega] at this
theorem StepsG.cons {lo : Oper → Nat → Bool} {t : Array Value} {F : (Nat → Value) → Array Value} {ds : List Deferred} {s : List Say} {S : Nat → World → Prop} {o1 : Nat} {B : Nat} {w : World} {i : Nat} {o : Oper} {rest : List Oper} (h : StepG P Q lo ops t F ds s S o1 B w i o)
    (hs : StepsG P Q lo ops t F ds s S o1 B w (i + 1) rest) : StepsG P Q lo ops t F ds s S o1 B w i (o :: rest) := ⟨h, hs⟩
theorem StepsG.nil {lo : Oper → Nat → Bool} {t : Array Value} {F : (Nat → Value) → Array Value} {ds : List Deferred} {s : List Say} {S : Nat → World → Prop} {o1 : Nat} {B : Nat} {w : World} {i : Nat} : StepsG P Q lo ops t F ds s S o1 B w i [] := True.intro

/-- What is said of i still counts: it is the last, or an operation that leans on it has not come up. -/
def CountsG (lo : Oper → Nat → Bool) (ops : Array Oper) (o1 : Nat) (listed : Array Bool) (i : Nat) : Prop := o1 ≤ i ∨ ∃ k o, ops[k]? = some o ∧ listed.getD k false = false ∧ lo o i = true

theorem wpAny_region_gen (lo : Oper → Nat → Bool) (hlo : ∀ o j, lo o j = true → leans o j = true) (B : Nat) {t : Array Value} {ds : List Deferred} {w : World} (o1 : Nat) (hB : B ≤ w.heap.size) (hback : backward ops = true) (hap : apartB (slotsOf ops.toList) = true)
    (l : List Say) (S : Nat → World → Prop) (mono : AllStable l) (monoS : ∀ i w w', Ext w w' → S i w → S i w') (startS : ∀ i, S i w)
    {F : (Nat → Value) → Array Value} (hF : ∀ u, fill u 0 ops.toList t = F u)
    (steps : StepsG P Q lo ops t F ds l S o1 B w 0 ops.toList)
    (fin : ∀ u w', Below B w w' → (∀ i, o1 ≤ i → i < ops.size → says l i w' (u i)) → Q .normal ⟨F u, ds⟩ w') : wpAny P .any ops Q ops.size (Array.replicate ops.size false) ⟨t, ds⟩ { w with drawn := w.drawn + 1 } := by
  have hsize : unlisted (Array.replicate ops.size false) ≤ ops.size := by
    unfold unlisted; simp
  have hset : ∀ (listed : Array Bool) (i j : Nat), (listed.setIfInBounds i true).getD j false = true → j = i ∨ listed.getD j false = true := by
    intro listed i j hj
    by_cases hji : j = i
    · exact .inl hji
    · right
      rw [Array.getD_eq_getD_getElem?, Array.getElem?_setIfInBounds, if_neg (fun e => hji e.symm)] at hj
      rw [Array.getD_eq_getD_getElem?]; exact hj
  refine wpAny_inv (fun listed a w1 => (listed.size = ops.size ∧ ∀ j o, ops[j]? = some o → listed.getD j false = true → ∀ k, leans o k = true → listed.getD k false = true) ∧ ∃ u, a = ⟨F u, ds⟩ ∧ Below B w w1 ∧ (∀ k, k < ops.size → listed.getD k false = false → S k w1) ∧ (∀ j o d, ops[j]? = some o → o.dst = some d → listed.getD j false = false → u j = t.getD d undef) ∧ ∀ i, listed.getD i false = true → CountsG lo ops o1 listed i → says l i w1 (u i)) ?_ ?_ _ _ _ _ hsize ?_
  · rintro listed a w1 i ⟨⟨hs, hdown⟩, u, rfl, hext, hS, hU, hP⟩ hi
    obtain ⟨h1, o, ho, hd⟩ := ready_iff hi
    have hlt : i < ops.size := (Array.getElem?_eq_some_iff.1 ho).1
    have h1' : listed.getD i false = false := by
      rw [Array.getD_eq_getD_getElem?] at h1 ⊢
      rw [Array.getElem?_eq_getElem (by omega)] at h1 ⊢
      simpa using h1
    have ho' : ops.toList[i]? = some o := by rw [Array.getElem?_toList]; exact ho
    have hst := StepsG.get ops.toList 0 i o steps ho'
    rw [Nat.zero_add] at hst
    have hput : ∀ v, (⟨F u, ds⟩ : Act).put o.dst v = ⟨F (upd u i v), ds⟩ := by
      intro v
      have hfu := fill_upd u v ops.toList 0 i o t hap ho'
      rw [Nat.zero_add] at hfu
      rw [← hF, ← hF, hfu]
      cases o.dst <;> rfl
    have hdown' : ∀ j o, ops[j]? = some o → (listed.setIfInBounds i true).getD j false = true → ∀ k, leans o k = true → (listed.setIfInBounds i true).getD k false = true := by
      intro j oj hoj hj k hk
      have hkl : listed.getD k false = true := by
        rcases hset _ _ _ hj with rfl | hj
        · rw [ho] at hoj
          injection hoj with e
          subst e
          exact hd k hk
        · exact hdown j oj hoj hj k hk
      rw [Array.getD_eq_getD_getElem?, Array.getElem?_setIfInBounds]
      rw [Array.getD_eq_getD_getElem?] at hkl
      split
      · rename_i e
        subst e
        split
        · rfl
        · rename_i hn
          rw [Array.getElem?_eq_none (by omega)] at hkl
          exact hkl
      · exact hkl
    have hun : ∀ k, (listed.setIfInBounds i true).getD k false = false → k ≠ i ∧ listed.getD k false = false := by
      intro k hk
      have hki : k ≠ i := by
        rintro rfl
        rw [Array.getD_eq_getD_getElem?, Array.getElem?_setIfInBounds, if_pos rfl, if_pos (by omega)] at hk
        simp at hk
      refine ⟨hki, ?_⟩
      rw [Array.getD_eq_getD_getElem?, Array.getElem?_setIfInBounds, if_neg (fun e => hki e.symm)] at hk
      rw [Array.getD_eq_getD_getElem?]; exact hk
    have hsw : ∀ k, k < ops.size → (listed.setIfInBounds i true).getD k false = false → startG ops i k = true := by
      intro k _ hl
      obtain ⟨hki, hkl⟩ := hun k hl
      unfold startG
      have hle : leans o k = false := by
        cases h : leans o k with
        | false => rfl
        | true => rw [hd k h] at hkl; cases hkl
      rw [ho]
      simp [hki, hle]
    have hU' : ∀ v j o d, ops[j]? = some o → o.dst = some d → (listed.setIfInBounds i true).getD j false = false → upd u i v j = t.getD d undef := by
      intro v j oj d hoj hd hj
      have hji : j ≠ i := by
        rintro rfl
        rw [Array.getD_eq_getD_getElem?, Array.getElem?_setIfInBounds, if_pos rfl, if_pos (by omega)] at hj
        simp at hj
      unfold upd
      rw [if_neg hji]
      refine hU j oj d hoj hd ?_
      rw [Array.getD_eq_getD_getElem?, Array.getElem?_setIfInBounds, if_neg (fun e => hji e.symm)] at hj
      rw [Array.getD_eq_getD_getElem?]; exact hj
    have hstill : ∀ j, j ≠ i → listed.getD j false = true → CountsG lo ops o1 (listed.setIfInBounds i true) j → CountsG lo ops o1 listed j ∧ wantedG lo ops o1 i j = true := by
      intro j hji hjl hc
      have hfree : (match ops[j]? with | some o => !leans o i | none => true) = true := by
        cases hoj : ops[j]? with
        | none => rfl
        | some oj =>
          have hl : leans oj i = false := by
            cases hle : leans oj i with
            | false => rfl
            | true => rw [hdown j oj hoj hjl i hle] at h1'; cases h1'
          simp [hl]
      rcases hc with hc | ⟨k, ok, hk, hkl, hkd⟩
      · refine ⟨.inl hc, ?_⟩
        unfold wantedG
        rw [hfree]
        simp [hji, hc]
      · have hklt : k < ops.size := (Array.getElem?_eq_some_iff.1 hk).1
        have hki : k ≠ i := by
          rintro rfl
          rw [Array.getD_eq_getD_getElem?, Array.getElem?_setIfInBounds, if_pos rfl, if_pos (by omega)] at hkl
          simp at hkl
        refine ⟨.inr ⟨k, ok, hk, ?_, hkd⟩, ?_⟩
        · rw [Array.getD_eq_getD_getElem?, Array.getElem?_setIfInBounds, if_neg (fun e => hki e.symm)] at hkl
          rw [Array.getD_eq_getD_getElem?]; exact hkl
        · unfold wantedG
          rw [hfree, Bool.and_eq_true, Bool.and_eq_true, Bool.or_eq_true]
          refine ⟨⟨by simpa using hji, rfl⟩, .inr ?_⟩
          rw [List.any_eq_true]
          have hkl' := (hun k hkl).2
          have hle : leans o k = false := by
            cases h : leans o k with
            | false => rfl
            | true => rw [hd k h] at hkl'; cases hkl'
          exact ⟨k, List.mem_range.2 hklt, by rw [hk, ho]; simp [hki, hkd, hle]⟩
    have := hst u w1 (fun a' w' => ((listed.setIfInBounds i true).size = ops.size ∧ ∀ j o, ops[j]? = some o → (listed.setIfInBounds i true).getD j false = true → ∀ k, leans o k = true → (listed.setIfInBounds i true).getD k false = true) ∧ ∃ u, a' = ⟨F u, ds⟩ ∧ Below B w w' ∧ (∀ k, k < ops.size → (listed.setIfInBounds i true).getD k false = false → S k w') ∧ (∀ j o d, ops[j]? = some o → o.dst = some d → (listed.setIfInBounds i true).getD j false = false → u j = t.getD d undef) ∧ ∀ j, (listed.setIfInBounds i true).getD j false = true → CountsG lo ops o1 (listed.setIfInBounds i true) j → says l j w' (u j)) hext
      (hS i hlt h1')
      (fun j hj => by
        unfold later at hj
        unfold slotAt
        cases hoj : ops[j]? with
        | none => rw [hoj] at hj; cases hj
        | some oj =>
          rw [hoj] at hj
          simp only [Bool.and_eq_true] at hj
          cases hd : oj.dst with
          | none => rw [hd] at hj; cases hj.2
          | some d =>
            have hjl : listed.getD j false = false := by
              cases hl : listed.getD j false with
              | false => rfl
              | true => rw [hdown j oj hoj hl i hj.1] at h1'; cases h1'
            have := hU j oj d hoj hd hjl
            simpa [hd] using this)
      (fun j hj => hP j (hd j (hlo _ _ hj)) (.inr ⟨i, o, ho, h1', hj⟩))
      (fun v w2 h12 hv => by
        refine ⟨⟨by simpa using hs, hdown'⟩, upd u i v, hput v, hext.trans (h12.mono (Nat.le_trans hB hext.size)), fun k hk hl => monoS _ _ _ h12 (hS k hk (hun k hl).2), hU' v, fun j hj hc => ?_⟩
        by_cases hji : j = i
        · subst hji; simpa [upd] using hv
        · have hl := (hset _ _ _ hj).resolve_left hji
          obtain ⟨hc1, _⟩ := hstill j hji hl hc
          simpa [upd, hji] using says_mono l mono j w1 w2 _ h12 (hP j hl hc1))
      (fun v w2 h12 hk hkS hv => by
        refine ⟨⟨by simpa using hs, hdown'⟩, upd u i v, hput v, hext.trans h12, fun k hk hl => hkS k (hsw k hk hl) (hS k hk (hun k hl).2), hU' v, fun j hj hc => ?_⟩
        by_cases hji : j = i
        · subst hji; simpa [upd] using hv
        · have hl := (hset _ _ _ hj).resolve_left hji
          obtain ⟨hc1, hw⟩ := hstill j hji hl hc
          simpa [upd, hji] using says_kept l 0 hk j _ (by rw [Nat.zero_add]; exact hw) (hP j hl hc1))
    unfold wpOp
    rw [ho]
    simp only
    split
    · rename_i hw; rw [if_pos hw] at this; exact .inl this
    · rename_i hw; rw [if_neg hw] at this; exact this
  · rintro listed a w1 ⟨⟨hs, _⟩, u, rfl, hext, _, _, hP⟩ hr
    exact fin u w1 hext fun i h1 h2 => hP i (all_listed hback hs hr i h2) (.inl h1)
  · refine ⟨⟨by simp, fun j o _ hj => by
      rw [Array.getD_eq_getD_getElem?, Array.getElem?_replicate] at hj
      split at hj <;> simp at hj⟩, fun i => match ops[i]? with | some o => (match o.dst with | some d => t.getD d undef | none => undef) | none => undef, ?_, (Below.refl _ _).drew, fun k _ _ => monoS k _ _ (Ext.drew' w) (startS k), fun j o d hoj hd _ => by simp [hoj, hd], fun i hi => ?_⟩
    · rw [← hF]
      congr 1
      symm
      apply fill_own
      intro k o d hk ho
      rw [Array.getElem?_toList] at hk
      simp [hk, ho]
    · rw [Array.getD_eq_getD_getElem?, Array.getElem?_replicate] at hi
      split at hi <;> simp at hi
theorem oper_round (l n : Nat) {o : Oper} {a : Act} {w : World} {K : Act → World → Prop} (hd : ∀ c, o.op ≠ .defer c) (h : o.wp P a w K Q) : o.wpIn (Fence.wide.inRound l) n P a w K Q := by
  unfold Oper.wp at h
  unfold Oper.wpIn
  refine ⟨fun _ _ => trivial, ?_⟩
  rw [Oper.semAt_eq _ _ _ hd]
  generalize (execOp a.eval o).run P w = r at h ⊢
  have hrows : ∀ row args w' (R : Value → World → Prop), Rows P row args w' R → RowsIn (Fence.wide.inRound l) (n - 1) P row args w' R := fun row args w' R h c cs _ => by
    obtain ⟨v, w2, hr, hs⟩ := h c cs
    exact ⟨v, w2, hr, stepsIn_wide.2 hs⟩
  cases r with
  | ok x w' =>
    cases x <;> first | exact h | exact h.elim | exact ⟨fun hn => (by cases hn), CallsIn.inRound l (callsIn_wide.2 h)⟩ | exact ⟨fun hn => (by cases hn), hrows _ _ _ _ h⟩
  | halt x w' =>
    cases x <;> first | exact h | exact h.elim

def noDefer (ops : Array Oper) : Bool := ops.toList.all fun o => match o.op with | .defer _ => false | _ => true
theorem noDefer_at (h : noDefer ops = true) {i : Nat} {o : Oper} (ho : ops[i]? = some o) : ∀ c, o.op ≠ .defer c := by
  intro c hc
  unfold noDefer at h
  rw [List.all_eq_true] at h
  have := h o (by rw [← Array.getElem?_toList] at ho; exact List.mem_of_getElem? ho)
  rw [hc] at this
  cases this

theorem wpOp_round (l n : Nat) (hq : ¬ LetsOut Q) (hn : noDefer ops = true) {i : Nat} {a : Act} {w : World} {K : Act → World → Prop} (h : wpOp P ops Q i K a w) : wpOpIn (Fence.wide.inRound l) n P ops Q i K a w := by
  unfold wpOp at h
  unfold wpOpIn
  cases ho : ops[i]? with
  | none => rw [ho] at h; exact h
  | some o =>
    rw [ho] at h
    simp only at h ⊢
    split
    · rename_i hw
      rw [if_pos hw] at h
      rcases h with h | ⟨_, h⟩
      · exact oper_round l n (noDefer_at hn ho) h
      · exact absurd h hq
    · rename_i hw
      rw [if_neg hw] at h
      exact ⟨fun _ _ => trivial, h⟩

theorem wpAny_round (l n : Nat) (hq : ¬ LetsOut Q) (hn : noDefer ops = true) : ∀ (fuel : Nat) (listed : Array Bool) (a : Act) (w : World), wpAny P .any ops Q fuel listed a w → wpAnyIn (Fence.wide.inRound l) n P .any ops Q fuel listed a w
  | 0, _, _, _, h => h
  | fuel + 1, _, _, _, h => ⟨h.1, fun i hi => wpOp_round l n hq hn (wpOp_mono (fun a' w' h' => wpAny_round l n hq hn fuel _ a' w' h') (h.2 i hi))⟩

theorem wpIn_round_region_gen (l n : Nat) (B : Nat) {id : Nat} {t : Array Value} {ds : List Deferred} {w : World} (o1 : Nat) (hB : B ≤ w.heap.size) (hm : P.follows .mixedOrders = true) (hback : backward ops = true) (hap : apartB (slotsOf ops.toList) = true) (hnd : noDefer ops = true) (hq : ¬ LetsOut Q)
    (s : List Say) (S : Nat → World → Prop) (mono : AllStable s) (monoS : ∀ i w w', Ext w w' → S i w → S i w') (startS : ∀ i, S i w)
    {F : (Nat → Value) → Array Value} (hF : ∀ u, fill u 0 ops.toList t = F u)
    (steps : StepsG P Q (leansToo ops) ops t F ds s S o1 B w 0 ops.toList)
    (fin : ∀ u w', Below B w w' → (∀ i, o1 ≤ i → i < ops.size → says s i w' (u i)) → Q .normal ⟨F u, ds⟩ w') : (Code.region id ops true).wpIn (Fence.wide.inRound l) n P Q ⟨t, ds⟩ w :=
  wpIn_region_any hm (wpAny_round l n hq hnd _ _ _ _ (wpAny_region_gen (leansToo ops) (fun _ _ h => leansToo_of h) B o1 hB hback hap s S mono monoS startS hF steps fin))
theorem wp_region_gen (B : Nat) {id : Nat} {t : Array Value} {ds : List Deferred} {w : World} (o1 : Nat) (hB : B ≤ w.heap.size) (hm : P.follows .mixedOrders = true) (hback : backward ops = true) (hap : apartB (slotsOf ops.toList) = true)
    (s : List Say) (S : Nat → World → Prop) (mono : AllStable s) (monoS : ∀ i w w', Ext w w' → S i w → S i w') (startS : ∀ i, S i w)
    {F : (Nat → Value) → Array Value} (hF : ∀ u, fill u 0 ops.toList t = F u)
    (steps : StepsG P Q (leansToo ops) ops t F ds s S o1 B w 0 ops.toList)
    (fin : ∀ u w', Below B w w' → (∀ i, o1 ≤ i → i < ops.size → says s i w' (u i)) → Q .normal ⟨F u, ds⟩ w') : (Code.region id ops true).wp P Q ⟨t, ds⟩ w :=
  wp_region_any hm (wpAny_region_gen (leansToo ops) (fun _ _ h => leansToo_of h) B o1 hB hback hap s S mono monoS startS hF steps fin)

section
variable {b : Frame} {a : Act} {k : List Item} {cs : List Frame} {w : World}
theorem stepR_scope {c : Code} : step P (lone (b.atR a (.code (.scope c) :: k)) cs w) = .next (lone (b.atR a (.code c :: .inScope c :: k)) cs w) :=
  step_lone_go (by simp [stepG, stepG.exec, Frame.atR])
theorem stepR_inScope {c : Code} : step P (lone (b.atR a (.inScope c :: k)) cs w) = .next (lone (b.atR a k) cs w) :=
  step_lone_go (by simp [stepG, stepG.exec, Frame.atR])
/-- A part with labels that no goto leaves, inside a fence. -/
theorem wpIn_scope_straight {F : Fence} {n : Nat} {c : Code} (h : c.wpIn F n P (Exit.noGoto Q) a w) : (Code.scope c).wpIn F n P Q a w := by
  intro b k cs hro hb hr
  have h0 : (lone (b.atR a (.code (.scope c) :: k)) cs w).fenced P F := fenced_calm hb hr rfl
  obtain ⟨e, a₁, w₁, hq, harr⟩ := h b (.inScope c :: k) cs hro hb hr
  cases e with
  | normal => exact ⟨.normal, a₁, w₁, hq, .head h0 stepR_scope (StepsIn.trans harr (.one (fenced_calm hb hr rfl) stepR_inScope))⟩
  | exit id =>
    have hx : exitTo id (.inScope c :: k) = exitTo id k := by simp [exitTo]
    exact ⟨.exit id, a₁, w₁, hq, fun k' hk => .head h0 stepR_scope (harr.1 k' (by rw [hx]; exact hk)),
      fun hr' hk => let ⟨k₁, h1, h2⟩ := harr.2 hr' (by rw [hx]; exact hk); ⟨k₁, h1, .head h0 stepR_scope h2⟩⟩
  | goto l => exact hq.elim
  | ret => exact ⟨_, a₁, w₁, hq, .of_steps (.one h0 stepR_scope) harr⟩
  | panic ch => exact ⟨_, a₁, w₁, hq, .of_steps (.one h0 stepR_scope) harr⟩
  | outgrown => exact ⟨_, a₁, w₁, hq, .of_steps (.one h0 stepR_scope) harr⟩
end

/-- A range over a function that ranges to its end: what is owed is the run of that function, with yield handed to it. -/
theorem range_enter {g : Operand} {ps : Array Tmp} {assign body : Code} {Q : Exit → Act → World → Prop} {a : Act} {w : World} {n gf : Nat} {lb : Array Value}
    (hg : a.eval g = .func (.func gf) #[] lb) (eg : ∀ args w, (callFunc gf args).run P w = .ok (.enter gf args) w)
    (h : ∀ (fn : FuncId) (rec : LoopState → Option Code → Loop), rec = (fun st pe => { state := st, pending := pe, fn, tmps := a.tmps, params := ps, assign, body, defers := w.heap.size }) →
      CallsIn Fence.wide (n - 1) P gf (#[.func (.yield (w.heap.size + 1)) #[] #[]] ++ lb) ((w.alloc (.deferred (some []))).alloc (.loop (rec .ready none))) fun e W' => (∃ v, e = .returned v) ∧
        W'.heap[w.heap.size + 1]? = some (.loop (rec .ready none)) ∧ Q .normal { a with defers := { target := .collected w.heap.size, args := #[] } :: a.defers } (W'.putObj (w.heap.size + 1) (.loop (rec .exhausted none)))) :
    (Code.rangeFunc g ps assign body).wpIn Fence.wide n P Q a w := by
  refine wpIn_rangeFunc ?_
  intro fn hfn
  obtain ⟨rec, hrec⟩ : ∃ rec : LoopState → Option Code → Loop, rec = fun st pe => { state := st, pending := pe, fn, tmps := a.tmps, params := ps, assign, body, defers := w.heap.size } := ⟨_, rfl⟩
  obtain ⟨W1, hW1⟩ : ∃ W1, (w.alloc (.deferred (some []))).alloc (.loop (rec .ready none)) = W1 := ⟨_, rfl⟩
  have h := h fn rec hrec
  rw [hW1] at h
  refine ⟨w.heap.size + 1, [{ target := .collected w.heap.size, args := #[] }], W1, { target := .fn (.func gf) lb, args := #[.func (.yield (w.heap.size + 1)) #[] #[]] }, W1, gf,
    #[.func (.yield (w.heap.size + 1)) #[] #[]] ++ lb, W1, ?_, ?_, ?_, ?_, fun h => (by cases h), ?_⟩
  · rw [← hW1, hrec]; exact run_enterLoop_outer _ _ _ _ _
  · simp only [resolve, hg]
    simp [go_sem]
  · intro f' _; exact trivial
  · simp [invoke, go_sem, eg]
  · refine h.mono ?_
    rintro e W2 ⟨⟨v, rfl⟩, hl, hq⟩
    exact ⟨none, _, by have := run_endLoop (P := P) hl (by rw [hrec]; simp); rw [hrec] at this ⊢; exact this, hq⟩

/-- One round: the assignments to the loop's variables, then the body, in a round's frame. -/
theorem yield_round {l m : Nat} {args : Array Value} {W : World} {L : Loop} {R : Ending → World → Prop} (hl : W.heap[l]? = some (.loop L)) (hs : args.size = L.params.size)
    (h : L.assign.wpIn (Fence.wide.inRound l) m P (Exit.then (fun a₁ w₁ => ∃ w₂, (Instr.beginRound l).run P w₁ = .ok () w₂ ∧ L.body.wpIn (Fence.wide.inRound l) m P (roundPost P l R) a₁ w₂) (fun _ _ _ => False))
      { tmps := (L.params.zip args).foldl (fun t (p, v) => t.setIfInBounds p v) L.tmps, defers := [] } W) : YieldAt Fence.wide m P l args W R :=
  ⟨L.fn, _, L.assign, L.body, run_yield hl hs, roundIn_of_wpIn trivial h⟩
end
end Go.Proofs.Ytjcngipaeoegcaa
