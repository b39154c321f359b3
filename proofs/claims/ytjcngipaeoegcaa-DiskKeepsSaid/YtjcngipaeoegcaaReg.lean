/-
  A region that draws its order, by an invariant: what each operation yields is said once, of whatever world it is met in; one goal is left behind the region. No program in sight.
-/
import Derived.Test.YtjcngipaeoegcaaMem
import Derived.RegionTactic
namespace Go.Proofs.Ytjcngipaeoegcaa
open Go.RowKit

/-- Every edge that binds leads to an earlier operation. -/
def backward (ops : Array Oper) : Bool := (List.range ops.size).all fun i => match ops[i]? with
  | some o => o.after.all fun e => !Region.binds .any e || decide (e.on < i)
  | none => true
def leans (o : Oper) (j : Nat) : Bool := o.after.toList.any fun e => Region.binds .any e && e.on == j
def leansOn (o : Oper) (j : Nat) : Bool := o.after.toList.any fun e => (match e.ground with | .data => true | .guard => true | _ => false) && e.on == j
/-- Operation j's value is still wanted behind operation i. -/
def wantedBehind (ops : Array Oper) (o1 i j : Nat) : Bool := j != i && (match ops[j]? with | some o => !leans o i | none => true) && (decide (o1 ≤ j) || (List.range ops.size).any fun k => k != i && (match ops[i]? with | some o => !leans o k | none => true) && (match ops[k]? with | some o => leansOn o j | none => false))
def upd (u : Nat → Value) (i : Nat) (v : Value) : Nat → Value := fun j => if j = i then v else u j

section
variable {P : Program} {ops : Array Oper} {Q : Exit → Act → World → Prop}

theorem ready_iff {listed : Array Bool} {i : Nat} (h : i ∈ Region.ready .any ops listed) :
    listed.getD i true = false ∧ ∃ o, ops[i]? = some o ∧ ∀ j, leans o j = true → listed.getD j false = true := by
  unfold Region.ready at h
  rw [List.mem_filter, Bool.and_eq_true] at h
  obtain ⟨_, h1, h2⟩ := h
  refine ⟨by simpa using h1, ?_⟩
  cases ho : ops[i]? with
  | none => rw [ho] at h2; simp at h2
  | some o =>
    refine ⟨o, rfl, fun j hj => ?_⟩
    rw [ho] at h2
    simp only [Option.map_some, Option.getD_some] at h2
    unfold leans at hj
    rw [List.any_eq_true] at hj
    obtain ⟨e, hk, hb⟩ := hj
    rw [Bool.and_eq_true] at hb
    rw [Array.all_eq_true_iff_forall_mem] at h2
    have h3 := h2 e (by simpa using hk)
    rw [hb.1] at h3
    have he : e.on = j := by simpa using hb.2
    simpa [he] using h3

theorem all_listed (hb : backward ops = true) {listed : Array Bool} (hs : listed.size = ops.size) (h : Region.ready .any ops listed = []) : ∀ i, i < ops.size → listed.getD i false = true := by
  intro i
  induction i using Nat.strongRecOn with
  | _ i ih =>
    intro hi
    rcases hl : listed.getD i false with _ | _
    · exfalso
      have hmem : i ∈ Region.ready .any ops listed := by
        unfold Region.ready
        rw [List.mem_filter, Bool.and_eq_true]
        refine ⟨List.mem_range.2 hi, ?_, ?_⟩
        · have : listed.getD i true = false := by
            rw [Array.getD_eq_getD_getElem?] at hl ⊢
            rw [Array.getElem?_eq_getElem (by omega)] at hl ⊢
            simpa using hl
          rw [this]; rfl
        · rw [Array.getElem?_eq_getElem hi]
          simp only [Option.map_some, Option.getD_some]
          rw [Array.all_eq_true]
          intro k hk
          cases hbd : Region.binds .any (ops[i].after[k]) with
          | false => simp
          | true =>
            have h2 : (ops[i].after[k]).on < i := by
              unfold backward at hb
              rw [List.all_eq_true] at hb
              have := hb i (List.mem_range.2 hi)
              rw [Array.getElem?_eq_getElem hi] at this
              simp only [Array.all_eq_true] at this
              have h3 := this k hk
              rw [hbd] at h3
              simpa using h3
            rw [ih _ h2 (by omega)]
            simp
      rw [h] at hmem
      cases hmem
    · rfl

def unlisted (listed : Array Bool) : Nat := listed.toList.count false
theorem count_set (l : List Bool) : ∀ i, l[i]? = some false → (l.set i true).count false + 1 = l.count false := by
  induction l with
  | nil => intro i h; simp at h
  | cons b l ih =>
    intro i h
    cases i with
    | zero => simp at h; subst h; simp
    | succ i =>
      have := ih i (by simpa using h)
      simp only [List.set_cons_succ, List.count_cons]
      omega

theorem wpAny_inv (I : Array Bool → Act → World → Prop)
    (step : ∀ listed a w i, I listed a w → i ∈ Region.ready .any ops listed → wpOp P ops Q i (fun a' w' => I (listed.setIfInBounds i true) a' w') a w)
    (hfin : ∀ listed a w, I listed a w → Region.ready .any ops listed = [] → Q .normal a w) :
    ∀ (fuel : Nat) (listed : Array Bool) (a : Act) (w : World), unlisted listed ≤ fuel → I listed a w → wpAny P .any ops Q fuel listed a w
  | 0, listed, a, w, hc, hI => by
    have hr : Region.ready .any ops listed = [] := by
      apply List.eq_nil_iff_forall_not_mem.2
      intro i hi
      obtain ⟨h1, _⟩ := ready_iff hi
      have hz : unlisted listed = 0 := by omega
      unfold unlisted at hz
      have : false ∈ listed.toList := by
        rw [Array.getD_eq_getD_getElem?] at h1
        rcases hq : listed[i]? with _ | b
        · rw [hq] at h1; simp at h1
        · rw [hq] at h1
          simp at h1
          subst h1
          exact List.mem_of_getElem? (by rw [Array.getElem?_toList]; exact hq)
      exact absurd (List.count_pos_iff.2 this) (by omega)
    exact ⟨hr, hfin listed a w hI hr⟩
  | fuel + 1, listed, a, w, hc, hI => by
    refine ⟨fun h => hfin listed a w hI h, fun i hi => ?_⟩
    refine wpOp_mono (fun a' w' h' => ?_) (step listed a w i hI hi)
    refine wpAny_inv I step hfin fuel _ a' w' ?_ h'
    obtain ⟨h1, _⟩ := ready_iff hi
    have h2 : listed.toList[i]? = some false := by
      rw [Array.getD_eq_getD_getElem?] at h1
      rw [Array.getElem?_toList]
      rcases hq : listed[i]? with _ | b
      · rw [hq] at h1; simp at h1
      · rw [hq] at h1; simp at h1; rw [h1]
    have := count_set listed.toList i h2
    unfold unlisted at hc ⊢
    rw [Array.toList_setIfInBounds]
    omega

/-- The frame with the operations' values laid into their slots. -/
def fill (u : Nat → Value) : Nat → List Oper → Array Value → Array Value
  | _, [], t => t
  | i, o :: r, t => fill u (i + 1) r (match o.dst with | some d => t.setIfInBounds d (u i) | none => t)
def slotsOf (l : List Oper) : List Nat := l.filterMap (·.dst)
def apartB : List Nat → Bool
  | [] => true
  | d :: l => !l.contains d && apartB l

theorem fill_congr {u v : Nat → Value} : ∀ (l : List Oper) (i : Nat) (t : Array Value), (∀ j, i ≤ j → u j = v j) → fill u i l t = fill v i l t
  | [], _, _, _ => rfl
  | o :: r, i, t, h => by
    unfold fill
    rw [h i (Nat.le_refl _)]
    exact fill_congr r (i + 1) _ fun j hj => h j (by omega)
theorem fill_set (u : Nat → Value) (d : Nat) (v : Value) : ∀ (l : List Oper) (i : Nat) (t : Array Value), d ∉ slotsOf l → (fill u i l t).setIfInBounds d v = fill u i l (t.setIfInBounds d v)
  | [], _, _, _ => rfl
  | o :: r, i, t, h => by
    unfold fill
    have hr : d ∉ slotsOf r := fun hm => h (by
      unfold slotsOf at hm ⊢
      rw [List.filterMap_cons]
      split
      · exact hm
      · exact List.mem_cons_of_mem _ hm)
    rw [fill_set u d v r (i + 1) _ hr]
    cases ho : o.dst with
    | none => rfl
    | some d' =>
      have hne : d' ≠ d := fun e => h (by subst e; unfold slotsOf; rw [List.filterMap_cons, ho]; exact List.mem_cons_self)
      show fill u (i + 1) r ((t.setIfInBounds d' (u i)).setIfInBounds d v) = fill u (i + 1) r ((t.setIfInBounds d v).setIfInBounds d' (u i))
      rw [Array.setIfInBounds_comm _ _ hne]
theorem fill_upd (u : Nat → Value) (v : Value) : ∀ (l : List Oper) (i k : Nat) (o : Oper) (t : Array Value), apartB (slotsOf l) = true → l[k]? = some o →
    fill (upd u (i + k) v) i l t = (match o.dst with | some d => (fill u i l t).setIfInBounds d v | none => fill u i l t)
  | [], _, _, _, _, _, h => by simp at h
  | x :: r, i, 0, o, t, hap, h => by
    simp at h
    subst h
    unfold fill
    have hc : ∀ t', fill (upd u (i + 0) v) (i + 1) r t' = fill u (i + 1) r t' := fun t' => fill_congr r (i + 1) t' fun j hj => by unfold upd; rw [if_neg (by omega)]
    rw [hc]
    cases ho : x.dst with
    | none => rfl
    | some d =>
      have hd : d ∉ slotsOf r := by
        unfold slotsOf at hap
        rw [List.filterMap_cons, ho] at hap
        simp only [apartB, Bool.and_eq_true, Bool.not_eq_true'] at hap
        intro hm
        have := List.contains_iff_mem.2 hm
        unfold slotsOf at this
        rw [hap.1] at this
        cases this
      show fill u (i + 1) r (t.setIfInBounds d (upd u (i + 0) v i)) = (fill u (i + 1) r (t.setIfInBounds d (u i))).setIfInBounds d v
      rw [fill_set _ _ _ _ _ _ hd]
      simp [upd, Array.setIfInBounds_setIfInBounds]
  | x :: r, i, k + 1, o, t, hap, h => by
    have hapr : apartB (slotsOf r) = true := by
      unfold slotsOf at hap ⊢
      rw [List.filterMap_cons] at hap
      split at hap
      · exact hap
      · simp only [apartB, Bool.and_eq_true] at hap; exact hap.2
    have := fill_upd u v r (i + 1) k o (match x.dst with | some d => t.setIfInBounds d (u i) | none => t) hapr (by simpa using h)
    rw [show i + 1 + k = i + (k + 1) from by omega] at this
    unfold fill
    rw [show upd u (i + (k + 1)) v i = u i from by unfold upd; rw [if_neg (by omega)]]
    exact this
theorem fill_own (t : Array Value) (u : Nat → Value) : ∀ (l : List Oper) (i : Nat), (∀ k o d, l[k]? = some o → o.dst = some d → u (i + k) = t.getD d undef) → fill u i l t = t
  | [], _, _ => rfl
  | x :: r, i, h => by
    unfold fill
    have h0 : (match x.dst with | some d => t.setIfInBounds d (u i) | none => t) = t := by
      cases hx : x.dst with
      | none => rfl
      | some d =>
        have := h 0 x d rfl hx
        rw [Nat.add_zero] at this
        show t.setIfInBounds d (u i) = t
        rw [this]
        apply Array.ext_getElem?
        intro j
        rw [Array.getElem?_setIfInBounds]
        split
        · rename_i e
          subst e
          split
          · rename_i hlt
            exact (Array.getElem?_eq_getElem hlt).symm
          · rename_i hlt
            exact (Array.getElem?_eq_none (by omega)).symm
        · rfl
    rw [h0]
    exact fill_own t u r (i + 1) fun k o d hk ho => by
      have := h (k + 1) o d (by simpa using hk) ho
      rwa [show i + (k + 1) = i + 1 + k from by omega] at this

theorem leans_of {o : Oper} {j : Nat} (h : leansOn o j = true) : leans o j = true := by
  unfold leansOn at h
  unfold leans
  rw [List.any_eq_true] at h ⊢
  obtain ⟨e, he, hb⟩ := h
  rw [Bool.and_eq_true] at hb
  refine ⟨e, he, ?_⟩
  rw [Bool.and_eq_true]
  refine ⟨?_, hb.2⟩
  have h1 := hb.1
  unfold Region.binds
  cases hg : e.ground <;> rw [hg] at h1 <;> simp at h1 <;> rfl

/-- What may be said of an operation's value: it stands while memory grows. -/
abbrev Say := World → Value → Prop
def Stable (p : Say) : Prop := ∀ w w' v, Ext w w' → p w v → p w' v
def AllStable : List Say → Prop
  | [] => True
  | p :: l => Stable p ∧ AllStable l
def says (l : List Say) (i : Nat) : Say := match l[i]? with | some p => p | none => fun _ _ => True
theorem says_mono : ∀ (l : List Say), AllStable l → ∀ i w w' v, Ext w w' → says l i w v → says l i w' v
  | [], _, i, _, _, _, _, _ => by simp [says]
  | p :: l, h, 0, w, w', v, he, hp => h.1 w w' v he hp
  | p :: l, h, i + 1, w, w', v, he, hp => by
    have := says_mono l h.2 i w w' v he
    simp only [says, List.getElem?_cons_succ] at this hp ⊢
    exact this hp
/-- What is said stands from one world to another, for the operations that f names. -/
def AllKept (f : Nat → Bool) (w w' : World) : Nat → List Say → Prop
  | _, [] => True
  | i, p :: l => (f i = true → ∀ v, p w v → p w' v) ∧ AllKept f w w' (i + 1) l
theorem says_kept {f : Nat → Bool} {w w' : World} : ∀ (l : List Say) (k : Nat), AllKept f w w' k l → ∀ i v, f (k + i) = true → says l i w v → says l i w' v
  | [], _, _, i, _, _, _ => by simp [says]
  | p :: l, k, h, 0, v, hf, hp => h.1 hf v hp
  | p :: l, k, h, i + 1, v, hf, hp => by
    have := says_kept l (k + 1) h.2 i v (by rwa [show k + 1 + i = k + (i + 1) from by omega])
    simp only [says, List.getElem?_cons_succ] at this hp ⊢
    exact this hp
def Is (x : Value) : Say := fun _ v => v = x
theorem Is.st (x : Value) : Stable (Is x) := fun _ _ _ _ h => h
def Any : Say := fun _ _ => True
theorem Any.st : Stable Any := fun _ _ _ _ h => h
theorem Say.st_of {p : Say} (h : ∀ w w' v, Ext w w' → p w v → p w' v) : Stable p := h
def IsBs (l : List UInt8) : Say := fun w v => Bs w v l
theorem IsBs.st (l : List UInt8) : Stable (IsBs l) := fun _ _ _ he h => Bs.ext h he

theorem if_run {c : Bool} {X Y : Prop} (h : c = true) (hx : X) : if c = true then X else Y := by rw [if_pos h]; exact hx
/-- Operation j comes up behind operation i, and lays its value into a slot. -/
def later (ops : Array Oper) (i j : Nat) : Bool := match ops[j]? with | some o => leans o i && o.dst.isSome | none => false
def slotAt (ops : Array Oper) (j : Nat) : Nat := match ops[j]? with | some o => o.dst.getD 0 | none => 0

/-- A fact of the beginning is still wanted behind operation i by one of those that use it. -/
def startWanted (ops : Array Oper) (uses : Nat → Bool) (i : Nat) : Bool := (List.range ops.size).any fun k => k != i && uses k && (match ops[i]? with | some o => !leans o k | none => true)

variable (P Q) in
/-- What is owed of one operation: it yields what is said of it; either memory has but grown (the first way on), or what is still wanted stands all the same (the second). -/
def StepAt (ops : Array Oper) (t : Array Value) (F : (Nat → Value) → Array Value) (ds : List Deferred) (l : List Say) (S : World → Prop) (uses : Nat → Bool) (o1 : Nat) (B : Nat) (w : World) (i : Nat) (o : Oper) : Prop :=
  ∀ (u : Nat → Value) (w1 : World) (K : Act → World → Prop), Below B w w1 → (uses i = true → S w1) → (∀ j, later ops i j = true → u j = t.getD (slotAt ops j) undef) → (∀ j, leansOn o j = true → says l j w1 (u j)) → (∀ v w2, Ext w1 w2 → says l i w2 v → K ((⟨F u, ds⟩ : Act).put o.dst v) w2) →
    (∀ v w2, Below B w1 w2 → AllKept (wantedBehind ops o1 i) w1 w2 0 l → (startWanted ops uses i = true → S w1 → S w2) → says l i w2 v → K ((⟨F u, ds⟩ : Act).put o.dst v) w2) →
    if Region.wanted o (yielded ops (F u)) = true then Oper.wp P o ⟨F u, ds⟩ w1 K Q else K ((⟨F u, ds⟩ : Act).put o.dst undef) w1
variable (P Q) in
def StepsAt (ops : Array Oper) (t : Array Value) (F : (Nat → Value) → Array Value) (ds : List Deferred) (l : List Say) (S : World → Prop) (uses : Nat → Bool) (o1 : Nat) (B : Nat) (w : World) : Nat → List Oper → Prop
  | _, [] => True
  | i, o :: rest => StepAt P Q ops t F ds l S uses o1 B w i o ∧ StepsAt ops t F ds l S uses o1 B w (i + 1) rest

theorem StepsAt.get {t : Array Value} {F : (Nat → Value) → Array Value} {ds : List Deferred} {s : List Say} {S : World → Prop} {uses : Nat → Bool} {o1 : Nat} {B : Nat} {w : World} : ∀ (l : List Oper) (i k : Nat) (o : Oper), StepsAt P Q ops t F ds s S uses o1 B w i l → l[k]? = some o → StepAt P Q ops t F ds s S uses o1 B w (i + k) o
  | [], _, _, _, _, h => by simp at h
  | x :: l, i, 0, o, h, hk => by simp at hk; subst hk; exact h.1
  | x :: l, i, k + 1, o, h, hk => by
    have := StepsAt.get l (i + 1) k o h.2 (by simpa using hk)
    rwa [show i + 1 + k = i + (k + 1) from by omega] at this
theorem StepsAt.cons {t : Array Value} {F : (Nat → Value) → Array Value} {ds : List Deferred} {s : List Say} {S : World → Prop} {uses : Nat → Bool} {o1 : Nat} {B : Nat} {w : World} {i : Nat} {o : Oper} {rest : List Oper} (h : StepAt P Q ops t F ds s S uses o1 B w i o)
    (hs : StepsAt P Q ops t F ds s S uses o1 B w (i + 1) rest) : StepsAt P Q ops t F ds s S uses o1 B w i (o :: rest) := ⟨h, hs⟩
theorem StepsAt.nil {t : Array Value} {F : (Nat → Value) → Array Value} {ds : List Deferred} {s : List Say} {S : World → Prop} {uses : Nat → Bool} {o1 : Nat} {B : Nat} {w : World} {i : Nat} : StepsAt P Q ops t F ds s S uses o1 B w i [] := True.intro

/-- What is said of i still counts: it is the last, or an operation that leans on it has not come up. -/
def Counts (ops : Array Oper) (o1 : Nat) (listed : Array Bool) (i : Nat) : Prop := o1 ≤ i ∨ ∃ k o, ops[k]? = some o ∧ listed.getD k false = false ∧ leansOn o i = true

theorem wpAny_region_inv (B : Nat) {t : Array Value} {ds : List Deferred} {w : World} (o1 : Nat) (hB : B ≤ w.heap.size) (hback : backward ops = true) (hap : apartB (slotsOf ops.toList) = true)
    (l : List Say) (S : World → Prop) (uses : Nat → Bool) (mono : AllStable l) (monoS : ∀ w w', Ext w w' → S w → S w') (startS : S w)
    {F : (Nat → Value) → Array Value} (hF : ∀ u, fill u 0 ops.toList t = F u)
    (steps : StepsAt P Q ops t F ds l S uses o1 B w 0 ops.toList)
    (fin : ∀ u w', Below B w w' → (∀ i, o1 ≤ i → i < ops.size → says l i w' (u i)) → Q .normal ⟨F u, ds⟩ w') : wpAny P .any ops Q ops.size (Array.replicate ops.size false) ⟨t, ds⟩ { w with drawn := w.drawn + 1 } := by
  have hsize : unlisted (Array.replicate ops.size false) ≤ ops.size := by
    unfold unlisted; simp
  have hset : ∀ (listed : Array Bool) (i j : Nat), (listed.setIfInBounds i true).getD j false = true → j = i ∨ listed.getD j false = true := by
    intro listed i j hj
    by_cases hji : j = i
    · exact .inl hji
    · right
      rw [Array.getD_eq_getD_getElem?, Array.getElem?_setIfInBounds, if_neg (fun e => hji e.symm)] at hj
      rw [Array.getD_eq_getD_getElem?]; exact hj
  refine wpAny_inv (fun listed a w1 => (listed.size = ops.size ∧ ∀ j o, ops[j]? = some o → listed.getD j false = true → ∀ k, leans o k = true → listed.getD k false = true) ∧ ∃ u, a = ⟨F u, ds⟩ ∧ Below B w w1 ∧ (∀ k, k < ops.size → uses k = true → listed.getD k false = false → S w1) ∧ (∀ j o d, ops[j]? = some o → o.dst = some d → listed.getD j false = false → u j = t.getD d undef) ∧ ∀ i, listed.getD i false = true → Counts ops o1 listed i → says l i w1 (u i)) ?_ ?_ _ _ _ _ hsize ?_
  · rintro listed a w1 i ⟨⟨hs, hdown⟩, u, rfl, hext, hS, hU, hP⟩ hi
    obtain ⟨h1, o, ho, hd⟩ := ready_iff hi
    have hlt : i < ops.size := (Array.getElem?_eq_some_iff.1 ho).1
    have h1' : listed.getD i false = false := by
      rw [Array.getD_eq_getD_getElem?] at h1 ⊢
      rw [Array.getElem?_eq_getElem (by omega)] at h1 ⊢
      simpa using h1
    have ho' : ops.toList[i]? = some o := by rw [Array.getElem?_toList]; exact ho
    have hst := StepsAt.get ops.toList 0 i o steps ho'
    rw [Nat.zero_add] at hst
    have hput : ∀ v, (⟨F u, ds⟩ : Act).put o.dst v = ⟨F (upd u i v), ds⟩ := by
      intro v
      have hfu := fill_upd u v ops.toList 0 i o t hap ho'
      rw [Nat.zero_add] at hfu
      rw [← hF, ← hF, hfu]
      cases o.dst <;> rfl
    have hdown' : ∀ j o, ops[j]? = some o → (listed.setIfInBounds i true).getD j false = true → ∀ k, leans o k = true → (listed.setIfInBounds i true).getD k false = true := by
      intro j oj hoj hj k hk
      have hkl : listed.getD k false = true := by
        rcases hset _ _ _ hj with rfl | hj
        · rw [ho] at hoj
          injection hoj with e
          subst e
          exact hd k hk
        · exact hdown j oj hoj hj k hk
      rw [Array.getD_eq_getD_getElem?, Array.getElem?_setIfInBounds]
      rw [Array.getD_eq_getD_getElem?] at hkl
      split
      · rename_i e
        subst e
        split
        · rfl
        · rename_i hn
          rw [Array.getElem?_eq_none (by omega)] at hkl
          exact hkl
      · exact hkl
    have hun : ∀ k, (listed.setIfInBounds i true).getD k false = false → k ≠ i ∧ listed.getD k false = false := by
      intro k hk
      have hki : k ≠ i := by
        rintro rfl
        rw [Array.getD_eq_getD_getElem?, Array.getElem?_setIfInBounds, if_pos rfl, if_pos (by omega)] at hk
        simp at hk
      refine ⟨hki, ?_⟩
      rw [Array.getD_eq_getD_getElem?, Array.getElem?_setIfInBounds, if_neg (fun e => hki e.symm)] at hk
      rw [Array.getD_eq_getD_getElem?]; exact hk
    have hsw : ∀ k, k < ops.size → uses k = true → (listed.setIfInBounds i true).getD k false = false → startWanted ops uses i = true := by
      intro k hk hu hl
      obtain ⟨hki, hkl⟩ := hun k hl
      unfold startWanted
      rw [List.any_eq_true]
      refine ⟨k, List.mem_range.2 hk, ?_⟩
      have hle : leans o k = false := by
        cases h : leans o k with
        | false => rfl
        | true => rw [hd k h] at hkl; cases hkl
      rw [ho]
      simp [hki, hu, hle]
    have hU' : ∀ v j o d, ops[j]? = some o → o.dst = some d → (listed.setIfInBounds i true).getD j false = false → upd u i v j = t.getD d undef := by
      intro v j oj d hoj hd hj
      have hji : j ≠ i := by
        rintro rfl
        rw [Array.getD_eq_getD_getElem?, Array.getElem?_setIfInBounds, if_pos rfl, if_pos (by omega)] at hj
        simp at hj
      unfold upd
      rw [if_neg hji]
      refine hU j oj d hoj hd ?_
      rw [Array.getD_eq_getD_getElem?, Array.getElem?_setIfInBounds, if_neg (fun e => hji e.symm)] at hj
      rw [Array.getD_eq_getD_getElem?]; exact hj
    have hstill : ∀ j, j ≠ i → listed.getD j false = true → Counts ops o1 (listed.setIfInBounds i true) j → Counts ops o1 listed j ∧ wantedBehind ops o1 i j = true := by
      intro j hji hjl hc
      have hfree : (match ops[j]? with | some o => !leans o i | none => true) = true := by
        cases hoj : ops[j]? with
        | none => rfl
        | some oj =>
          have hl : leans oj i = false := by
            cases hle : leans oj i with
            | false => rfl
            | true => rw [hdown j oj hoj hjl i hle] at h1'; cases h1'
          simp [hl]
      rcases hc with hc | ⟨k, ok, hk, hkl, hkd⟩
      · refine ⟨.inl hc, ?_⟩
        unfold wantedBehind
        rw [hfree]
        simp [hji, hc]
      · have hklt : k < ops.size := (Array.getElem?_eq_some_iff.1 hk).1
        have hki : k ≠ i := by
          rintro rfl
          rw [Array.getD_eq_getD_getElem?, Array.getElem?_setIfInBounds, if_pos rfl, if_pos (by omega)] at hkl
          simp at hkl
        refine ⟨.inr ⟨k, ok, hk, ?_, hkd⟩, ?_⟩
        · rw [Array.getD_eq_getD_getElem?, Array.getElem?_setIfInBounds, if_neg (fun e => hki e.symm)] at hkl
          rw [Array.getD_eq_getD_getElem?]; exact hkl
        · unfold wantedBehind
          rw [hfree, Bool.and_eq_true, Bool.and_eq_true, Bool.or_eq_true]
          refine ⟨⟨by simpa using hji, rfl⟩, .inr ?_⟩
          rw [List.any_eq_true]
          have hkl' := (hun k hkl).2
          have hle : leans o k = false := by
            cases h : leans o k with
            | false => rfl
            | true => rw [hd k h] at hkl'; cases hkl'
          exact ⟨k, List.mem_range.2 hklt, by rw [hk, ho]; simp [hki, hkd, hle]⟩
    have := hst u w1 (fun a' w' => ((listed.setIfInBounds i true).size = ops.size ∧ ∀ j o, ops[j]? = some o → (listed.setIfInBounds i true).getD j false = true → ∀ k, leans o k = true → (listed.setIfInBounds i true).getD k false = true) ∧ ∃ u, a' = ⟨F u, ds⟩ ∧ Below B w w' ∧ (∀ k, k < ops.size → uses k = true → (listed.setIfInBounds i true).getD k false = false → S w') ∧ (∀ j o d, ops[j]? = some o → o.dst = some d → (listed.setIfInBounds i true).getD j false = false → u j = t.getD d undef) ∧ ∀ j, (listed.setIfInBounds i true).getD j false = true → Counts ops o1 (listed.setIfInBounds i true) j → says l j w' (u j)) hext
      (fun hu => hS i hlt hu h1')
      (fun j hj => by
        unfold later at hj
        unfold slotAt
        cases hoj : ops[j]? with
        | none => rw [hoj] at hj; cases hj
        | some oj =>
          rw [hoj] at hj
          simp only [Bool.and_eq_true] at hj
          cases hd : oj.dst with
          | none => rw [hd] at hj; cases hj.2
          | some d =>
            have hjl : listed.getD j false = false := by
              cases hl : listed.getD j false with
              | false => rfl
              | true => rw [hdown j oj hoj hl i hj.1] at h1'; cases h1'
            have := hU j oj d hoj hd hjl
            simpa [hd] using this)
      (fun j hj => hP j (hd j (leans_of hj)) (.inr ⟨i, o, ho, h1', hj⟩))
      (fun v w2 h12 hv => by
        refine ⟨⟨by simpa using hs, hdown'⟩, upd u i v, hput v, hext.trans (h12.mono (Nat.le_trans hB hext.size)), fun k hk hu hl => monoS _ _ h12 (hS k hk hu (hun k hl).2), hU' v, fun j hj hc => ?_⟩
        by_cases hji : j = i
        · subst hji; simpa [upd] using hv
        · have hl := (hset _ _ _ hj).resolve_left hji
          obtain ⟨hc1, _⟩ := hstill j hji hl hc
          simpa [upd, hji] using says_mono l mono j w1 w2 _ h12 (hP j hl hc1))
      (fun v w2 h12 hk hkS hv => by
        refine ⟨⟨by simpa using hs, hdown'⟩, upd u i v, hput v, hext.trans h12, fun k hk hu hl => hkS (hsw k hk hu hl) (hS k hk hu (hun k hl).2), hU' v, fun j hj hc => ?_⟩
        by_cases hji : j = i
        · subst hji; simpa [upd] using hv
        · have hl := (hset _ _ _ hj).resolve_left hji
          obtain ⟨hc1, hw⟩ := hstill j hji hl hc
          simpa [upd, hji] using says_kept l 0 hk j _ (by rw [Nat.zero_add]; exact hw) (hP j hl hc1))
    unfold wpOp
    rw [ho]
    simp only
    split
    · rename_i hw; rw [if_pos hw] at this; exact .inl this
    · rename_i hw; rw [if_neg hw] at this; exact this
  · rintro listed a w1 ⟨⟨hs, _⟩, u, rfl, hext, _, _, hP⟩ hr
    exact fin u w1 hext fun i h1 h2 => hP i (all_listed hback hs hr i h2) (.inl h1)
  · refine ⟨⟨by simp, fun j o _ hj => by
      rw [Array.getD_eq_getD_getElem?, Array.getElem?_replicate] at hj
      split at hj <;> simp at hj⟩, fun i => match ops[i]? with | some o => (match o.dst with | some d => t.getD d undef | none => undef) | none => undef, ?_, (Below.refl _ _).drew, fun _ _ _ _ => monoS _ _ (Ext.drew' w) startS, fun j o d hoj hd _ => by simp [hoj, hd], fun i hi => ?_⟩
    · rw [← hF]
      congr 1
      symm
      apply fill_own
      intro k o d hk ho
      rw [Array.getElem?_toList] at hk
      simp [hk, ho]
    · rw [Array.getD_eq_getD_getElem?, Array.getElem?_replicate] at hi
      split at hi <;> simp at hi
theorem wp_region_inv (B : Nat) {id : Nat} {t : Array Value} {ds : List Deferred} {w : World} (o1 : Nat) (hB : B ≤ w.heap.size) (hm : P.follows .mixedOrders = true) (hback : backward ops = true) (hap : apartB (slotsOf ops.toList) = true)
    (l : List Say) (S : World → Prop) (uses : Nat → Bool) (mono : AllStable l) (monoS : ∀ w w', Ext w w' → S w → S w') (startS : S w)
    {F : (Nat → Value) → Array Value} (hF : ∀ u, fill u 0 ops.toList t = F u)
    (steps : StepsAt P Q ops t F ds l S uses o1 B w 0 ops.toList)
    (fin : ∀ u w', Below B w w' → (∀ i, o1 ≤ i → i < ops.size → says l i w' (u i)) → Q .normal ⟨F u, ds⟩ w') : (Code.region id ops true).wp P Q ⟨t, ds⟩ w :=
  wp_region_any hm (wpAny_region_inv B o1 hB hback hap l S uses mono monoS startS hF steps fin)
end
end Go.Proofs.Ytjcngipaeoegcaa
