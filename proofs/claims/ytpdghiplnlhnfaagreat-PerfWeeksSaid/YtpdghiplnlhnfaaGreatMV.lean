/-
  Joined: Ax16b. Nothing is proved here of a statement.
-/
import Derived.Test.YtpdghiplnlhnfaaGreatME
namespace Go.Proofs.YtpdghiplnlhnfaaGreat.Ax
set_option linter.unusedSimpArgs false
set_option linter.unusedVariables false
open Go Go.RowKit
section
variable {P : Program} {N B : Nat} {ops : Array Oper} {T : Env} {h : List Ob} {K K' : Env → List Ob → Prop} {b : Nat}

def Front (ops : Array Oper) (i : Ent) (o : Oper) : List Ent → Prop
  | [] => True
  | j :: r => (∃ x, ops[j.1]? = some x ∧ swapOk ops j i x o = true ∧ (cls x.op ≠ 2 → j.2.2 = []) ∧ (cls x.op = 3 → cls o.op = 3 → j.2.1 ≠ i.2.1) ∧ (∀ l ∈ j.2.2, untouched ops l i.1 = true) ∧
      (j.1 ∈ i.2.2 → ∀ d, x.dst = some d → looks ops x d = false) ∧ j.1 ∉ r.map (·.1) ∧ (∀ l ∈ i.2.2, l ≠ j.1 → l ∉ r.map (·.1) → untouched ops l j.1 = true)) ∧ Front ops i o r
def less (i : Ent) (pre : List Ent) : Ent := (i.1, i.2.1, i.2.2.filter fun l => !(pre.map (·.1)).contains l)
theorem swapOk_less {j i : Ent} {x o : Oper} {r : List Ent} (hs : swapOk ops j i x o = true) (hj : j.1 ∉ r.map (·.1)) : swapOk ops j (less i r) x o = true := by
  simp only [swapOk, Bool.and_eq_true, Bool.or_eq_true, beq_iff_eq, bne_iff_ne, ne_eq, decide_eq_true_eq] at hs ⊢
  refine ⟨hs.1, ?_⟩
  rcases hs.2 with ((((h | h) | h) | ⟨h, h2⟩) | ⟨h, h2⟩) | ⟨h, h2⟩
  · exact .inl (.inl (.inl (.inl (.inl h))))
  · exact .inl (.inl (.inl (.inl (.inr h))))
  · exact .inl (.inl (.inl (.inr h)))
  · refine .inl (.inl (.inr ⟨h, ?_⟩))
    have h2 : j.1 ∈ i.2.2 := by simpa using h2
    simp only [less, List.contains_eq_mem, decide_eq_true_eq, List.mem_filter, h2, true_and]
    simpa using hj
  · refine .inl (.inr ⟨h, ?_⟩)
    have : i.2.2 = [] := by simpa using h2
    simp [less, this]
  · refine .inr ⟨h, ?_⟩
    have : i.2.2 = [] := by simpa using h2
    simp [less, this]
theorem wpE_front {i : Ent} {o : Oper} (ho : ops[i.1]? = some o) (hoE : cls o.op ≠ 2 → i.2.2 = []) (post : List Ent) : ∀ (pre : List Ent), Front ops i o pre → ∀ {T : Env} {h : List Ob}, (cls o.op = 3 → h[b + i.2.1]? = some .res) →
    wpE P ops b K (pre ++ i :: post) T h → stepE P ops b (less i pre) o (wpE P ops b K (pre ++ post)) T h
  | [], _, T, h, _, k => by
    simp only [List.nil_append, wpE, ho] at k
    have : less i [] = i := by
      have : i.2.2.filter (fun l => !(([] : List Ent).map (·.1)).contains l) = i.2.2 := List.filter_eq_self.2 (by simp)
      simp only [less, this]
    rw [this]
    exact k
  | j :: pre, ⟨⟨x, f1, f2, f3, f4, f5, f6, f7, f8⟩, hf⟩, T, h, hr, k => by
    simp only [List.cons_append, wpE, f1] at k ⊢
    have k2 : stepE P ops b j x (stepE P ops b (less i pre) o (wpE P ops b K (pre ++ post))) T h := stepE_mono k fun T' h' hres k' => by
      refine wpE_front ho hoE post pre hf (fun hc => hres _ (fun hx => ?_) (hr hc)) k'
      have := f4 hx hc
      omega
    have hless : ∀ l, l ∈ (less i (j :: pre)).2.2 ↔ l ∈ i.2.2 ∧ l ≠ j.1 ∧ l ∉ pre.map (·.1) := fun l => by
      simp only [less, List.mem_filter, List.map_cons, List.contains_eq_mem, Bool.not_eq_true', decide_eq_false_iff_not, List.mem_cons, not_or]
    have hless0 : ∀ l, l ∈ (less i pre).2.2 ↔ l ∈ i.2.2 ∧ l ∉ pre.map (·.1) := fun l => by
      simp only [less, List.mem_filter, List.contains_eq_mem, Bool.not_eq_true', decide_eq_false_iff_not]
    have := swapE (q := less i pre) (l2 := (less i (j :: pre)).2.2) (y := o) f1 (swapOk_less f2 f7) f3 (fun hc => by simp [less, hoE hc]) ho
      (fun l hl => by
        obtain ⟨q1, q2, q3⟩ := (hless l).1 hl
        exact ⟨(hless0 l).2 ⟨q1, q3⟩, f8 l q1 q2 q3⟩) f5 (fun l hl hn => by
        obtain ⟨q1, q2⟩ := (hless0 l).1 hl
        by_cases e : l = j.1
        · exact e
        · exact absurd ((hless l).2 ⟨q1, e, q2⟩) hn) hr f4 (fun hm => f6 ((hless0 _).1 hm).1) k2
    exact this
theorem reach_listed {listed : Array Bool} (hdown : ∀ i o, ops[i]? = some o → listed.getD i true = true → ∀ j ∈ depsOf o, listed.getD j false = true) :
    ∀ (f j i : Nat) (o : Oper), ops[i]? = some o → (∀ k ∈ depsOf o, listed.getD k false = true) → reach ops f j i = true → listed.getD j false = true
  | 0, j, i, o, ho, hr, h => by
    simp only [reach, ho, List.contains_eq_mem, decide_eq_true_eq] at h
    exact hr j h
  | f + 1, j, i, o, ho, hr, h => by
    simp only [reach, ho, List.contains_eq_mem, Bool.or_eq_true, decide_eq_true_eq, List.any_eq_true, Bool.and_eq_true] at h
    rcases h with h | ⟨k, hk, _, h⟩
    · exact hr j h
    · have hkl := hr k hk
      cases hko : ops[k]? with
      | none => cases f <;> simp [reach, hko] at h
      | some p =>
        have hkt : listed.getD k true = true := by
          rw [Array.getD_eq_getD_getElem?] at hkl ⊢
          cases e : listed[k]? with
          | none => rfl
          | some b => rw [e] at hkl; simpa using hkl
        exact reach_listed hdown f j k p hko (hdown k p hko hkt) h
theorem backOk_spec : ∀ (l : List Oper) (i : Nat), backOk ops i l = true → ∀ (m : Nat) (o : Oper), l[m]? = some o → ∀ j ∈ depsOf o, j < i + m
  | [], _, _, m, o, hp, _, _ => by simp at hp
  | o :: l, i, h, 0, p, hp, j, hj => by
    simp only [backOk, Bool.and_eq_true, List.all_eq_true, decide_eq_true_eq] at h
    injection hp with hp
    subst hp
    exact h.1 j hj
  | o :: l, i, h, m + 1, p, hp, j, hj => by
    simp only [backOk, Bool.and_eq_true, List.all_eq_true, decide_eq_true_eq] at h
    have := backOk_spec l (i + 1) h.2 m p hp j hj
    omega
theorem ready_spec {listed : Array Bool} {i : Nat} (h : i ∈ Region.ready .any ops listed) : i < ops.size ∧ listed.getD i true = false ∧ ∃ o, ops[i]? = some o ∧ ∀ j ∈ depsOf o, listed.getD j false = true := by
  simp only [Region.ready, List.mem_filter, List.mem_range, Bool.and_eq_true, Bool.not_eq_true'] at h
  obtain ⟨h1, h2, h3⟩ := h
  refine ⟨h1, h2, ops[i], Array.getElem?_eq_getElem h1, fun j hj => ?_⟩
  simp only [Array.getElem?_eq_getElem h1, Option.map_some, Option.getD_some] at h3
  rw [Array.all_eq_true_iff_forall_mem] at h3
  simp only [depsOf, List.mem_map, List.mem_filter] at hj
  obtain ⟨e, ⟨he, hb⟩, rfl⟩ := hj
  have := h3 e (by simpa using he)
  simpa [hb] using this
theorem ready_of {listed : Array Bool} {i : Nat} {o : Oper} (h1 : i < ops.size) (h2 : listed.getD i true = false) (ho : ops[i]? = some o) (h3 : ∀ j ∈ depsOf o, listed.getD j false = true) : i ∈ Region.ready .any ops listed := by
  simp only [Region.ready, List.mem_filter, List.mem_range, Bool.and_eq_true, Bool.not_eq_true']
  refine ⟨h1, h2, ?_⟩
  simp only [ho, Option.map_some, Option.getD_some]
  rw [Array.all_eq_true_iff_forall_mem]
  intro e he
  cases hb : Region.binds .any e with
  | false => simp
  | true =>
    have := h3 e.on (by simp only [depsOf, List.mem_map, List.mem_filter]; exact ⟨e, ⟨by simpa using he, hb⟩, rfl⟩)
    simpa using this

theorem guardG_sound {φ : Nat → Ob} {i : Nat} {o : Oper} (ho : ops[i]? = some o) (hd : dstOk N o = true) {run : (Env → List Ob → Prop) → Env → List Ob → Prop} (k : guardG ops o run K T h) {Q : Exit → Act → World → Prop} {w : World} {g : Gh} {a : Act} (r : Rel N B w g (fill φ h) a T)
    {next : Act → World → Prop} (hrun : run K T h → o.wp P a w next Q) (hn : ∀ T' h' w' a', K T' h' → Aft N B φ w g h T' h' a' w' → next a' w') : wpOp P ops Q i next a w := by
  have hskip : K (putA T o.dst (.v undef)) h → next (a.put o.dst undef) w := fun k =>
    hn _ _ _ _ k ⟨g, .refl, put_rel r (Good.refl r.ok r.hB) (x := .v undef) rfl hd, Good.refl r.ok r.hB⟩
  unfold guardG at k
  unfold wpOp
  simp only [ho]
  split at k
  · rename_i hg
    rw [if_pos (by simp [Region.wanted, hg])]
    exact .inl (hrun k)
  · rename_i j want hg
    split at k
    · rename_i d hdst
      have hy : yielded ops a.tmps j = match a.tmps[d]? with | some (.bool b) => some b | _ => none := by
        simp only [yielded, hdst, Option.bind_some]
        rfl
      have hval := r.t d
      rw [Array.getD_eq_getD_getElem?] at hval
      split at k
      · rename_i b hb
        rw [hb] at hval
        have hval : (a.tmps[d]?).getD undef = .bool b := hval
        have hv : a.tmps[d]? = some (.bool b) := by
          cases e : a.tmps[d]? with
          | none => rw [e] at hval; cases hval
          | some u => rw [e] at hval; exact congrArg some hval
        rw [hv] at hy
        by_cases hw : b = want
        · rw [if_pos (by simp [Region.wanted, hg, hy, hw])]
          exact .inl (hrun (k.1 hw))
        · rw [if_neg (by simp [Region.wanted, hg, hy, hw])]
          exact hskip (k.2 hw)
      · rename_i vs hb
        rw [hb] at hval
        have hval : (a.tmps[d]?).getD undef = .tuple vs := hval
        have hy' : yielded ops a.tmps j = none := by
          rw [hy]
          cases e : a.tmps[d]? with
          | none => rfl
          | some u => rw [e] at hval; have : u = .tuple vs := hval; subst this; rfl
        rw [if_neg (by simp [Region.wanted, hg, hy'])]
        exact hskip k
      · exact k.elim
    · exact k.elim
theorem stepE_sound {φ : Nat → Ob} (hu : Upto φ h.length) (hub : Upto φ b) {q : Ent} {o : Oper} (ho : ops[q.1]? = some o) (hd : dstOk N o = true) (k : stepE P ops b q o K T h) {Q : Exit → Act → World → Prop} {w : World} {g : Gh} {a : Act} (r : Rel N B w g (fill φ h) a T)
    {next : Act → World → Prop} (hn : ∀ T' h' w' a', K T' h' → (∃ g', (∀ j, (cls o.op = 3 → j ≠ b + q.2.1) → h[j]? = some .res → h'[j]? = some .res) ∧ Rel N B w' g' (fill φ h') a' T' ∧ Good B w g (fill φ h) w' g' (fill φ h')) → next a' w') : wpOp P ops Q q.1 next a w := by
  by_cases hc : cls o.op = 3
  · rw [stepE_a hc] at k
    refine guardG_sound ho hd (K := fun T' h' => K T' h') k r (fun k => ?_) fun T' h' w' a' k' ⟨g', q1, q2, q3⟩ => hn _ _ _ _ k' ⟨g', fun j _ => q1 j, q2, q3⟩
    unfold runAt at k
    split at k
    · rename_i ob mk hx
      obtain ⟨dst, op, type, pos, after, guard⟩ := o
      obtain ⟨v, w', e1, m⟩ := allocA_run r.ok r.hB r.t hx dst type pos after guard
      have hob := m.live
      have hfi : (fill φ h)[b + q.2.1]? = some .res := by
        rw [fill_get, k.1]
        simp only [Option.map_some, fillO]
        rw [if_pos (show (Ob.res).isRes = true from rfl), hub _ (by omega)]
      obtain ⟨g', e2, e3⟩ := m.at r.ok r.hB hfi
      rw [← fill_set hob] at e2 e3
      unfold Oper.wp
      rw [e1]
      refine hn _ _ _ _ k.2 ⟨g', fun j hj hr => ?_, put_rel r e2 e3 hd, e2⟩
      rw [List.getElem?_set_ne (fun e => hj hc e.symm)]
      exact hr
    · exact k.elim
  · rw [stepE_q hc] at k
    exact guardG_sound ho hd (stepG_mono k fun _ _ k => k.2) r (fun k => runA_sound hu hd k r fun T' h' w' a' k' ⟨g', q1, q2, q3⟩ => hn _ _ _ _ k' ⟨g', fun j _ => q1 j, q2, q3⟩) fun T' h' w' a' k' ⟨g', q1, q2, q3⟩ => hn _ _ _ _ k' ⟨g', fun j _ => q1 j, q2, q3⟩
theorem okPairsE_spec : ∀ (l : List Ent), okPairsE ops l = true → l.Pairwise fun x y => okPairE ops x y = true
  | [], _ => .nil
  | x :: r, h => by
    simp only [okPairsE, Bool.and_eq_true, List.all_eq_true] at h
    exact .cons h.1 (okPairsE_spec r h.2)
theorem pair_spec {p q : Ent} (h : okPairE ops p q = true) : ∃ x y, ops[p.1]? = some x ∧ ops[q.1]? = some y ∧ (reach ops 8 p.1 q.1 = true ∨ swapOk ops p q x y = true) ∧ reach ops 8 q.1 p.1 = false ∧ q.1 ∉ p.2.2 ∧ (cls x.op = 3 → cls y.op = 3 → p.2.1 ≠ q.2.1) := by
  unfold okPairE at h
  split at h
  · rename_i x y h1 h2
    simp only [Bool.and_eq_true, Bool.or_eq_true, Bool.not_eq_true', bne_iff_ne, ne_eq, List.contains_eq_mem, decide_eq_false_iff_not] at h
    refine ⟨x, y, h1, h2, h.1.1.1, h.1.1.2, h.1.2, fun e1 e2 => ?_⟩
    rcases h.2 with (h | h) | h
    · exact absurd e1 h
    · exact absurd e2 h
    · exact h
  · cases h
/-- All that is asked of the rest of a list. -/
structure Rest (ops : Array Oper) (listed : Array Bool) (L : List Ent) : Prop where
  size : listed.size = ops.size
  nodup : (L.map (·.1)).Nodup
  iff : ∀ i, i < ops.size → (listed.getD i true = false ↔ i ∈ L.map (·.1))
  pair : L.Pairwise fun x y => okPairE ops x y = true
  ent : ∀ q ∈ L, ∃ k, okEnt ops k q = true
  down : ∀ i o, ops[i]? = some o → listed.getD i true = true → ∀ j ∈ depsOf o, listed.getD j false = true
theorem getD_set {listed : Array Bool} {i : Nat} (hi : i < listed.size) (m : Nat) (d : Bool) : (listed.setIfInBounds i true).getD m d = if m = i then true else listed.getD m d := by
  simp only [Array.getD_eq_getD_getElem?]
  split
  · rename_i e; subst e; simp [Array.getElem?_setIfInBounds, hi]
  · rename_i e; rw [Array.getElem?_setIfInBounds_ne (fun h => e h.symm)]
theorem ent_spec {k : Nat} {q : Ent} (h : okEnt ops k q = true) : ∃ o, ops[q.1]? = some o ∧ (cls o.op ≠ 2 → q.2.2 = []) ∧ q.1 ∉ q.2.2 ∧ (cls o.op = 3 → q.2.1 < k) ∧ ∀ l ∈ q.2.2, okAgain ops l = true := by
  unfold okEnt at h
  split at h
  · rename_i o ho
    simp only [Bool.and_eq_true, Bool.or_eq_true, beq_iff_eq, bne_iff_ne, ne_eq, decide_eq_true_eq, Bool.not_eq_true', List.contains_eq_mem, decide_eq_false_iff_not, List.all_eq_true, List.isEmpty_iff] at h
    obtain ⟨⟨⟨h1, h2⟩, h3⟩, h4⟩ := h
    refine ⟨o, ho, fun hc => ?_, h3, fun hc => ?_, h4⟩
    · rcases h1 with h1 | h1
      · exact absurd h1 hc
      · exact h1
    · rcases h2 with h2 | h2
      · exact absurd hc h2
      · exact h2
  · cases h
theorem again_spec {l p : Nat} (h : okAgain ops l = true) (hp : p < ops.size) : p = l ∨ reach ops 8 p l = true ∨ untouched ops l p = true := by
  simp only [okAgain, Bool.and_eq_true, List.all_eq_true, List.mem_range, Bool.or_eq_true, beq_iff_eq] at h
  rcases h.2 p hp with (h | h) | h
  · exact .inl h
  · exact .inr (.inl h)
  · exact .inr (.inr h)
theorem again_self {l : Nat} {x : Oper} (h : okAgain ops l = true) (hx : ops[l]? = some x) : ∀ d, x.dst = some d → looks ops x d = false := fun d hd => by
  simp only [okAgain, Bool.and_eq_true, hx] at h
  have := h.1.2
  rw [hd] at this
  simpa using this
/-- Whatever is ready may go first. -/
theorem front_of {listed : Array Bool} {L : List Ent} (R : Rest ops listed L) {i : Ent} {o : Oper} {post : List Ent} (ho : ops[i.1]? = some o) (h3 : ∀ j ∈ depsOf o, listed.getD j false = true) : ∀ (pre0 pre : List Ent), L = pre0 ++ pre ++ i :: post → Front ops i o pre
  | _, [], _ => trivial
  | pre0, j :: pre, e => by
    have hj : j ∈ L := by rw [e]; simp
    have hi : i ∈ L := by rw [e]; simp
    have lt_of : ∀ q ∈ L, q.1 < ops.size := fun q hq => by
      obtain ⟨k, hk⟩ := R.ent q hq
      obtain ⟨o, h1, _⟩ := ent_spec hk
      rcases Nat.lt_or_ge q.1 ops.size with h | h
      · exact h
      · rw [Array.getElem?_eq_none h] at h1; cases h1
    have unl : ∀ q ∈ L, listed.getD q.1 false = false := fun q hq => by
      have := (R.iff q.1 (lt_of q hq)).2 (List.mem_map.2 ⟨q, hq, rfl⟩)
      rw [Array.getD_eq_getD_getElem?] at this ⊢
      rw [Array.getElem?_eq_getElem (by rw [R.size]; exact lt_of q hq)] at this ⊢
      simpa using this
    have nolist : ∀ q ∈ L, ∀ l, listed.getD l true = true → l < ops.size → reach ops 8 q.1 l = false := fun q hq l hl hlt => by
      rw [Bool.eq_false_iff]
      intro hre
      have hol : ops[l]? = some ops[l] := Array.getElem?_eq_getElem hlt
      have := reach_listed R.down 8 q.1 l _ hol (R.down l _ hol hl) hre
      rw [unl q hq] at this
      cases this
    obtain ⟨kj, hkj⟩ := R.ent j hj
    obtain ⟨x, hx, x1, x2, _, x4⟩ := ent_spec hkj
    obtain ⟨ki, hki⟩ := R.ent i hi
    obtain ⟨o', ho', i1, i2, _, i4⟩ := ent_spec hki
    rw [ho] at ho'
    injection ho' with ho'
    subst ho'
    have hpw := R.pair
    rw [e] at hpw
    have pji : okPairE ops j i = true := (List.pairwise_append.1 hpw).2.2 j (by simp) i (by simp)
    obtain ⟨x', y', p1, p2, p3, p4, p5, p6⟩ := pair_spec pji
    rw [hx] at p1; injection p1 with p1; subst p1
    rw [ho] at p2; injection p2 with p2; subst p2
    have hnr : reach ops 8 j.1 i.1 = false := by
      rw [Bool.eq_false_iff]
      intro hre
      have := reach_listed R.down 8 j.1 i.1 o ho h3 hre
      rw [unl j hj] at this
      cases this
    have hsw : swapOk ops j i x o = true := by
      rcases p3 with p3 | p3
      · rw [hnr] at p3; cases p3
      · exact p3
    have before : ∀ l ∈ pre0, ∀ q, q = i ∨ q ∈ j :: pre → okPairE ops l q = true := fun l hl q hq => by
      rw [List.append_assoc] at hpw
      refine (List.pairwise_append.1 hpw).2.2 l hl q ?_
      rcases hq with rfl | hq
      · simp
      · simp only [List.mem_append]; exact .inl hq
    have ltl : ∀ l, okAgain ops l = true → l < ops.size := fun l hl => by
      simp only [okAgain, Bool.and_eq_true] at hl
      rcases Nat.lt_or_ge l ops.size with h | h
      · exact h
      · have := hl.1; rw [Array.getElem?_eq_none h] at this; simp at this
    refine ⟨⟨x, hx, hsw, x1, p6, fun l hl => ?_, fun hm => again_self (i4 _ hm) hx, ?_, fun l hl hne hnp => ?_⟩, front_of (post := post) R ho h3 (pre0 ++ [j]) pre (by rw [e]; simp)⟩
    · have hag := x4 l hl
      rcases again_spec hag (lt_of i hi) with h | h | h
      · exact absurd (h ▸ hl) p5
      · exfalso
        by_cases hll : listed.getD l true = true
        · rw [nolist i hi l hll (ltl l hag)] at h; cases h
        · have hml := (R.iff l (ltl l hag)).1 (by simpa using hll)
          obtain ⟨ql, hql, rfl⟩ := List.mem_map.1 hml
          -- where it stands
          rw [e] at hql
          have hjl : okPairE ops j ql = true ∨ ql = j ∨ ql ∈ pre0 := by
            rcases List.mem_append.1 hql with hql | hql
            · rcases List.mem_append.1 hql with hql | hql
              · exact .inr (.inr hql)
              · rcases List.mem_cons.1 hql with rfl | hql
                · exact .inr (.inl rfl)
                · refine .inl ?_
                  have := (List.pairwise_append.1 hpw).1
                  have := (List.pairwise_append.1 this).2.1
                  exact (List.pairwise_cons.1 this).1 ql hql
            · exact .inl ((List.pairwise_append.1 hpw).2.2 j (by simp) ql hql)
          rcases hjl with hjl | rfl | hjl
          · obtain ⟨_, _, _, _, _, _, q5, _⟩ := pair_spec hjl
            exact q5 hl
          · exact x2 hl
          · obtain ⟨_, _, _, _, _, q4, _, _⟩ := pair_spec (before ql hjl i (.inl rfl))
            rw [q4] at h; cases h
      · exact h
    · have hnd := R.nodup
      rw [e] at hnd
      simp only [List.map_append, List.map_cons, List.append_assoc] at hnd
      have := (List.nodup_append.1 hnd).2.1
      have := (List.nodup_append.1 this).1
      exact (List.nodup_cons.1 this).1
    · have hag := i4 l hl
      rcases again_spec hag (lt_of j hj) with h | h | h
      · exact absurd h.symm hne
      · exfalso
        by_cases hll : listed.getD l true = true
        · rw [nolist j hj l hll (ltl l hag)] at h; cases h
        · have hml := (R.iff l (ltl l hag)).1 (by simpa using hll)
          obtain ⟨ql, hql, rfl⟩ := List.mem_map.1 hml
          rw [e] at hql
          rcases List.mem_append.1 hql with hql | hql
          · rcases List.mem_append.1 hql with hql | hql
            · obtain ⟨_, _, _, _, _, q4, _, _⟩ := pair_spec (before ql hql j (.inr (by simp)))
              rw [q4] at h; cases h
            · rcases List.mem_cons.1 hql with rfl | hql
              · exact hne rfl
              · exact hnp (List.mem_map.2 ⟨ql, hql, rfl⟩)
          · rcases List.mem_cons.1 hql with rfl | hql
            · exact i2 hl
            · have := (List.pairwise_append.1 hpw).2.1
              obtain ⟨_, _, _, _, _, _, q5, _⟩ := pair_spec ((List.pairwise_cons.1 this).1 ql hql)
              exact q5 hl
      · exact h
theorem any_sound {φ : Nat → Ob} (hub : Upto φ b) (hback : backOk ops 0 ops.toList = true) (hdst : ops.toList.all (dstOk N) = true) {Q : Exit → Act → World → Prop} :
    ∀ (fuel : Nat) (listed : Array Bool) (L : List Ent), L.length ≤ fuel → Rest ops listed L → ∀ {T : Env} {h : List Ob}, b ≤ h.length → (∀ q ∈ L, ∀ o, ops[q.1]? = some o → cls o.op = 3 → h[b + q.2.1]? = some .res) →
      wpE P ops b K L T h → ∀ {w : World} {g : Gh} {a : Act}, Rel N B w g (fill φ h) a T → (∀ T' h' w' g' a', K T' h' → (∀ j, j < b → h[j]? = some .res → h'[j]? = some .res) → Rel N B w' g' (fill φ h') a' T' → Good B w g (fill φ h) w' g' (fill φ h') → Q .normal a' w') → wpAny P .any ops Q fuel listed a w := by
  have lt_of : ∀ (listed : Array Bool) (L : List Ent), Rest ops listed L → ∀ q ∈ L, q.1 < ops.size := fun listed L R q hq => by
    obtain ⟨k, hk⟩ := R.ent q hq
    obtain ⟨o, h1, _⟩ := ent_spec hk
    rcases Nat.lt_or_ge q.1 ops.size with h | h
    · exact h
    · rw [Array.getElem?_eq_none h] at h1; cases h1
  have none_ready : ∀ (listed : Array Bool) (L : List Ent), Rest ops listed L → Region.ready .any ops listed = [] → L = [] := by
    intro listed L R hr
    by_cases hne : L = []
    · exact hne
    exfalso
    have hex : ∃ n, n ∈ L.map (·.1) := List.exists_mem_of_ne_nil _ (by simpa using hne)
    obtain ⟨n, hn, hmin⟩ := least hex
    obtain ⟨q, hq, rfl⟩ := List.mem_map.1 hn
    have hlt' := lt_of listed L R q hq
    have : q.1 ∈ Region.ready .any ops listed := ready_of hlt' ((R.iff q.1 hlt').2 hn) (Array.getElem?_eq_getElem hlt') fun j hj => by
      have hjn := backOk_spec ops.toList 0 hback q.1 ops[q.1] (by simp [hlt']) j hj
      rw [Nat.zero_add] at hjn
      have hjs : j < ops.size := by omega
      have hjL : ¬ j ∈ L.map (·.1) := fun h => by have := hmin j h; omega
      have : ¬ listed.getD j true = false := fun h => hjL ((R.iff j hjs).1 h)
      rw [Array.getD_eq_getD_getElem?] at this ⊢
      rw [Array.getElem?_eq_getElem (by rw [R.size]; omega)] at this ⊢
      simpa using this
    rw [hr] at this
    cases this
  intro fuel
  induction fuel with
  | zero =>
    intro listed L hlen R T h hb hres k w g a r hQ
    have : L = [] := List.eq_nil_of_length_eq_zero (by omega)
    subst this
    refine ⟨?_, hQ _ _ _ g _ k (fun _ _ h => h) r (Good.refl r.ok r.hB)⟩
    rw [List.eq_nil_iff_forall_not_mem]
    intro i hi
    obtain ⟨h1, h2, _⟩ := ready_spec hi
    have := (R.iff i h1).1 h2
    cases this
  | succ fuel ih =>
    intro listed L hlen R T h hb hres k w g a r hQ
    refine ⟨fun hr => ?_, fun i hi => ?_⟩
    · have := none_ready listed L R hr
      subst this
      exact hQ _ _ _ g _ k (fun _ _ h => h) r (Good.refl r.ok r.hB)
    · obtain ⟨h1, h2, o, ho, h3⟩ := ready_spec hi
      have hiL := (R.iff i h1).1 h2
      obtain ⟨q, hqL, rfl⟩ := List.mem_map.1 hiL
      obtain ⟨pre, post, rfl⟩ := List.append_of_mem hqL
      obtain ⟨kq, hkq⟩ := R.ent q hqL
      obtain ⟨o', ho', qe, _, _, _⟩ := ent_spec hkq
      rw [ho] at ho'
      injection ho' with ho'
      subst ho'
      have hfr := front_of (post := post) R ho h3 [] pre (by simp)
      have hstep := wpE_front ho qe post pre hfr (fun hc => hres q hqL o ho hc) k
      have hu : Upto φ h.length := hub.mono hb
      have hnd : ((pre ++ post).map (·.1)).Nodup ∧ q.1 ∉ (pre ++ post).map (·.1) := by
        have := R.nodup
        simp only [List.map_append, List.map_cons] at this ⊢
        rw [List.nodup_append] at this
        obtain ⟨n1, n2, n3⟩ := this
        rw [List.nodup_cons] at n2
        refine ⟨?_, ?_⟩
        · rw [List.nodup_append]
          exact ⟨n1, n2.2, fun a ha b hb => n3 a ha b (by simp [hb])⟩
        · intro hm
          rcases List.mem_append.1 hm with hm | hm
          · exact n3 _ hm q.1 (by simp) rfl
          · exact n2.1 hm
      have hsub : (pre ++ post).Sublist (pre ++ q :: post) := List.Sublist.append_left (List.sublist_cons_self q post) pre
      have hset := fun m d => getD_set (listed := listed) (i := q.1) (by rw [R.size]; exact h1) m d
      have R' : Rest ops (listed.setIfInBounds q.1 true) (pre ++ post) := by
        refine ⟨by simp [R.size], hnd.1, fun m hm => ?_, R.pair.sublist hsub, fun p hp => R.ent p (hsub.subset hp), fun m p hp hm j hj => ?_⟩
        · rw [hset]
          by_cases e : m = q.1
          · subst e; simp only [if_true]; exact ⟨fun h => (by cases h), fun h => absurd h hnd.2⟩
          · rw [if_neg e, R.iff m hm]
            simp [e]
        · rw [hset] at hm ⊢
          split
          · rfl
          · by_cases e : m = q.1
            · subst e
              rw [ho] at hp
              injection hp with hp
              subst hp
              exact h3 j hj
            · rw [if_neg e] at hm
              exact R.down m p hp hm j hj
      refine stepE_sound (q := less q pre) hu hub ho ?_ hstep r fun T' h' w' a' k' ⟨g', q1, q2, q3⟩ => ?_
      · rw [List.all_eq_true] at hdst
        exact hdst o (by simpa using Array.mem_of_getElem? ho)
      · refine ih _ (pre ++ post) (by simp at hlen ⊢; omega) R' (Nat.le_trans hb (good_len q3)) (fun p hp o2 ho2 hc2 => ?_) k' q2 fun T2 h2 w2 g2 a2 k2 rr r2 z2 => hQ _ _ _ g2 _ k2 (fun j hj hr => rr j hj (q1 j (fun _ => by simp only [less]; omega) hr)) r2 (q3.trans z2)
        refine q1 _ (fun hc => ?_) (hres p (hsub.subset hp) o2 ho2 hc2)
        -- the rooms are apart
        have hpq : okPairE ops p q = true ∨ okPairE ops q p = true := by
          rcases List.mem_append.1 hp with hp | hp
          · exact .inl ((List.pairwise_append.1 R.pair).2.2 p hp q (by simp))
          · exact .inr ((List.pairwise_cons.1 (List.pairwise_append.1 R.pair).2.1).1 p hp)
        have hne : p.2.1 ≠ q.2.1 := by
          rcases hpq with hpq | hpq
          · obtain ⟨x, y, e1, e2, _, _, _, e3⟩ := pair_spec hpq
            rw [ho2] at e1; injection e1 with e1; subst e1
            rw [ho] at e2; injection e2 with e2; subst e2
            exact e3 hc2 hc
          · obtain ⟨x, y, e1, e2, _, _, _, e3⟩ := pair_spec hpq
            rw [ho] at e1; injection e1 with e1; subst e1
            rw [ho2] at e2; injection e2 with e2; subst e2
            exact fun e => e3 hc hc2 e.symm
        simp only [less]
        omega
/-- A region that draws its order. -/
theorem awp_draw {id : Nat} {Q : PostA} (hm : P.follows .mixedOrders = true) (k : Nat) (ord : List Ent) (hd : ops.toList.all (dstOk N) = true) (hord : okOrdE ops k ord = true) (kk : wpE P ops h.length (Q .normal) ord T (h ++ List.replicate k .res)) : AWp P N B (.region id ops true) Q T h := fun φ hu w g a r => by
  simp only [okOrdE, Bool.and_eq_true, List.all_eq_true, decide_eq_true_eq, List.contains_eq_mem, List.mem_range] at hord
  obtain ⟨⟨⟨⟨⟨o1, o2⟩, o3⟩, o4⟩, o5⟩, hlen⟩ := hord
  have hdr := Good.drew (g := g) r.ok r.hB
  have hrs := good_ress hdr.size k hdr.ok
  have hg := hdr.trans hrs
  have hfl : fill φ (h ++ List.replicate k .res) = fill φ h ++ List.replicate k .res := fill_app hu
  rw [← hfl] at hg
  have r' : Rel N B w.drew g (fill φ (h ++ List.replicate k .res)) a T := ⟨hg.ok, hg.size, fun i => AR.le hg.le _ _ (r.t i), r.d, r.n⟩
  refine wp_region_any hm ?_
  have R : Rest ops (Array.replicate ops.size false) ord := by
    refine ⟨by simp, o5, fun i hi => ?_, okPairsE_spec ord o1, fun q hq => ⟨k, o3 q hq⟩, fun i o ho hl => ?_⟩
    · simp [Array.getD_eq_getD_getElem?, hi]
      have := o4 i hi
      simpa using this
    · have hi : i < ops.size := by
        rcases Nat.lt_or_ge i ops.size with h | h
        · exact h
        · rw [Array.getElem?_eq_none h] at ho; cases ho
      simp [Array.getD_eq_getD_getElem?, hi] at hl
  refine any_sound (K := Q .normal) hu o2 hd ops.size _ ord hlen R (by simp) (fun q hq o ho hc => ?_) kk r' fun T' h' w' g' a' k' rr r2 q => ⟨T', h', k', g', fun i hi => ?_, r2, hg.trans q⟩
  · obtain ⟨o', ho', _, _, hs, _⟩ := ent_spec (o3 q hq)
    rw [ho] at ho'
    injection ho' with ho'
    subst ho'
    have := hs hc
    rw [List.getElem?_append_right (by omega), Nat.add_sub_cancel_left, List.getElem?_replicate, if_pos this]
  · have hlt := (List.getElem?_eq_some_iff.1 hi).1
    exact rr i hlt (by rw [List.getElem?_append_left hlt]; exact hi)
end
end Go.Proofs.YtpdghiplnlhnfaaGreat.Ax
