/-
  Joined: Ax12. Nothing is proved here of a statement.
-/
import Derived.Test.YtpdghiplnlhnfaaGreatMD
namespace Go.Proofs.YtpdghiplnlhnfaaGreat.Ax
set_option linter.unusedSimpArgs false
set_option linter.unusedVariables false
open Go Go.RowKit

mutual
theorem AR.ids {c : Ctx} (hn : ∀ i, c.live i → i < c.n) : ∀ (a : AV) (u : Value), AR c a u → a.lt c.n = true
  | .v _, _, _ => rfl
  | .sl e xs, _, ⟨A, _, _, _, h⟩ => by simpa [AV.lt] using ARows.ids hn A e 0 xs h
  | .tl id st, _, h => by simpa [AV.lt] using hn id h.2.1
  | .em, _, _ => rfl
  | .vw a e i n, _, ⟨_, _, _, _, _, h, _⟩ => by simpa [AV.lt] using AR.ids hn a _ h
  | .ptr id off, _, h => by simpa [AV.lt] using hn id h.1
  | .ep a e i k, _, ⟨_, _, _, h, _⟩ => by simpa [AV.lt] using AR.ids hn a _ h
  | .mp id, _, h => by simpa [AV.lt] using hn id h.1
  | .ag cs, _, ⟨_, _, h⟩ => by simpa [AV.lt] using ARs.ids hn cs _ h
  | .tup cs, _, ⟨_, _, h⟩ => by simpa [AV.lt] using ARs.ids hn cs _ h
  | .fn f fs cs, _, ⟨_, _, _, h, k⟩ => by simpa [AV.lt] using ⟨ARs.ids hn fs _ h, ARs.ids hn cs _ k⟩
  | .bad, _, _ => rfl
theorem ARs.ids {c : Ctx} (hn : ∀ i, c.live i → i < c.n) : ∀ (as : List AV) (vs : List Value), ARs c as vs → ltList c.n as = true
  | [], _, _ => rfl
  | a :: as, _, ⟨_, r, _, h2, h3⟩ => by simpa [ltList] using ⟨AR.ids hn a _ h2, ARs.ids hn as _ h3⟩
theorem ARows.ids {c : Ctx} (hn : ∀ i, c.live i → i < c.n) (A : Option Addr) (e : Nat) : ∀ (i : Nat) (rs : List (List AV)), ARows c A e i rs → ltRows c.n rs = true
  | _, [], _ => rfl
  | i, r :: rs, ⟨⟨_, h2⟩, h3⟩ => by simpa [ltRows] using ⟨ACells.ids hn A (i * e) r h2, ARows.ids hn A e (i + 1) rs h3⟩
theorem ACells.ids {c : Ctx} (hn : ∀ i, c.live i → i < c.n) (A : Option Addr) : ∀ (k : Nat) (as : List AV), ACells c A k as → ltList c.n as = true
  | _, [], _ => rfl
  | k, a :: as, ⟨⟨_, _, _, _, h3⟩, h4⟩ => by simpa [ltList] using ⟨AR.ids hn a _ h3, ACells.ids hn A (k + 1) as h4⟩
end
theorem MapRel.ids {c : Ctx} (hn : ∀ i, c.live i → i < c.n) : ∀ (l : List (AV × AV)) (es : List MapEntry), MapRel c l es → (l.all fun x => x.1.lt c.n && x.2.lt c.n) = true
  | [], _, _ => rfl
  | (a, b) :: r, _, ⟨e, q, h1, h2, h3, h5⟩ => by
    simp only [List.all_cons, Bool.and_eq_true]
    exact ⟨⟨AR.ids hn a _ h2, AR.ids hn b _ h3⟩, MapRel.ids hn r q h5⟩
theorem ltRows_of : ∀ (n : Nat) (xs : List (List AV)), ltList n xs.flatten = true → ltRows n xs = true
  | _, [], _ => rfl
  | n, r :: rs, h => by
    have key : ∀ (a b : List AV), ltList n (a ++ b) = true → ltList n a = true ∧ ltList n b = true := fun a => by
      induction a with
      | nil => intro b h; exact ⟨rfl, h⟩
      | cons x a ih => intro b h; simp only [List.cons_append, ltList, Bool.and_eq_true] at h ⊢; exact ⟨⟨h.1, (ih b h.2).1⟩, (ih b h.2).2⟩
    rw [List.flatten_cons] at h
    have := key r rs.flatten h
    simp only [ltRows, Bool.and_eq_true]
    exact ⟨this.1, ltRows_of n rs this.2⟩
section
variable {B : Nat} {w w' : World} {g g' : Gh} {h h' L : List Ob} {P : Program} {N : Nat} {T : Env} {Q : PostA} {c : Code}
theorem live_lt : ∀ i, (ctx w g h).live i → i < (ctx w g h).n := fun i ⟨o, h1, _⟩ => get_lt h1
theorem HOk.ids (k : HOk B w g h) : ∀ o ∈ h, ltOb h.length o = true := fun o ho => by
  obtain ⟨i, hi⟩ := List.mem_iff_getElem?.1 ho
  have := k.ok i o hi
  cases o with
  | box ty cs => obtain ⟨_, vs, _, h3⟩ := this; exact ARs.ids live_lt cs _ h3
  | row ty e xs st => obtain ⟨_, _, cells, _, h3⟩ := this; exact ltRows_of _ _ (ARs.ids live_lt _ _ h3)
  | mapo l =>
    obtain ⟨_, es, q, l', _, hp, h3, _⟩ := this
    have h4 := MapRel.ids live_lt l' _ h3
    have : (l.all fun x => x.1.lt h.length && x.2.lt h.length) = true := by
      rw [List.all_eq_true] at h4 ⊢
      exact fun x hx => h4 x (hp.mem_iff.2 hx)
    exact this
  | gone => rfl
  | res => rfl

/-- What was made behind the heap of a call's beginning is let go. -/
theorem Good.drop (k : Good B w g h w' g' (h' ++ L)) (hl : h'.length = h.length) (hi : ∀ o ∈ h', ltOb h'.length o = true) : Good B w g h w' g' h' := by
  have ok := HOk.take k.ok hi
  have hs := less_take w' g' h' L
  refine ⟨ok, ⟨fun a u hr => hs.rd a u (k.le.rd a u hr), by simp [ctx, hl], fun i hi => ?_, fun i hi => k.le.β i hi, fun i hi s hsome => ?_⟩, k.below, k.size⟩
  · have hlt := live_lt i hi
    have hlt : i < h.length := hlt
    exact hs.live i (by omega) (k.le.live i hi)
  · refine k.le.tok i hi s ?_
    have hlt : i < h.length := live_lt i hi
    rw [← hs.tok i (by omega)]
    exact hsome
theorem ltOb_set {n : Nat} {id : Nat} {o : Ob} (hh : ∀ o ∈ h, ltOb n o = true) (ho : ltOb n o = true) : ∀ p ∈ h.set id o, ltOb n p = true := fun p hp => by
  rcases List.mem_or_eq_of_mem_set hp with hp | hp
  · exact hh p hp
  · exact hp ▸ ho

/-- From now on a slice is only read. -/
theorem freeze_good (k : HOk B w g h) (hB : B ≤ w.heap.size) {id : Nat} {ty e : Nat} {xs : List (List AV)} {st : Nat} (ho : h[id]? = some (.row ty e xs st)) :
    Good B w g h w g (h.set id .gone) ∧ ∀ u, AR (ctx w g h) (.tl id st) u → AR (ctx w g (h.set id .gone)) (.sl e xs) u := by
  have hg : w.grownBy w ((Ob.row ty e xs st).blk g id) := ⟨rfl, rfl, rfl, Nat.le_refl _, fun _ _ _ => rfl⟩
  have hl := Le.turn (g' := g) (o' := .gone) ho rfl hg (fun _ _ => rfl) (fun _ _ => rfl) (fun b hb => by cases hb) (fun _ => ⟨rfl, fun s hs => by cases hs⟩)
  refine ⟨⟨k.turn ho hg (fun _ _ => rfl) (fun _ _ => rfl) (fun b hb => by cases hb) hl trivial, hl, Below.refl _ _, hB⟩, fun u hu => ?_⟩
  have hr : rowsOf h (.tl id st) = some xs := by simp [rowsOf, ho]
  have he : eOf h (.tl id st) = some e := by simp [eOf, ho]
  obtain ⟨A, q, e1, e2, e3, _⟩ := rows_ok k _ hu hr
  have hcur := tl_cur hu ho
  have hra := e3 e he
  refine ⟨A, q, e1, e2, ?_⟩
  have key : ∀ (r : List AV) (i : Nat) (k0 : Nat) , (∀ j a, r[j]? = some a → ∃ ad u, A = some ad ∧ w.cell? (ad.add (i * e + (k0 + j))) = some u ∧ AR (ctx w g h) a u) → ACells (ctx w g (h.set id .gone)) A (i * e + k0) r := by
    intro r i
    induction r with
    | nil => intro _ _; trivial
    | cons x r ih =>
      intro k0 hc
      obtain ⟨ad, u', z1, z2, z3⟩ := hc 0 x rfl
      refine ⟨⟨ad, u', z1, ⟨fun ⟨j, p, hp, hpb⟩ => ?_, by simpa using z2⟩, AR.le hl _ _ z3⟩, ?_⟩
      · -- the row's own block belongs to nobody any more
        have hown : (g.cur id).ownBlock = some ad.block := by
          have : g.cur id = u := hcur.symm
          rw [this, e1, z1]; rfl
        by_cases hj : j = id
        · subst hj
          rw [List.getElem?_set_self (get_lt ho)] at hp
          injection hp with hp
          subst hp
          cases hpb
        · rw [List.getElem?_set_ne (fun e => hj e.symm)] at hp
          have hbl : (ad.add (i * e + k0)).block = ad.block := by unfold Addr.add; split <;> rfl
          rw [hbl] at hpb
          exact k.apart j id p _ _ hj hp ho hpb hown
      · have := ih (k0 + 1) fun j a hj => by
          have := hc (j + 1) a hj
          rw [show k0 + (j + 1) = k0 + 1 + j by omega] at this
          exact this
        rw [show i * e + k0 + 1 = i * e + (k0 + 1) by omega]
        exact this
  have rows : ∀ (ys : List (List AV)) (i : Nat), (∀ j r, ys[j]? = some r → xs[i + j]? = some r) → ARows (ctx w g (h.set id .gone)) A e i ys := by
    intro ys
    induction ys with
    | nil => intro _ _; trivial
    | cons r ys ih =>
      intro i hy
      have h0 := hy 0 r rfl
      simp only [Nat.add_zero] at h0
      refine ⟨⟨hra.len r (List.mem_of_getElem? h0), ?_⟩, ih (i + 1) fun j r' hj => by
        have := hy (j + 1) r' hj
        rw [show i + (j + 1) = i + 1 + j by omega] at this
        exact this⟩
      have := key r i 0 fun j a hj => by
        rw [Nat.zero_add]
        exact hra.cell i j r a h0 hj
      simpa using this
  exact rows xs 0 fun j r hj => by simpa using hj
theorem aft_ghost {φ : Nat → Ob} {g : Gh} {h' : List Ob} {T' : Env} {g' : Gh} {a : Act} (hk : ResK h h') (k1 : Good B w g (fill φ h) w g' (fill φ h')) (ht : TRel (ctx w g' (fill φ h')) T' a) (hd : a.defers = []) (hn : a.tmps.size = N) : Aft N B φ w g h T' h' a w :=
  ⟨g', hk, ⟨k1.ok, k1.size, ht, hd, hn⟩, k1⟩
theorem awp_freeze (d : Nat) {id st : Nat} {ty e : Nat} {xs : List (List AV)} (hd : T d = .tl id st) (ho : h[id]? = some (.row ty e xs st)) (k : AWp P N B c Q (upd T d (.sl e xs)) (h.set id .gone)) : AWp P N B c Q T h :=
  awp_pre k fun φ hu w g a r => by
    obtain ⟨k1, k2⟩ := freeze_good r.ok r.hB (fill_live ho rfl)
    rw [← fill_set rfl] at k1 k2
    refine aft_ghost (resK_set ho rfl) k1 (fun i => ?_) r.d r.n
    unfold upd
    split
    · rename_i hi
      subst hi
      have := r.t i
      rw [hd] at this
      exact k2 _ this
    · exact AR.le k1.le _ _ (r.t i)
/-- A nil slice that is to be appended to. -/
theorem awp_own (d : Nat) (ty e : Nat) (he : 0 < e) (hd : T d = .v (.slice none 0 0)) (k : AWp P N B c Q (upd T d (.tl h.length 0)) (h ++ [.row ty e [] 0])) : AWp P N B c Q T h :=
  awp_pre k fun φ hu w g a r => by
    obtain ⟨k1, k2⟩ := more_row r.ok r.hB (ty := ty) he (xs := []) (by simp) 0 (Below.refl _ w) (World.ownsRow_nil w B ty e) rfl (by simp [Value.ownBlock])
    rw [← fill_app hu, fill_len] at k1 k2
    refine aft_ghost resK_app k1 (fun i => ?_) r.d r.n
    unfold upd
    split
    · rename_i hi
      subst hi
      have := r.t i
      rw [hd] at this
      have this : a.tmps.getD i undef = .slice none 0 0 := this
      rw [this]
      exact k2
    · exact AR.le k1.le _ _ (r.t i)
/-- What a slot holds may be forgotten. -/
theorem awp_forget {T' : Env} (hT : ∀ i, T' i = T i ∨ T' i = .bad) (k : AWp P N B c Q T' h) : AWp P N B c Q T h :=
  awp_pre k fun φ hu w g a r => aft_ghost .refl (Good.refl r.ok r.hB) (fun i => by
    rcases hT i with e | e
    · rw [e]; exact r.t i
    · rw [e]; trivial) r.d r.n
/-- The beginning of a slice of the call's own may be appended to; the slice itself may not any more. -/
theorem reown_good (k : HOk B w g h) (hB : B ≤ w.heap.size) {id : Nat} {ty e n : Nat} {xs : List (List AV)} {st : Nat} (ho : h[id]? = some (.row ty e xs st)) (hn : n ≤ xs.length) {u : Value} (hu : AR (ctx w g h) (.vw (.tl id st) e 0 n) u) :
    ∃ g', Good B w g h w g' (h.set id (.row ty e (xs.take n) (st + 1))) ∧ AR (ctx w g' (h.set id (.row ty e (xs.take n) (st + 1)))) (.tl id (st + 1)) u := by
  obtain ⟨A, m, cp, A', kk, h1, h2, h3, h4, h5, h60⟩ := hu
  obtain ⟨h6, h7⟩ := h60 rfl
  clear h60
  subst h7
  have hcur := tl_cur h1 ho
  obtain ⟨q0, q1, cells, q2, q3⟩ := k.ok _ _ ho
  have q2 : w.ownsRow B ty e (g.cur id) xs.length cells := q2
  have hlen : (xs.take n).length = n := by rw [List.length_take]; omega
  have hx : ∀ x ∈ xs.take n, x.length = e := fun x hx => q1 x (List.mem_of_mem_take hx)
  have hfl : (xs.take n).flatten = xs.flatten.take (n * e) := by
    have h8 : xs.flatten = (xs.take n).flatten ++ (xs.drop n).flatten := by rw [← List.flatten_append, List.take_append_drop]
    have h9 : (xs.take n).flatten.length = n * e := by rw [flatten_len hx, hlen]
    generalize (xs.take n).flatten = p at h8 h9
    rw [h8, ← h9, List.take_left]
  have hars : ARs (ctx w g h) (xs.take n).flatten (cells.take (n * e)) := by
    rw [hfl]
    have htk : ∀ (as : List AV) (vs : List Value) (j : Nat), ARs (ctx w g h) as vs → ARs (ctx w g h) (as.take j) (vs.take j) := by
      intro as
      induction as with
      | nil => intro vs j e; have e : vs = [] := e; subst e; simp [ARs]
      | cons a as ih =>
        intro vs j ⟨v, r, e1, e2, e3⟩
        subst e1
        cases j with
        | zero => simp [ARs]
        | succ j => exact ⟨v, _, rfl, e2, ih r j e3⟩
    exact htk _ _ _ q3
  have hown : w.ownsRow B ty e u (xs.take n).length (cells.take (n * e)) ∧ ∀ b, u.ownBlock = some b → (g.cur id).ownBlock = some b := by
    rw [hlen]
    rcases q2.2 with ⟨z1, z2⟩ | ⟨gg, cap, cur, z1, z2, z3, z4, z5, z6, z7⟩
    · have z1 : g.cur id = _ := z1
      rw [z1] at hcur
      injection hcur with y1 y2 y3
      subst y1
      rw [z2] at hn
      have hn0 : n = 0 := by simpa using hn
      subst hn0
      have hA' : A' = none := by rcases h6 with h | h <;> simpa using h
      subst h4 hA'
      have : kk = 0 := y3
      subst this
      refine ⟨by simpa using World.ownsRow_nil w B ty e, fun b hb => by simp [Value.ownBlock] at hb⟩
    · have z1 : g.cur id = _ := z1
      have hcur2 := hcur
      rw [z1] at hcur2
      injection hcur2 with y1 y2 y3
      subst y1 y3
      have hA' : A' = some ⟨gg, 0, none⟩ := by
        rcases h6 with h | h
        · exact h
        · rw [h]; simp [Addr.add_lit]
      subst h4 hA'
      have hl := q2.1
      refine ⟨⟨?_, .inr ⟨gg, _, cur, rfl, z2, z3, by omega, z5, z6, ?_⟩⟩, fun b hb => ?_⟩
      · rw [List.length_take, hl]
        have : n * e ≤ xs.length * e := Nat.mul_le_mul_right _ hn
        omega
      · rw [← z7, List.take_take]
        have : n * e ≤ xs.length * e := Nat.mul_le_mul_right _ hn
        congr 1
        omega
      · rw [z1]; exact hb
  obtain ⟨ho1, ho2⟩ := hown
  refine ⟨_, turn_row (v' := u) (st' := st + 1) k hB ho hx ⟨rfl, rfl, rfl, Nat.le_refl _, fun _ _ _ => rfl⟩ ho1 hars (.inr (by omega)) (fun b hb => .inl (ho2 b hb)), ⟨A', _, kk, h4⟩, ⟨_, List.getElem?_set_self (get_lt ho), rfl⟩, fun s hs => ?_⟩
  have : st + 1 = s := by
    simp only [ctx, List.getElem?_set_self (get_lt ho), Ob.tok, Option.some.injEq] at hs
    exact hs
  exact ⟨by omega, fun _ => by simp [ctx]⟩
theorem awp_reown (d : Nat) {id st : Nat} {ty e n : Nat} {xs : List (List AV)} (hd : T d = .vw (.tl id st) e 0 n) (ho : h[id]? = some (.row ty e xs st)) (hn : n ≤ xs.length) (k : AWp P N B c Q (upd T d (.tl id (st + 1))) (h.set id (.row ty e (xs.take n) (st + 1)))) : AWp P N B c Q T h :=
  awp_pre k fun φ hu w g a r => by
    have hr := r.t d
    rw [hd] at hr
    obtain ⟨g', k1, k2⟩ := reown_good r.ok r.hB (fill_live ho rfl) hn hr
    rw [← fill_set rfl] at k1 k2
    refine aft_ghost (resK_set ho rfl) k1 (fun i => ?_) r.d r.n
    unfold upd
    split
    · rename_i hi
      subst hi
      exact k2
    · exact AR.le k1.le _ _ (r.t i)
/-- A slice of nothing is nil, or it is not. -/
theorem awp_nil (d : Nat) {x : AV} (hd : T d = x) (hr : rowsOf h x = some []) (k1 : ∀ m, AWp P N B c Q (upd T d (.v (.slice none 0 m))) h) (k2 : AWp P N B c Q (upd T d .em) h) : AWp P N B c Q T h := fun φ hu w g a r => by
  have hx := r.t d
  rw [hd] at hx
  obtain ⟨A, m, e1, _⟩ := rows_ok r.ok _ hx (rowsOf_fill _ hr)
  have put : ∀ y, AR (ctx w g (fill φ h)) y (a.tmps.getD d undef) → Rel N B w g (fill φ h) a (upd T d y) := fun y hy => ⟨r.ok, r.hB, fun i => by
    unfold upd
    split
    · rename_i hi; subst hi; exact hy
    · exact r.t i, r.d, r.n⟩
  cases A with
  | none => exact k1 m φ hu w g a (put _ e1)
  | some ad => exact k2 φ hu w g a (put _ ⟨ad, m, e1⟩)
/-- Room for what is nothing yet. -/
theorem good_res (k : HOk B w g h) (hB : B ≤ w.heap.size) : Good B w g h w g (h ++ [.res]) := by
  have hl := Le.more (g := g) (g' := g) (h := h) (o := .res) (Below.refl _ w) (fun _ _ => rfl) (fun _ _ => rfl) (fun b hb => by cases hb)
  exact ⟨k.more (Below.refl _ w) (fun _ _ => rfl) (fun _ _ => rfl) (fun b hb => by cases hb) hl trivial, hl, Below.refl _ _, hB⟩
theorem good_ress (hB : B ≤ w.heap.size) : ∀ (n : Nat) {h : List Ob}, HOk B w g h → Good B w g h w g (h ++ List.replicate n .res)
  | 0, h, k => by simpa using Good.refl k hB
  | n + 1, h, k => by
    have k1 := good_res k hB
    have k2 := good_ress hB n k1.ok
    rw [List.append_assoc] at k2
    exact k1.trans k2

/-- What is let go is not looked at by what stays. -/
def KeepLt (h h1 : List Ob) : Prop := ∀ φ : Nat → Ob, Upto φ h.length → (∀ o ∈ fill φ h, ltOb h.length o = true) → ∀ o ∈ fill φ h1, ltOb h1.length o = true
theorem KeepLt.refl : KeepLt h h := fun _ _ k => k
theorem KeepLt.set {h1 : List Ob} (k : KeepLt h h1) {i : Nat} {o : Ob} (hr : o.isRes = false) (ho : ltOb h1.length o = true) : KeepLt h (h1.set i o) := fun φ hu q => by
  rw [fill_set hr, List.length_set]
  exact ltOb_set (k φ hu q) ho
/-- The end of a function: what it made is let go; of what was there some may have turned. -/
def endA (P : Program) (rs : List ResultVar) (h : List Ob) (R : AV → List Ob → Prop) : PostA
  | .normal, T, h' | .ret, T, h' => ∃ r, resA P T h' rs = some r ∧ (R r h' ∨ ∃ h1 L, h' = h1 ++ L ∧ h1.length = h.length ∧ r.lt h1.length = true ∧ KeepLt h h1 ∧ R r h1)
  | _, _, _ => False
theorem acalls_of {f : FuncId} {fn : Func} {c : Code} {as : List AV} {R : AV → List Ob → Prop} {rs : List ResultVar} {N : Nat} (hf : P.funcs[f]? = some fn) (hb : fn.body = some c) (hN : fn.ntmps = N) (hrs : fn.results.toList = rs) (hn : as.length ≤ N) (hok : okFn P f = true) (hex : ∃ r h', R r h' ∧ ResK h h')
    (k : ∀ B, AWp P N B c (endA P rs h R) (nth as) h) : ACalls P f as h R := ⟨hok, hex, fun φ hu B w g vs hh hB hargs => by
  subst hN hrs
  have := acalls_of_awp (R := fun r h' => R r h' ∨ ∃ h1 L, h' = h1 ++ L ∧ h1.length = h.length ∧ r.lt h1.length = true ∧ KeepLt h h1 ∧ R r h1) hf hb hn hok (let ⟨r, h', q1, q2⟩ := hex; ⟨r, h', .inl q1, q2⟩)
    (fun B => (k B).mono fun e T h' q => by cases e <;> exact q)
  refine (this.2.2 φ hu B w g vs hh hB hargs).mono fun e w' ⟨v, r, h', g', e1, e2, ek, e3, e4⟩ => ?_
  rcases e2 with e2 | ⟨h1, L, rfl, q1, q2, q3, q4⟩
  · exact ⟨v, r, h', g', e1, e2, ek, e3, e4⟩
  · have hu1 : Upto φ h1.length := hu.mono (by omega)
    rw [fill_app hu1] at e3 e4
    refine ⟨v, r, h1, g', e1, q4, fun i hi => ?_, e3.drop (by rw [fill_len, fill_len, q1]) ?_, AR.less (less_take w' g' (fill φ h1) L) _ _ (by rw [fill_len]; exact q2) e4⟩
    · have := ek i hi
      rw [List.getElem?_append_left (by rw [q1]; exact (List.getElem?_eq_some_iff.1 hi).1)] at this
      exact this
    · rw [fill_len]
      have hids := hh.ids
      rw [fill_len] at hids
      exact q3 φ hu hids⟩
/-- A function that leaves memory as it was. -/
def Pure (P : Program) (f : FuncId) (as : List AV) (r : AV) : Prop := ∀ h, ACalls P f as h fun r' h' => r' = r ∧ h' = h
theorem endA_pure {rs : List ResultVar} {r : AV} {T : Env} {L : List Ob} (hr : resA P T (h ++ L) rs = some r) (hl : r.lt h.length = true) : endA P rs h (fun r' h' => r' = r ∧ h' = h) .ret T (h ++ L) :=
  ⟨r, hr, .inr ⟨h, L, rfl, rfl, hl, .refl, rfl, rfl⟩⟩
theorem endA_pure0 {rs : List ResultVar} {r : AV} {T : Env} (hr : resA P T h rs = some r) : endA P rs h (fun r' h' => r' = r ∧ h' = h) .ret T h :=
  ⟨r, hr, .inl ⟨rfl, rfl⟩⟩
theorem endA_n {rs : List ResultVar} {R : AV → List Ob → Prop} {T : Env} {h' : List Ob} : endA P rs h R .normal T h' = endA P rs h R .ret T h' := rfl
end
end Go.Proofs.YtpdghiplnlhnfaaGreat.Ax
