/-
  Joined: Ax9, Ax9b, Ax9c, Ax10, Ax10b. Nothing is proved here of a statement.
-/
import Derived.Test.YtpdghiplnlhnfaaGreatMB
import Derived.Laws.Pointers
import Derived.WalkSpells
namespace Go.Proofs.YtpdghiplnlhnfaaGreat.Ax
set_option linter.unusedSimpArgs false
set_option linter.unusedVariables false
open Go Go.RowKit
section
variable {B : Nat} {w : World} {g : Gh} {h h' : List Ob} {P : Program} {x : AV} {T : Nat → AV} {a : Act}

theorem eqFields_int (d : Nat) : ∀ (fs : List Field) (o : Nat) (xs ys : List AV) (us vs : List Value) (U V : Array Value) (r : Bool),
    intFields P o (fs.map fun f => (f.offset, f.type)) = true → (fs.all fun f => f.name != "_") = true → xs.length = fs.length → eqCells xs ys = some r → ARs (ctx w g h) xs us → ARs (ctx w g h) ys vs →
    (∀ j, us[j]? = U[o + j]?) → (∀ j, vs[j]? = V[o + j]?) → (Op.eqFields (d + 1) U V fs).run P w = .ok r w
  | [], o, xs, ys, us, vs, U, V, r, _, _, hl, he, _, _, _, _ => by
    have : xs = [] := List.eq_nil_of_length_eq_zero hl
    subst this
    cases ys with
    | nil => injection he with he; subst he; simp [Op.eqFields]
    | cons y ys => cases he
  | f :: fs, o, xs, ys, us, vs, U, V, r, hi, hn, hl, he, hx, hy, hU, hV => by
    cases xs with
    | nil => cases hl
    | cons x xs =>
      cases ys with
      | nil => cases x <;> try (cases he; done)
               rename_i v; cases v <;> cases he
      | cons y ys =>
        cases x <;> try (cases he; done)
        rename_i x
        cases x <;> try (cases he; done)
        rename_i k m
        cases y <;> try (cases he; done)
        rename_i y
        cases y <;> try (cases he; done)
        rename_i k' m'
        simp only [eqCells] at he
        split at he
        · rename_i hk
          subst hk
          cases hr : eqCells xs ys with
          | none => rw [hr] at he; cases he
          | some r' =>
            rw [hr] at he
            injection he with he
            obtain ⟨u, us', hu1, hu2, hu3⟩ := hx
            obtain ⟨v, vs', hv1, hv2, hv3⟩ := hy
            have hu2 : u = .int k m := hu2
            have hv2 : v = .int k m' := hv2
            subst hu2 hv2 hu1 hv1
            simp only [List.map_cons, intFields, Bool.and_eq_true, beq_iff_eq] at hi
            obtain ⟨⟨ho, hkk⟩, hi⟩ := hi
            simp only [List.all_cons, Bool.and_eq_true] at hn
            cases hty : (tyOf P f.type).kind <;> rw [hty] at hkk <;> try (cases hkk; done)
            rename_i kk
            obtain ⟨dd, ii, hun, hin, eq⟩ := ty_ok (ok_kind hty (by simp))
            rw [eq] at hty
            cases dd <;> try (cases hty; done)
            rename_i k2
            have h0U := hU 0
            have h0V := hV 0
            simp only [List.getElem?_cons_zero, Nat.add_zero] at h0U h0V
            have hpU : (_root_.Go.part f.type U f.offset).run P w = .ok (.int k m) w := by
              simp [Go.part, isAgg, run_underlying hun, ho, ← h0U]
            have hpV : (_root_.Go.part f.type V f.offset).run P w = .ok (.int k m') w := by
              simp [Go.part, isAgg, run_underlying hun, ho, ← h0V]
            have ih := eqFields_int d fs (o + 1) xs ys us' vs' U V r' hi hn.2 (by simpa using hl) hr hu3 hv3
              (fun j => by have := hU (j + 1); rw [show o + 1 + j = o + (j + 1) by omega]; simpa using this) (fun j => by have := hV (j + 1); rw [show o + 1 + j = o + (j + 1) by omega]; simpa using this)
            have hne : f.name ≠ "_" := by simpa using hn.1
            simp only [Op.eqFields, hne, ne_eq, not_false_eq_true, if_true, Sem.run_bind, hpU, hpV, Result.andThen_ok, run_equalIn_int w d f.type k k2 m m' hun, Sem.run_ite, Sem.run_pure, ih]
            cases hb : (m == m') <;> simp [← he, hb]
        · cases he

theorem eq_struct (hT : TRel (ctx w g h) T a) {t : TypeId} {X Y : Operand} {xs ys : List AV} {fs : List (Nat × TypeId)} {b : Bool} (hX : ev T X = .ag xs) (hY : ev T Y = .ag ys) (hk : (tyOf P t).kind = .struct fs) (hp : plainEq P t = true) (hi : intFields P 0 fs = true) (hl : xs.length = fs.length) (he : eqCells xs ys = some b) :
    ∃ U V, a.eval X = .agg U ∧ a.eval Y = .agg V ∧ (Op.equalIn 10000 t (.agg U) (.agg V)).run P w = .ok b w ∧ P.eqGuardType P.depth t = false := by
  have hx := ev_ar hT X
  have hy := ev_ar hT Y
  rw [hX] at hx
  rw [hY] at hy
  obtain ⟨U, e1, hx⟩ := hx
  obtain ⟨V, e2, hy⟩ := hy
  obtain ⟨d, i, hu, hin, eq⟩ := ty_ok (ok_kind hk (by simp))
  rw [eq] at hk
  cases d <;> try (cases hk; done)
  rename_i fields
  injection hk with hk
  simp only [plainEq, Bool.and_eq_true, Bool.not_eq_true'] at hp
  have hf : P.fieldsOf t = fields := by simp [Program.fieldsOf, hu]
  rw [hf] at hp
  refine ⟨U, V, e1, e2, ?_, hp.1.1⟩
  rw [run_equalIn_struct (P := P) w 9999 t U V (by rw [hf]; exact hu) hp.1.2, hf]
  exact eqFields_int (g := g) (h := h) 9998 fields.toList 0 xs ys U.toList V.toList U V b (by rw [← hk] at hi; exact hi) hp.2 (by rw [hl, ← hk]; simp) he hx hy (fun j => by simp) (fun j => by simp)

theorem did_bin (hh : HOk B w g h) (hB : B ≤ w.heap.size) (hT : TRel (ctx w g h) T a) {op : BinOp} {t : TypeId} {X Y : Operand} (hx : binA P op t (ev T X) (ev T Y) = some x) :
    DidV P (do eqGuard op t X Y (a.eval X) (a.eval Y); binOp op t (a.eval X) (a.eval Y)) B w g h x h := by
  unfold binA at hx
  split at hx
  · rename_i k m k' n eX eY
    have e1 := ev_v hT eX
    have e2 := ev_v hT eY
    have hg : (eqGuard op t X Y (.int k m) (.int k' n)).run P w = .ok () w := by cases op <;> simp [eqGuard]
    split at hx
    · split at hx
      · rename_i hn
        have hn' : ¬ n < 0 := by omega
        rw [e1, e2]
        cases op <;> simp only [shiftA] at hx <;> first
          | cases hx; done
          | (injection hx with hx
             subst hx
             refine didV_same hh hB ?_ rfl
             simp [hg, binOp, Op.shift, hn']
             done)
      · cases hx
    · rename_i hsh
      split at hx
      · rename_i hk
        subst hk
        rw [e1, e2]
        cases op <;> simp only [arithA] at hx <;> first
          | cases hx; done
          | (injection hx with hx; subst hx
             refine didV_same hh hB ?_ rfl
             simp [hg, binOp, Op.intArith, Op.intCmp, Op.intDiv]
             done)
          | (split at hx
             · cases hx
             · rename_i hn
               injection hx with hx
               subst hx
               refine didV_same hh hB ?_ rfl
               simp [hg, binOp, Op.intDiv, hn])
      · cases hx
  · rename_i p q eX eY
    have e1 := ev_v hT eX
    have e2 := ev_v hT eY
    split at hx
    · rename_i hk
      injection hx with hx
      subst hx
      obtain ⟨d, i, hu, hin, eq⟩ := ty_ok (ok_kind hk (by simp))
      rw [eq] at hk
      cases d <;> try (cases hk; done)
      rw [e1, e2]
      refine didV_same hh hB ?_ rfl
      simp [eqGuard, binOp, Op.equal, Op.maxDepth, run_equalIn_bool' w 9999 t p q hu]
    · rename_i hk
      injection hx with hx
      subst hx
      obtain ⟨d, i, hu, hin, eq⟩ := ty_ok (ok_kind hk (by simp))
      rw [eq] at hk
      cases d <;> try (cases hk; done)
      rw [e1, e2]
      refine didV_same hh hB ?_ rfl
      simp [eqGuard, binOp, Op.equal, Op.maxDepth, run_equalIn_bool' w 9999 t p q hu]
    · cases hx
  · rename_i xs ys eX eY
    split at hx
    · rename_i fs hk
      split at hx
      · rename_i hc
        simp only [Bool.and_eq_true, beq_iff_eq] at hc
        cases he : eqCells xs ys with
        | none => rw [he] at hx; cases hx
        | some b =>
          rw [he] at hx
          injection hx with hx
          subst hx
          obtain ⟨U, V, e1, e2, e3, e4⟩ := eq_struct hT eX eY hk hc.1.1 hc.1.2 hc.2 he
          rw [e1, e2]
          refine didV_same hh hB ?_ rfl
          simp only [Sem.run_bind, run_eqGuard_agg w _ t X Y U V e4, Result.andThen_ok, run_eql_struct, e3]
      · cases hx
    · rename_i fs hk
      split at hx
      · rename_i hc
        simp only [Bool.and_eq_true, beq_iff_eq] at hc
        cases he : eqCells xs ys with
        | none => rw [he] at hx; cases hx
        | some b =>
          rw [he] at hx
          injection hx with hx
          subst hx
          obtain ⟨U, V, e1, e2, e3, e4⟩ := eq_struct hT eX eY hk hc.1.1 hc.1.2 hc.2 he
          rw [e1, e2]
          refine didV_same hh hB ?_ rfl
          simp only [Sem.run_bind, run_eqGuard_agg w _ t X Y U V e4, Result.andThen_ok, run_neq_struct, e3]
      · cases hx
    · cases hx
  · rename_i eX eY
    have e1 := ev_v hT eX
    have e2 := ev_v hT eY
    split at hx
    all_goals first | cases hx; done | skip
    all_goals
      rename_i hk
      injection hx with hx
      subst hx
      obtain ⟨d, i, hu, hin, eq⟩ := ty_ok (ok_kind hk (by simp))
      rw [eq] at hk
      cases d <;> try (cases hk; done)
      rw [e1, e2]
      refine didV_same hh hB ?_ rfl
      have hpt : P.underlying t = some (.pointer (P.pointee t)) := by simp [Program.pointee, hu]
      simp [eqGuard, run_eql_pointer_nil w t _ hpt, run_neq_pointer_nil w t _ hpt]
  · rename_i id off eX eY
    have hx1 := ev_ar hT X
    rw [eX] at hx1
    obtain ⟨_, e1⟩ := hx1
    have e2 := ev_v hT eY
    split at hx
    all_goals first | cases hx; done | skip
    all_goals
      rename_i hk
      injection hx with hx
      subst hx
      obtain ⟨d, i, hu, hin, eq⟩ := ty_ok (ok_kind hk (by simp))
      rw [eq] at hk
      cases d <;> try (cases hk; done)
      rw [e1, e2]
      refine didV_same hh hB ?_ rfl
      have hpt : P.underlying t = some (.pointer (P.pointee t)) := by simp [Program.pointee, hu]
      simp [eqGuard, run_eql_pointer_nil w t _ hpt, run_neq_pointer_nil w t _ hpt]
  · cases hx
theorem nonNil_some (hh : HOk B w g h) {y : AV} {u : Value} (hn : nonNil h y = true) (hu : AR (ctx w g h) y u) : ∃ A n k, u = .slice (some A) n k := by
  unfold nonNil at hn
  rw [Bool.or_eq_true] at hn
  rcases hn with hn | hn
  · unfold isEm at hn
    split at hn
    · obtain ⟨A, k, e⟩ := hu; exact ⟨A, 0, k, e⟩
    · cases hn
  · unfold someRow at hn
    split at hn
    · rename_i r rs e hr he
      simp only [decide_eq_true_eq] at hn
      obtain ⟨A, k, e1, e2, e3, _⟩ := rows_ok hh _ hu hr
      have hra := e3 e he
      have hl := hra.len r (by simp)
      obtain ⟨ad, u', z1, _⟩ := hra.cell 0 0 r (nth r 0) rfl (get_nth (by omega))
      subst z1
      exact ⟨ad, _, _, e1⟩
    · cases hn
theorem did_nil (hh : HOk B w g h) (hB : B ≤ w.heap.size) (hT : TRel (ctx w g h) T a) {op : BinOp} {t : TypeId} {X Y : Operand} (hy : isNilOp Y = true) (hx : nilA P h op t (ev T X) = some x) :
    DidV P (do eqGuard op t X Y (a.eval X) (a.eval Y); binOp op t (a.eval X) (a.eval Y)) B w g h x h := by
  have hY : ∃ n c, a.eval Y = .slice none n c := by
    unfold isNilOp at hy
    split at hy
    · exact ⟨_, _, rfl⟩
    · cases hy
  obtain ⟨n, c, e2⟩ := hY
  rw [e2]
  unfold nilA at hx
  split at hx
  · rename_i e hk
    obtain ⟨d, i, hu, hin, eq⟩ := ty_ok (ok_kind hk (by simp))
    rw [eq] at hk
    cases d <;> try (cases hk; done)
    have key : ∀ A m k b, a.eval X = .slice A m k → A.isNone = b → truthA op b = some x → DidV P (do eqGuard op t X Y (a.eval X) (.slice none n c); binOp op t (a.eval X) (.slice none n c)) B w g h x h := fun A m k b e1 hb ht => by
      rw [e1]
      cases op <;> simp only [truthA] at ht <;> first
        | cases ht; done
        | skip
      · injection ht with ht
        subst ht
        refine didV_same hh hB ?_ rfl
        simp [eqGuard, Lib.run_eql_slice_nil w t _ A m k n c hu, hb]
      · injection ht with ht
        subst ht
        refine didV_same hh hB ?_ rfl
        simp [eqGuard, run_neq_slice_nil_any w t _ A m k n c hu, hb]
    have hX := ev_ar hT X
    split at hx
    · rename_i hv
      unfold isNilV at hv
      split at hv
      · rename_i m k e1
        rw [e1] at hX
        have hX : a.eval X = .slice none m k := hX
        exact key none m k true hX rfl hx
      · cases hv
    · split at hx
      · rename_i hn
        obtain ⟨A, m, k, e1⟩ := nonNil_some hh hn hX
        exact key (some A) m k false e1 rfl hx
      · cases hx
  · cases hx
end
end Go.Proofs.YtpdghiplnlhnfaaGreat.Ax

namespace Go.Proofs.YtpdghiplnlhnfaaGreat.Ax
set_option linter.unusedSimpArgs false
set_option linter.unusedVariables false
open Go Go.RowKit
section
variable {B : Nat} {w : World} {g : Gh} {h h' : List Ob} {P : Program} {x : AV} {T : Nat → AV} {a : Act}

theorem ownPart_ok (hh : HOk B w g h) {y : AV} {u : Value} {id st i n : Nat} (hp : ownPart h y = some (id, st, i, n)) (hu : AR (ctx w g h) y u) :
    ∃ ty e xs A k, h[id]? = some (.row ty e xs st) ∧ i + n ≤ xs.length ∧ u = .slice A n k ∧ (0 < n → ∃ ad m cp, g.cur id = .slice (some ad) m cp ∧ A = some (ad.add (i * e))) := by
  unfold ownPart at hp
  split at hp
  · rename_i id' st'
    split at hp
    · rename_i ty e xs s ho
      split at hp
      · rename_i hs
        injection hp with hp
        injection hp with h1 hp
        injection hp with h2 hp
        injection hp with h3 h4
        subst h1 h2 h3 h4
        subst hs
        have hc := tl_cur hu ho
        obtain ⟨q0, q1, cells, q2, q3⟩ := hh.ok _ _ ho
        obtain ⟨A, cp, e1, e2⟩ := owns_slice q2
        have e1 : g.cur id' = .slice A xs.length cp := e1
        refine ⟨ty, e, xs, A, cp, ho, by omega, hc.trans e1, fun hn => ?_⟩
        rcases q2.2 with ⟨z1, z2⟩ | ⟨gg, cap, cur, z1, _⟩
        · rw [z2] at hn; simp at hn
        · have z1 : g.cur id' = _ := z1
          rw [z1] at e1
          injection e1 with e1 e3 e4
          exact ⟨_, _, _, z1, by rw [← e1, Nat.zero_mul]; rfl⟩
      · cases hp
    · cases hp
  · rename_i id' st' e0 i0 n0
    split at hp
    · rename_i ty e xs s ho
      split at hp
      · rename_i hs
        obtain ⟨hs1, hs2, hs3⟩ := hs
        injection hp with hp
        injection hp with h1 hp
        injection hp with h2 hp
        injection hp with h3 h4
        subst h1 h2 h3 h4
        subst hs1 hs2
        obtain ⟨A, m, cp, A', k, y1, y2, y3, y4, y5, _⟩ := hu
        have hc := tl_cur y1 ho
        refine ⟨ty, e, xs, A', k, ho, hs3, y4, fun hn => ?_⟩
        obtain ⟨ad, z1, z2⟩ := y5 hn
        subst z1
        exact ⟨ad, m, cp, hc.symm, z2⟩
      · cases hp
    · cases hp
  · cases hp
theorem set_self {α : Type} {l : List α} {i : Nat} {a : α} (h : l[i]? = some a) : l.set i a = l := by
  apply List.ext_getElem?
  intro j
  by_cases hj : i = j
  · subst hj; rw [List.getElem?_set_self (List.getElem?_eq_some_iff.1 h).1, h]
  · rw [List.getElem?_set_ne hj]
theorem lay_mid : ∀ (p q r s : List AV), q.length = s.length → lay (p ++ q ++ r) p.length s = some (p ++ s ++ r)
  | [], q, r, s, hl => by
    have key : ∀ (s q : List AV), q.length = s.length → lay (q ++ r) 0 s = some (s ++ r) := by
      intro s
      induction s with
      | nil =>
        intro q hq
        have : q = [] := List.eq_nil_of_length_eq_zero (by simpa using hq)
        subst this
        simp only [List.nil_append]
        cases r <;> rfl
      | cons y s ih =>
        intro q hq
        cases q with
        | nil => cases hq
        | cons z q =>
          simp only [List.cons_append, lay]
          rw [ih q (by simpa using hq)]
          rfl
    simpa using key s q hl
  | a :: p, q, r, s, hl => by
    have := lay_mid p q r s hl
    simp only [List.cons_append, List.length_cons, lay]
    rw [this]
    rfl
theorem lay_rows {e : Nat} {xs ys : List (List AV)} {i : Nat} (hx : ∀ x ∈ xs, x.length = e) (hy : ∀ y ∈ ys, y.length = e) (hi : i + ys.length ≤ xs.length) :
    lay xs.flatten (i * e) ys.flatten = some (layRows xs i ys).flatten ∧ (∀ x ∈ layRows xs i ys, x.length = e) ∧ (layRows xs i ys).length = xs.length := by
  have h1 : xs = xs.take i ++ (xs.drop i).take ys.length ++ xs.drop (i + ys.length) := by
    rw [List.append_assoc, ← List.drop_drop, List.take_append_drop, List.take_append_drop]
  have hmem1 : ∀ x ∈ xs.take i, x.length = e := fun x h => hx x (List.mem_of_mem_take h)
  have hmem2 : ∀ x ∈ (xs.drop i).take ys.length, x.length = e := fun x h => hx x (List.mem_of_mem_drop (List.mem_of_mem_take h))
  have hl1 : (xs.take i).flatten.length = i * e := by rw [flatten_len hmem1]; congr 1; simp; omega
  have hl2 : ((xs.drop i).take ys.length).flatten.length = ys.flatten.length := by rw [flatten_len hmem2, flatten_len hy]; congr 1; simp; omega
  refine ⟨?_, fun x h => ?_, by simp [layRows]; omega⟩
  · have := lay_mid (xs.take i).flatten ((xs.drop i).take ys.length).flatten (xs.drop (i + ys.length)).flatten ys.flatten hl2
    rw [hl1] at this
    conv => lhs; rw [h1]
    simp only [List.flatten_append, layRows]
    exact this
  · unfold layRows at h
    rcases List.mem_append.1 h with h | h
    · rcases List.mem_append.1 h with h | h
      · exact hmem1 x h
      · exact hy x h
    · exact hx x (List.mem_of_mem_drop h)
/-- Rows of the call's own slice are written. -/
theorem part_put (hh : HOk B w g h) (hB : B ≤ w.heap.size) {id st i n ty e : Nat} {xs ys : List (List AV)} (ho : h[id]? = some (.row ty e xs st)) (hin : i + ys.length ≤ xs.length) (hy : ∀ y ∈ ys, y.length = e) {ad : Addr} {m cp : Nat} (hA : g.cur id = .slice (some ad) m cp)
    {vs : List Value} (hns : ARs (ctx w g h) ys.flatten vs) (h1 : ∀ v ∈ vs, v.oneCell' = true) :
    ∃ w' g', (storeCells (ad.add (i * e)) vs).run P w = .ok () w' ∧ Good B w g h w' g' (h.set id (.row ty e (layRows xs i ys) st)) := by
  obtain ⟨q0, q1, cells, q2, q3⟩ := hh.ok _ _ ho
  obtain ⟨l1, l2, l3⟩ := lay_rows q1 hy hin
  exact row_put hh hB ho hA hns h1 l1 l2 l3
theorem did_clear (hh : HOk B w g h) (hB : B ≤ w.heap.size) {t ty e : TypeId} {y : AV} {u : Value} (hu : AR (ctx w g h) y u) (hk : (tyOf P t).kind = .slice e) {id st i n : Nat} (hp : ownPart h y = some (id, st, i, n)) {z : List Value} (hz : (tyOf P e).zero = some z)
    (ho : (tyOf P e).ok = true) (hl : z.length = (tyOf P e).sz) (hx : putRows h id i e (tyOf P e).sz (List.replicate n (z.map .v)) = some h') :
    ∃ w' g', (Builtin.clear_ #[t] ty #[u]).run P w = .ok (.tuple #[]) w' ∧ Good B w g h w' g' h' := by
  obtain ⟨d, it, hut, hit, eq⟩ := ty_ok (ok_kind hk (by simp))
  rw [eq] at hk
  cases d <;> try (cases hk; done)
  injection hk with hk
  subst hk
  rename_i e
  obtain ⟨ty', e', xs, A, k, p1, p2, p3, p4⟩ := ownPart_ok hh hp hu
  unfold putRows at hx
  rw [p1] at hx
  simp only at hx
  split at hx
  · rename_i hc
    obtain ⟨c1, c2, c3⟩ := hc
    injection hx with hx
    subst hx
    subst c1
    by_cases hn : n = 0
    · subst hn
      have : layRows xs i (List.replicate 0 (z.map AV.v)) = xs := by simp [layRows]
      rw [this, set_self p1]
      refine ⟨w, g, ?_, Good.refl hh hB⟩
      subst p3
      cases A <;> simp [Builtin.clear_, run_underlying hut]
    · obtain ⟨ad, m, cp, r1, r2⟩ := p4 (by omega)
      obtain ⟨d', ie, hue, hie, eq'⟩ := ty_ok ho
      cases hzz : ie.zero with
      | none => rw [eq'] at hz; simp [hzz] at hz
      | some zv =>
        have hzc : zv.cells.toList = z := by rw [eq'] at hz; simpa [hzz] using hz
        have hrows : ∀ y ∈ List.replicate n (z.map AV.v), y.length = e' := fun y hy => by rw [List.eq_of_mem_replicate hy]; simp [hl, c2]
        have hfl : (List.replicate n (z.map AV.v)).flatten = (List.replicate n z).flatten.map AV.v := by
          clear hrows c3 p2 p4 p3 hp
          induction n with
          | zero => simp
          | succ m ih => simp [List.replicate_succ]
        have hone : ∀ v ∈ (List.replicate n z).flatten, v.oneCell' = true := fun v hv => by
          obtain ⟨r, hr1, hr2⟩ := List.mem_flatten.1 hv
          rw [List.eq_of_mem_replicate hr1] at hr2
          have := List.all_eq_true.1 c3 (z.map AV.v) (by rw [List.mem_replicate]; exact ⟨hn, rfl⟩)
          simp only [Bool.and_eq_true] at this
          have := List.all_eq_true.1 this.2 (.v v) (List.mem_map.2 ⟨v, hr2, rfl⟩)
          exact this
        obtain ⟨w', g', s1, s2⟩ := part_put (P := P) (n := n) hh hB p1 (i := i) (ys := List.replicate n (z.map AV.v)) (by simpa using p2) hrows r1 (vs := (List.replicate n z).flatten) (by rw [hfl]; exact ars_v _) hone
        refine ⟨w', g', ?_, s2⟩
        subst p3
        subst r2
        have hzcl : (Builtin.zeroCells zv.cells n).toList = (List.replicate n z).flatten := by
          have := madeCells_rep zv.cells n
          rw [hzc] at this
          exact this
        obtain ⟨n, rfl⟩ : ∃ m, n = m + 1 := ⟨n - 1, by omega⟩
        simp [Builtin.clear_, run_underlying hut, run_zero hie hzz, hzcl, s1]
  · cases hx
theorem run_first {sz n : Nat} {A : Option Addr} {m k : Nat} {vs : List Value} (hl : vs.length = n * sz) (hA : A = none → n = 0) (hc : ∀ ad, A = some ad → ∀ j u, vs[j]? = some u → w.cell? (ad.add j) = some u) : (Builtin.firstCells sz n (.slice A m k)).run P w = .ok vs.toArray w := by
  cases A with
  | none =>
    have : vs = [] := List.eq_nil_of_length_eq_zero (by rw [hl, hA rfl, Nat.zero_mul])
    subst this
    simp [Builtin.firstCells]
  | some ad =>
    have := run_loadCells_list (P := P) w ad vs (hc ad rfl)
    rw [hl] at this
    simpa [Builtin.firstCells] using this
theorem did_copy (hh : HOk B w g h) (hB : B ≤ w.heap.size) {t ty e : TypeId} {y s : AV} {u v : Value} (hu : AR (ctx w g h) y u) (hv : AR (ctx w g h) s v) (hk : (tyOf P t).kind = .slice e) {id st i n : Nat} (hp : ownPart h y = some (id, st, i, n)) {ys : List (List AV)} (hr : rowsOf h s = some ys)
    (ho : (tyOf P e).ok = true) (h0 : 0 < (tyOf P e).sz) (hx : putRows h id i e (tyOf P e).sz (ys.take n) = some h') :
    ∃ w' g', (Builtin.copy_ #[t, t] ty #[u, v]).run P w = .ok (.int .i64 ((ys.take n).length : Nat)) w' ∧ Good B w g h w' g' h' := by
  obtain ⟨d, it, hut, hit, eq⟩ := ty_ok (ok_kind hk (by simp))
  rw [eq] at hk
  cases d <;> try (cases hk; done)
  injection hk with hk
  subst hk
  rename_i e
  obtain ⟨ty', e', xs, A, k, p1, p2, p3, p4⟩ := ownPart_ok hh hp hu
  obtain ⟨A2, k2, r1, r2, r3, r4⟩ := rows_ok hh _ hv hr
  unfold putRows at hx
  rw [p1] at hx
  simp only at hx
  split at hx
  · rename_i hc
    obtain ⟨c1, c2, c3⟩ := hc
    injection hx with hx
    subst hx
    subst c1
    obtain ⟨d', ie, hue, hie, eq'⟩ := ty_ok ho
    have hsz : (tyOf P ty').sz = ie.size := by rw [eq']
    have hlen : (ys.take n).length = min ys.length n := by rw [List.length_take, Nat.min_comm]
    have c3' : ∀ r ∈ ys.take n, r.length = e' ∧ r.all AV.one = true := fun r hr => by
      have := List.all_eq_true.1 c3 r hr
      simp only [Bool.and_eq_true, beq_iff_eq] at this
      exact ⟨by rw [c2]; exact this.1, this.2⟩
    by_cases hn : (ys.take n).length = 0
    · have hy0 : ys.take n = [] := List.eq_nil_of_length_eq_zero hn
      have : layRows xs i (ys.take n) = xs := by rw [hy0]; simp [layRows]
      rw [this, set_self p1]
      refine ⟨w, g, ?_, Good.refl hh hB⟩
      subst p3
      subst r1
      have hm : Nat.min ys.length n = 0 := by rw [← hn, hlen]
      have hf := run_first (P := P) (w := w) (sz := ie.size) (n := 0) (A := A2) (m := ys.length) (k := k2) (vs := []) (by simp) (fun _ => rfl) (fun _ _ _ _ h => by simp at h)
      rw [hn]
      cases A <;> simp [Builtin.copy_, run_underlying hut, Builtin.lenOf, sizeOf, typeInfo, hie, hm, hf, goInt, storeCells]
    · have hn0 : 0 < n := by
        rcases Nat.eq_zero_or_pos n with h | h
        · subst h; simp at hn
        · exact h
      obtain ⟨ad, m, cp, q1, q2⟩ := p4 hn0
      subst q2
      have hyne : ys ≠ [] := fun h => by subst h; simp at hn
      cases hee : eOf h s with
      | none => exact absurd (r4 hee) hyne
      | some e2 =>
        have hra := r3 e2 hee
        obtain ⟨r0, hr0⟩ : ∃ r, r ∈ ys.take n := List.exists_mem_of_ne_nil _ (fun h => hn (by rw [h]; rfl))
        have he2 : e2 = e' := by rw [← hra.len r0 (List.mem_of_mem_take hr0)]; exact (c3' r0 hr0).1
        subst he2
        obtain ⟨ad2, hA2⟩ : ∃ ad2, A2 = some ad2 := by
          cases hys : ys with
          | nil => exact absurd hys hyne
          | cons q qs =>
            have hq := hra.len q (by rw [hys]; simp)
            obtain ⟨ad2, u', z1, _⟩ := hra.cell 0 0 q (nth q 0) (by rw [hys]; rfl) (get_nth (by omega))
            exact ⟨ad2, z1⟩
        subst hA2
        have hra' : RowsAt w (ctx w g h) e2 (ys.take n) (some ad2) := ⟨fun r hr => (c3' r hr).1, fun j k r a hj hk => by
          rw [List.getElem?_take] at hj
          split at hj
          · exact hra.cell j k r a hj hk
          · cases hj⟩
        obtain ⟨news, n1, n2, n3, n4⟩ := rows_news hra' fun r hr => (c3' r hr).2
        obtain ⟨w', g', s1, s2⟩ := part_put (P := P) (n := n) hh hB p1 (i := i) (ys := ys.take n) (by rw [hlen]; omega) (fun y hy => (c3' y hy).1) q1 n4 n3
        refine ⟨w', g', ?_, s2⟩
        subst p3
        subst r1
        have hm : Nat.min ys.length n = (ys.take n).length := hlen.symm
        have hes : e2 = ie.size := by rw [c2, hsz]
        have hf := run_first (P := P) (w := w) (sz := ie.size) (n := (ys.take n).length) (A := some ad2) (m := ys.length) (k := k2) (vs := news) (by rw [n1, hes]) (fun h => by cases h) (fun ad h j u hj => by injection h with h; subst h; exact n2 j u hj)
        obtain ⟨q, hq⟩ : ∃ q, (ys.take n).length = q := ⟨_, rfl⟩
        rw [hq] at hm hf ⊢
        simp [Builtin.copy_, run_underlying hut, Builtin.lenOf, sizeOf, typeInfo, hie, hm, hf, s1, goInt]
  · cases hx
/-- A slice of a slice. -/
theorem did_slice (hh : HOk B w g h) (hB : B ≤ w.heap.size) (hT : TRel (ctx w g h) T a) {t e : TypeId} {X : Operand} {lo hi : Option Operand} {xs : List (List AV)} {l m : Int} (hk : (tyOf P t).kind = .slice e) (hr : rowsOf h (ev T X) = some xs) (hl : intOr T 0 lo = some l) (hm : intOr T xs.length hi = some m)
    (ho : (tyOf P e).ok = true) (h0 : 0 ≤ l) (h1 : l ≤ m) (h2 : m ≤ xs.length) (hle : l = m ∨ (0 < (tyOf P e).sz ∧ eOf h (ev T X) = some (tyOf P e).sz)) : DidV P (Instr.sliceAt t (a.eval X) (lo.map a.eval) (hi.map a.eval) none) B w g h (.vw (ev T X) (tyOf P e).sz l.toNat (m.toNat - l.toNat)) h := by
  obtain ⟨d, it, hut, hit, eq⟩ := ty_ok (ok_kind hk (by simp))
  rw [eq] at hk
  cases d <;> try (cases hk; done)
  injection hk with hk
  subst hk
  rename_i e
  obtain ⟨d', ie, hue, hie, eq'⟩ := ty_ok ho
  have hX := ev_ar hT X
  obtain ⟨A, k, r1, r2, r3, r4⟩ := rows_ok hh _ hX hr
  have hlo : (match lo.map a.eval with | some v => Instr.sliceBound v m.toNat .sliceB | none => pure 0 : Sem Nat).run P w = .ok l.toNat w := by
    cases lo with
    | none => injection hl with hl; subst hl; rfl
    | some x =>
      simp only [intOr] at hl
      split at hl
      · rename_i kk n hx
        injection hl with hl
        subst hl
        have := ev_v hT hx
        simp only [Option.map_some, this, Instr.sliceBound, asIntOf, Sem.run_bind, Sem.run_pure, Result.andThen_ok, if_pos (show 0 ≤ n ∧ n ≤ (m.toNat : Int) by omega)]
      · cases hl
  have hhi : (match hi.map a.eval with | some v => Instr.sliceBound v k .sliceAcap | none => pure xs.length : Sem Nat).run P w = .ok m.toNat w := by
    cases hi with
    | none => injection hm with hm; subst hm; simp
    | some x =>
      simp only [intOr] at hm
      split at hm
      · rename_i kk n hx
        injection hm with hm
        subst hm
        have := ev_v hT hx
        simp only [Option.map_some, this, Instr.sliceBound, asIntOf, Sem.run_bind, Sem.run_pure, Result.andThen_ok, if_pos (show 0 ≤ n ∧ n ≤ (k : Int) by omega)]
      · cases hm
  refine didV_same hh hB (v := .slice (if k = l.toNat then A else A.map (·.add (l.toNat * ie.size))) (m.toNat - l.toNat) (k - l.toNat)) ?_ ?_
  · have hb : (Instr.sliceBounds true xs.length k (lo.map a.eval) (hi.map a.eval) none).run P w = .ok (l.toNat, m.toNat, k) w := by
      unfold Instr.sliceBounds
      cases lo with
      | none => cases hi with
        | none =>
          injection hlo with hlo
          injection hhi with hhi
          simp [hlo, hhi]
        | some x =>
          injection hlo with hlo
          simp only [Option.map_some] at hhi
          simp [hlo, hhi]
      | some y => cases hi with
        | none =>
          injection hhi with hhi
          simp only [Option.map_some] at hlo
          simp [hlo, hhi]
        | some x =>
          simp only [Option.map_some] at hlo hhi
          simp [hlo, hhi]
    simp only [Instr.sliceAt, Sem.run_bind, run_underlying hut, Result.andThen_ok, Instr.slice, r1]
    simp only [Sem.run_bind, hb, Result.andThen_ok, sizeOf, typeInfo, run_program]
    simp [hie]
  · refine ⟨A, xs.length, k, _, _, by rw [← r1]; exact hX, by omega, by omega, rfl, fun hn => ?_, fun h0 => ?_⟩
    rotate_left
    · rw [h0]
      refine ⟨?_, rfl⟩
      split
      · exact .inl rfl
      · exact .inr (by simp)
    have hkl : k ≠ l.toNat := by omega
    rw [if_neg hkl]
    cases A with
    | some ad => exact ⟨ad, rfl, by rw [eq']; rfl⟩
    | none =>
      exfalso
      rcases hle with he | ⟨he1, he2⟩
      · omega
      · have hra := r3 _ he2
        cases hx0 : xs with
        | nil => rw [hx0] at h2; simp at h2; omega
        | cons q qs =>
          have hq := hra.len q (by rw [hx0]; simp)
          obtain ⟨ad2, u', z1, _⟩ := hra.cell 0 0 q (nth q 0) (by rw [hx0]; rfl) (get_nth (by omega))
          cases z1
end
end Go.Proofs.YtpdghiplnlhnfaaGreat.Ax

namespace Go.Proofs.YtpdghiplnlhnfaaGreat.Ax
set_option linter.unusedSimpArgs false
set_option linter.unusedVariables false
open Go Go.RowKit
section
variable {B : Nat} {w : World} {g : Gh} {h h' : List Ob} {P : Program} {x : AV} {T : Nat → AV} {a : Act} {kk : IntKind} {n : Int} {v : AV}

theorem keysOk_iff : ∀ {es : List (AV × AV)}, keysOk kk es = true ↔ ∀ p ∈ es, p.1 = .v (.int kk (keyI p))
  | [] => by simp [keysOk]
  | p :: r => by
    have ih := keysOk_iff (es := r)
    constructor
    · intro h q hq
      unfold keysOk at h
      split at h
      · rename_i heq; cases heq
      · rename_i k m u r' heq
        injection heq with h1 h2
        subst h1 h2
        simp only [Bool.and_eq_true, beq_iff_eq] at h
        rcases List.mem_cons.1 hq with rfl | hq
        · simp [keyI, h.1]
        · exact ih.1 h.2 q hq
      · cases h
    · intro h
      obtain ⟨p1, p2⟩ := p
      have h0 : p1 = _ := h (p1, p2) (by simp)
      have h1 := ih.2 fun q hq => h q (by simp [hq])
      rw [h0]
      simp [keysOk, h1]
theorem keysOk_perm {a b : List (AV × AV)} (hp : a.Perm b) (h : keysOk kk b = true) : keysOk kk a = true := by
  rw [keysOk_iff] at h ⊢
  exact fun p hpa => h p (hp.mem_iff.1 hpa)
theorem hasKey_iff : ∀ {es : List (AV × AV)}, hasKey n es = true ↔ ∃ p ∈ es, keyI p = n
  | [] => by simp [hasKey]
  | p :: r => by simp [hasKey, hasKey_iff (es := r)]
theorem hasKey_perm {a b : List (AV × AV)} (hp : a.Perm b) : hasKey n a = hasKey n b := by
  rw [Bool.eq_iff_iff, hasKey_iff, hasKey_iff]
  exact ⟨fun ⟨p, h1, h2⟩ => ⟨p, hp.mem_iff.1 h1, h2⟩, fun ⟨p, h1, h2⟩ => ⟨p, hp.mem_iff.2 h1, h2⟩⟩
theorem repKey_map : ∀ (es : List (AV × AV)), repKey kk n v es = es.map fun p => if keyI p = n then (.v (.int kk n), v) else p
  | [] => rfl
  | p :: r => by simp [repKey, repKey_map r]
theorem ordIns_perm : ∀ (es : List (AV × AV)), (ordIns kk n v es).Perm ((.v (.int kk n), v) :: es)
  | [] => .refl _
  | p :: r => by
    unfold ordIns
    split
    · exact .refl _
    · exact ((ordIns_perm r).cons p).trans (.swap _ _ _)
/-- Two keys, one behind the other, in either order. -/
theorem ordIns_comm {n n' : Int} {v v' : AV} (hne : n ≠ n') : ∀ (es : List (AV × AV)), ordIns kk n v (ordIns kk n' v' es) = ordIns kk n' v' (ordIns kk n v es)
  | [] => by
    simp only [ordIns, keyI]
    by_cases h : n < n'
    · simp [h, show ¬ n' < n by omega]
    · simp [h, show n' < n by omega]
  | p :: r => by
    have ih := ordIns_comm (v := v) (v' := v') hne r
    have k1 : keyI (.v (.int kk n), v) = n := rfl
    have k2 : keyI (.v (.int kk n'), v') = n' := rfl
    by_cases h1 : n < keyI p
    · by_cases h2 : n' < keyI p
      · by_cases h3 : n < n'
        · simp [ordIns, h1, h2, h3, k1, k2, show ¬ n' < n by omega]
        · simp [ordIns, h1, h2, h3, k1, k2, show n' < n by omega]
      · have h3 : n < n' := by omega
        simp [ordIns, h1, h2, k1, show ¬ n' < n by omega]
    · by_cases h2 : n' < keyI p
      · have h3 : n' < n := by omega
        simp [ordIns, h1, h2, k2, show ¬ n < n' by omega]
      · simp [ordIns, h1, h2, ih]

theorem mapRel_len {c : Ctx} : ∀ {l : List (AV × AV)} {es : List MapEntry}, MapRel c l es → l.length = es.length
  | [], es, h => by have h : es = [] := h; simp [h]
  | p :: r, es, ⟨e, q, h1, _, _, h4⟩ => by subst h1; simp [mapRel_len h4]
theorem mapRel_get {c : Ctx} : ∀ {l : List (AV × AV)} {es : List MapEntry}, MapRel c l es → ∀ (i : Nat) (p : AV × AV), l[i]? = some p → ∃ e, es[i]? = some e ∧ AR c p.1 e.key ∧ AR c p.2 e.val
  | q :: r, es, ⟨e, s, h1, h2, h3, h4⟩, 0, p, hp => by injection hp with hp; subst hp h1; exact ⟨e, rfl, h2, h3⟩
  | q :: r, es, ⟨e, s, h1, h2, h3, h4⟩, i + 1, p, hp => by
    subst h1
    exact mapRel_get h4 i p (by simpa using hp)
theorem mapRel_of {c : Ctx} : ∀ {l : List (AV × AV)} {es : List MapEntry}, l.length = es.length → (∀ (i : Nat) (p : AV × AV) (e : MapEntry), l[i]? = some p → es[i]? = some e → AR c p.1 e.key ∧ AR c p.2 e.val) → MapRel c l es
  | [], [], _, _ => rfl
  | [], _ :: _, h, _ => by cases h
  | _ :: _, [], h, _ => by cases h
  | p :: l, e :: es, hl, h => ⟨e, es, rfl, (h 0 p e rfl rfl).1, (h 0 p e rfl rfl).2, mapRel_of (by simpa using hl) fun i p e hp he => h (i + 1) p e (by simpa using hp) (by simpa using he)⟩
theorem findNow_ok {kk' : IntKind} : ∀ (es : List MapEntry) (i : Nat), (∀ e ∈ es, ∃ m, e.key = .int kk m) → (∀ e ∈ es, e.key ≠ .int kk n) ∧ Instr.findNow (.int kk') (.int kk n) es i = some none ∨ ∃ j e, es[j]? = some e ∧ e.key = .int kk n ∧ Instr.findNow (.int kk') (.int kk n) es i = some (some (i + j, e.val))
  | [], i, _ => .inl ⟨by simp, rfl⟩
  | e :: es, i, hk => by
    obtain ⟨m, hm⟩ := hk e (by simp)
    by_cases hmn : n = m
    · subst hmn
      exact .inr ⟨0, e, rfl, hm, by simp [Instr.findNow, hm, Instr.sameNow]⟩
    · have hs : Instr.sameNow (.int kk') (.int kk n) e.key = some false := by simp [hm, Instr.sameNow, hmn]
      rcases findNow_ok (kk' := kk') es (i + 1) (fun e he => hk e (by simp [he])) with ⟨h1, h2⟩ | ⟨j, e', h1, h2, h3⟩
      · refine .inl ⟨fun e' he' => ?_, by simp [Instr.findNow, hs, h2]⟩
        rcases List.mem_cons.1 he' with rfl | he'
        · rw [hm]; intro h; injection h with _ h; exact hmn h.symm
        · exact h1 e' he'
      · exact .inr ⟨j + 1, e', by simpa using h1, h2, by simp [Instr.findNow, hs, h3]; omega⟩
theorem nodup_idx {es : List MapEntry} (hd : (es.map (·.key)).Nodup) {i j : Nat} {e e' : MapEntry} (hi : es[i]? = some e) (hj : es[j]? = some e') (hk : e.key = e'.key) : i = j := by
  have h1 : (es.map (·.key))[i]? = some e.key := by simp [hi]
  have h2 : (es.map (·.key))[j]? = some e.key := by simp [hj, hk]
  have l1 := (List.getElem?_eq_some_iff.1 h1).1
  exact (List.getElem?_inj l1 hd).1 (h1.trans h2.symm)
theorem keys_int {c : Ctx} {l : List (AV × AV)} {es : List MapEntry} (hr : MapRel c l es) (hk : keysOk kk l = true) : ∀ e ∈ es, ∃ m, e.key = .int kk m := fun e he => by
  obtain ⟨i, hi⟩ := List.mem_iff_getElem?.1 he
  have hl : i < l.length := by rw [mapRel_len hr]; exact (List.getElem?_eq_some_iff.1 hi).1
  obtain ⟨e', h1, h2, _⟩ := mapRel_get hr i _ (List.getElem?_eq_getElem hl)
  rw [hi] at h1
  injection h1 with h1
  subst h1
  have := keysOk_iff.1 hk l[i] (List.getElem_mem hl)
  rw [this] at h2
  exact ⟨_, h2⟩
theorem lookR_none {z : AV} : ∀ {es : List (AV × AV)}, (∀ p ∈ es, keyI p ≠ n) → lookR n z es = (z, false)
  | [], _ => rfl
  | p :: r, h => by
    have ih := lookR_none (z := z) (es := r) fun q hq => h q (by simp [hq])
    have hp := h p (by simp)
    simp [lookR, ih, hp]
theorem lookR_some {z : AV} : ∀ {es : List (AV × AV)}, (∃ p ∈ es, keyI p = n) → ∃ p ∈ es, keyI p = n ∧ lookR n z es = (p.2, true)
  | [], h => by simp at h
  | p :: r, h => by
    by_cases hp : keyI p = n
    · exact ⟨p, by simp, hp, by simp [lookR, hp]⟩
    · obtain ⟨q, h1, h2⟩ := h
      rcases List.mem_cons.1 h1 with rfl | h1
      · exact absurd h2 hp
      · obtain ⟨q', e1, e2, e3⟩ := lookR_some (z := z) (es := r) ⟨q, h1, h2⟩
        exact ⟨q', by simp [e1], e2, by simp [lookR, hp, e3]⟩
theorem run_lookup_int {c : Ctx} {kt et mt : TypeId} {es : Array MapEntry} {k : Nat} {l l' : List (AV × AV)} {b : Nat} {kk' : IntKind} {z : Value} {za : AV} (hu : P.underlying mt = some (.map kt et)) (hku : P.underlying kt = some (.int kk')) (hb : w.heap[b]? = some (.map es k)) (hp : l'.Perm l) (hr : MapRel c l' es.toList) (hd : (es.toList.map (·.key)).Nodup)
    (hko : keysOk kk l = true) (hz : (zeroValue et).run P w = .ok z w) (hza : AR c za z) (ok : Bool) :
    ∃ u, (Instr.lookup mt (.map (some b)) (.int kk n) ok).run P w = .ok u w ∧ AR c (if ok then .tup [(lookR n za l).1, .v (.bool (lookR n za l).2)] else (lookR n za l).1) u := by
  have hko' := keysOk_perm hp hko
  have hget : ∀ {β : Type} (f : Obj → Sem β), (Sem.getObj b f).run P w = (f (.map es k)).run P w := fun f => by simp [Sem.run, hb]
  have hfin : ∀ (r : Option (Nat × Value)) (q : Value) (t : Bool), Instr.findNow (.int kk') (.int kk n) es.toList 0 = some r → (match r with | some (_, v) => (pure (v, true) : Sem (Value × Bool)) | none => do pure (← zeroValue et, false)).run P w = .ok (q, t) w →
      (Instr.lookup mt (.map (some b)) (.int kk n) ok).run P w = .ok (if ok then .tuple #[q, .bool t] else q) w := fun r q t hf hq => by
    have hck : ∀ d, (Instr.checkKey es.isEmpty (d + 1) kt (.int kk n)).run P w = .ok () w := fun d => by simp [Instr.checkKey, run_underlying hku]
    have hg : (getObj b).run P w = .ok (.map es k) w := by simp [getObj, Sem.run, hb]
    simp only [Instr.lookup, Sem.run_bind, run_underlying hu, Result.andThen_ok, hg, Sem.run_pure, hck, Instr.findKey, run_underlying hku, hf]
    cases r with
    | some p => obtain ⟨i, v⟩ := p; simp only [Sem.run_pure] at hq ⊢; injection hq with hq _; injection hq with h1 h2; subst h1 h2; cases ok <;> simp
    | none => simp only [Sem.run_bind, hz, Result.andThen_ok, Sem.run_pure] at hq ⊢; injection hq with hq _; injection hq with h1 h2; subst h1 h2; cases ok <;> simp
  rcases findNow_ok (kk' := kk') es.toList 0 (keys_int hr hko') (n := n) with ⟨h1, h2⟩ | ⟨j, e, h1, h2, h3⟩
  · have hno : ∀ p ∈ l, keyI p ≠ n := fun p hpl e => by
      obtain ⟨i, hi⟩ := List.mem_iff_getElem?.1 (hp.mem_iff.2 hpl)
      obtain ⟨e', q1, q2, _⟩ := mapRel_get hr i p hi
      have := keysOk_iff.1 hko p hpl
      rw [this, e] at q2
      exact h1 e' (List.mem_of_getElem? q1) q2
    refine ⟨_, hfin none z false h2 (by simp [hz]), ?_⟩
    rw [lookR_none hno]
    cases ok
    · exact hza
    · exact ⟨_, rfl, _, _, rfl, hza, _, _, rfl, rfl, rfl⟩
  · have hjl : j < l'.length := by rw [mapRel_len hr]; exact (List.getElem?_eq_some_iff.1 h1).1
    have hex : ∃ p ∈ l, keyI p = n := by
      obtain ⟨e', q1, q2, _⟩ := mapRel_get hr j _ (List.getElem?_eq_getElem hjl)
      rw [h1] at q1
      injection q1 with q1
      subst q1
      have hm := hp.mem_iff.1 (List.getElem_mem hjl)
      have := keysOk_iff.1 hko _ hm
      rw [this] at q2
      have q2 : e.key = .int kk _ := q2
      rw [h2] at q2
      injection q2 with _ q2
      exact ⟨_, hm, q2.symm⟩
    obtain ⟨p, p1, p2, p3⟩ := lookR_some (z := za) hex
    obtain ⟨i, hi⟩ := List.mem_iff_getElem?.1 (hp.mem_iff.2 p1)
    obtain ⟨e', q1, q2, q3⟩ := mapRel_get hr i p hi
    have := keysOk_iff.1 hko p p1
    rw [this, p2] at q2
    have q2 : e'.key = .int kk n := q2
    have hij := nodup_idx hd q1 h1 (q2.trans h2.symm)
    subst hij
    rw [h1] at q1
    injection q1 with q1
    subst q1
    refine ⟨_, hfin (some (0 + i, e.val)) e.val true h3 (by simp), ?_⟩
    rw [p3]
    cases ok
    · exact q3
    · exact ⟨_, rfl, _, _, rfl, q3, _, _, rfl, rfl, rfl⟩
theorem did_insert (hh : HOk B w g h) (hB : B ≤ w.heap.size) {kt et mt : TypeId} {id : Nat} {l l2 : List (AV × AV)} {kk' : IntKind} {u : Value} (hu : P.underlying mt = some (.map kt et)) (hku : P.underlying kt = some (.int kk')) (ho : h[id]? = some (.mapo l)) (hv : AR (ctx w g h) v u) (hx : insA kk n v l = some l2) :
    ∃ w', (Instr.mapUpdate mt (.map (some (g.β id))) (.int kk n) u).run P w = .ok () w' ∧ Good B w g h w' g (h.set id (.mapo l2)) := by
  obtain ⟨h1, es, k, l', h2, hp, hr, hd⟩ := hh.ok id _ ho
  have h2 : w.heap[g.β id]? = some (.map es k) := h2
  unfold insA at hx
  split at hx
  case isFalse => cases hx
  rename_i hko
  injection hx with hx
  have hko' := keysOk_perm hp hko
  have hck : ∀ d, (Instr.checkKey false (d + 1) kt (.int kk n)).run P w = .ok () w := fun d => by simp [Instr.checkKey, run_underlying hku]
  have hg : (getObj (g.β id)).run P w = .ok (.map es k) w := by simp [getObj, Sem.run, h2]
  have hset : ∀ o, (setObj (g.β id) o).run P w = .ok () { w with heap := w.heap.setIfInBounds (g.β id) o } := fun o => by simp [setObj, Sem.run, h2]
  rcases findNow_ok (kk' := kk') es.toList 0 (keys_int hr hko') (n := n) with ⟨f1, f2⟩ | ⟨j, e, f1, f2, f3⟩
  · have hno : hasKey n l = false := by
      rw [Bool.eq_false_iff]
      intro hc
      obtain ⟨p, hpl, e⟩ := hasKey_iff.1 hc
      obtain ⟨i, hi⟩ := List.mem_iff_getElem?.1 (hp.mem_iff.2 hpl)
      obtain ⟨e', q1, q2, _⟩ := mapRel_get hr i p hi
      have := keysOk_iff.1 hko p hpl
      rw [this, e] at q2
      exact f1 e' (List.mem_of_getElem? q1) q2
    rw [hno] at hx
    simp only [Bool.false_eq_true, if_false] at hx
    subst hx
    refine ⟨_, ?_, turn_map hh hB ho (es' := es.push { key := .int kk n, val := u, born := k }) (k' := k + 1) (l2 := l' ++ [(.v (.int kk n), v)]) ?_ ?_ ?_⟩
    · simp only [Instr.mapUpdate, Sem.run_bind, run_underlying hu, Result.andThen_ok, hg, hck, Instr.findKey, run_underlying hku, f2, Sem.run_pure, hset]
    · refine (List.perm_append_comm).trans (List.Perm.trans ?_ (ordIns_perm l).symm)
      exact hp.cons _
    · rw [Array.toList_push]
      refine mapRel_of (by simp [mapRel_len hr]) fun i p e hp he => ?_
      by_cases hi : i < l'.length
      · rw [List.getElem?_append_left hi] at hp
        rw [List.getElem?_append_left (by rw [← mapRel_len hr]; exact hi)] at he
        obtain ⟨e', q1, q2, q3⟩ := mapRel_get hr i p hp
        rw [he] at q1; injection q1 with q1; subst q1
        exact ⟨q2, q3⟩
      · have hl := mapRel_len hr
        rw [List.getElem?_append_right (by omega)] at hp he
        rw [← hl] at he
        have h0 : i - l'.length = 0 := by
          have := (List.getElem?_eq_some_iff.1 hp).1
          simp at this; omega
        rw [h0] at hp he
        injection hp with hp; injection he with he
        subst hp he
        exact ⟨rfl, hv⟩
    · rw [Array.toList_push, List.map_append, List.nodup_append]
      refine ⟨hd, by simp, fun a ha b hb => ?_⟩
      simp at hb
      obtain ⟨e, he, rfl⟩ := List.mem_map.1 ha
      rw [hb]
      exact f1 e he
  · have hjl : j < l'.length := by rw [mapRel_len hr]; exact (List.getElem?_eq_some_iff.1 f1).1
    have hyes : hasKey n l = true := by
      rw [hasKey_iff]
      obtain ⟨e', q1, q2, _⟩ := mapRel_get hr j _ (List.getElem?_eq_getElem hjl)
      rw [f1] at q1
      injection q1 with q1
      subst q1
      have hm := hp.mem_iff.1 (List.getElem_mem hjl)
      have := keysOk_iff.1 hko _ hm
      rw [this] at q2
      have q2 : e.key = .int kk _ := q2
      rw [f2] at q2
      injection q2 with _ q2
      exact ⟨_, hm, q2.symm⟩
    rw [hyes] at hx
    simp only [if_true] at hx
    subst hx
    have hje : es[j]? = some e := by simpa using f1
    refine ⟨_, ?_, turn_map hh hB ho (es' := es.modify j fun e => { e with key := .int kk n, val := u }) (k' := k) (l2 := repKey kk n v l') ?_ ?_ ?_⟩
    · have hst : (Instr.keyThatStays e.key (.int kk n)).run P w = .ok (.int kk n) w := by simp [Instr.keyThatStays, f2, Instr.sameBits]
      rw [Nat.zero_add] at f3
      simp only [Instr.mapUpdate, Sem.run_bind, run_underlying hu, Result.andThen_ok, hg, hck, Instr.findKey, run_underlying hku, f3, Sem.run_pure, hje, Option.map_some, Option.getD_some, hst, hset]
    · rw [repKey_map, repKey_map]
      exact hp.map _
    · refine mapRel_of (by simp [repKey_map, mapRel_len hr]) fun i p e' hp' he => ?_
      rw [repKey_map, List.getElem?_map] at hp'
      cases hli : l'[i]? with
      | none => rw [hli] at hp'; cases hp'
      | some q =>
        rw [hli] at hp'
        injection hp' with hp'
        obtain ⟨e2, q1, q2, q3⟩ := mapRel_get hr i q hli
        have hmq := keysOk_iff.1 hko' q (List.mem_of_getElem? hli)
        rw [hmq] at q2
        have q2 : e2.key = .int kk (keyI q) := q2
        rw [Array.getElem?_toList, Array.getElem?_modify] at he
        have q1' : es[i]? = some e2 := by simpa using q1
        rw [q1'] at he
        by_cases hq : keyI q = n
        · rw [hq] at q2
          have hij := nodup_idx hd q1 f1 (q2.trans f2.symm)
          subst hij
          have hp' : (if keyI q = n then ((.v (.int kk n), v) : AV × AV) else q) = p := hp'
          rw [if_pos hq] at hp'
          subst hp'
          simp only [if_true, Option.map_some] at he
          injection he with he
          subst he
          exact ⟨rfl, hv⟩
        · have hij : j ≠ i := fun hji => by
            subst hji
            rw [f1] at q1
            injection q1 with q1
            subst q1
            rw [f2] at q2
            injection q2 with _ q2
            exact hq q2.symm
          have hp' : (if keyI q = n then ((.v (.int kk n), v) : AV × AV) else q) = p := hp'
          rw [if_neg hq] at hp'
          subst hp'
          rw [if_neg hij] at he
          injection he with he
          subst he
          exact ⟨by rw [hmq]; exact q2, q3⟩
    · have : (es.modify j fun e => { e with key := .int kk n, val := u }).toList.map (·.key) = es.toList.map (·.key) := by
        apply List.ext_getElem?
        intro i
        rw [List.getElem?_map, List.getElem?_map, Array.getElem?_toList, Array.getElem?_modify, Array.getElem?_toList]
        by_cases hij : j = i
        · subst hij; rw [hje]; simp [f2]
        · rw [if_neg hij]
      rw [this]
      exact hd
theorem zeroA_ok {c : Ctx} {t : TypeId} {z : AV} (hz : zeroA (tyOf P t) = some z) : ∃ u, (zeroValue t).run P w = .ok u w ∧ AR c z u := by
  unfold zeroA at hz
  split at hz
  · rename_i ho
    cases hzz : (tyOf P t).zero with
    | none => rw [hzz] at hz; cases hz
    | some zs =>
      rw [hzz] at hz
      simp only [Option.bind_some] at hz
      obtain ⟨d, i, hu, hi, e⟩ := ty_ok (ok_zero hzz)
      rw [e] at hzz ho
      cases hiz : i.zero with
      | none => rw [hiz] at hzz; cases hzz
      | some v =>
        rw [hiz] at hzz ho
        injection hzz with hzz
        have hv : v.cells = #[v] := by
          have ho : v.oneCell' = true := ho
          cases v <;> first | rfl | cases ho
        have hzz : v.cells.toList = zs := hzz
        rw [hv] at hzz
        subst hzz
        injection hz with hz
        subst hz
        exact ⟨v, run_zero hi hiz, rfl⟩
  · cases hz
/-- A part of a value. -/
theorem run_part {c : Ctx} {t : TypeId} (ht : (tyOf P t).ok = true) {cs : List AV} {vs : Array Value} (hc : ARs c cs vs.toList) {k : Nat} {x : AV} (hx : part cs k (tyOf P t).agg (tyOf P t).sz = some x) : ∃ u, (_root_.Go.part t vs k).run P w = .ok u w ∧ AR c x u := by
  obtain ⟨d, i, hu, hi, e⟩ := ty_ok ht
  rw [e] at hx
  have hagg : (isAgg t).run P w = .ok (aggOf d) w := by
    simp only [isAgg, Sem.run_bind, run_underlying hu, Result.andThen_ok]
    cases d <;> rfl
  simp only [part] at hx
  split at hx
  · rename_i ha
    cases hcut : cut cs k i.size with
    | none => rw [hcut] at hx; cases hx
    | some rs =>
      rw [hcut] at hx
      injection hx with hx
      subst hx
      obtain ⟨c1, c2, c3⟩ := ars_cut hc k _ hcut
      refine ⟨.agg (vs.extract k (k + i.size)), ?_, _, rfl, ?_⟩
      · have c2' : k + i.size ≤ vs.size := by simpa using c2
        simp [_root_.Go.part, hagg, ha, sizeOf, typeInfo, hi, c2']
      · simpa [Array.toList_extract, List.extract_eq_take_drop] using c1
  · rename_i ha
    split at hx
    · rename_i hk
      injection hx with hx
      subst hx
      obtain ⟨u, h1, h2⟩ := ars_get? hc k hk
      refine ⟨u, ?_, h2⟩
      have h1' : vs[k]? = some u := by simpa using h1
      simp [_root_.Go.part, hagg, ha, h1']
    · cases hx
end
end Go.Proofs.YtpdghiplnlhnfaaGreat.Ax

namespace Go.Proofs.YtpdghiplnlhnfaaGreat.Ax
set_option linter.unusedSimpArgs false
set_option linter.unusedVariables false
open Go Go.RowKit
section
variable {B : Nat} {w : World} {g : Gh} {h h' : List Ob} {P : Program} {x : AV} {T : Nat → AV} {a : Act}

theorem max_rel {c : Ctx} : ∀ {as : List AV} {y : AV} {vs : List Value} {v : Value}, ARs c as vs → AR c y v → ∀ {r : AV}, maxA y as = some r → ∃ u, (vs.foldlM Builtin.max2 v).run P w = .ok u w ∧ AR c r u
  | [], y, vs, v, e, hy, r, h => by
    have e : vs = [] := e
    subst e
    have h : some y = some r := by rw [← h]; unfold maxA; rfl
    injection h with h; subst h
    exact ⟨v, rfl, hy⟩
  | z :: as, y, vs, v, ⟨u, q, h1, h2, h3⟩, hy, r, h => by
    subst h1
    unfold maxA at h
    split at h
    · rename_i heq; cases heq
    · rename_i k p k' n r' heq
      injection heq with h4 h5
      subst h4 h5
      have hy : v = .int k p := hy
      have h2 : u = .int k' n := h2
      subst hy h2
      obtain ⟨u, e1, e2⟩ := max_rel (y := .v (.int k (if n > p then n else p))) h3 rfl h
      exact ⟨u, by simpa [List.foldlM_cons, Builtin.max2] using e1, e2⟩
    · cases h
theorem min_rel {c : Ctx} : ∀ {as : List AV} {y : AV} {vs : List Value} {v : Value}, ARs c as vs → AR c y v → ∀ {r : AV}, minA y as = some r → ∃ u, (vs.foldlM Builtin.min2 v).run P w = .ok u w ∧ AR c r u
  | [], y, vs, v, e, hy, r, h => by
    have e : vs = [] := e
    subst e
    have h : some y = some r := by rw [← h]; unfold minA; rfl
    injection h with h; subst h
    exact ⟨v, rfl, hy⟩
  | z :: as, y, vs, v, ⟨u, q, h1, h2, h3⟩, hy, r, h => by
    subst h1
    unfold minA at h
    split at h
    · rename_i heq; cases heq
    · rename_i k p k' n r' heq
      injection heq with h4 h5
      subst h4 h5
      have hy : v = .int k p := hy
      have h2 : u = .int k' n := h2
      subst hy h2
      obtain ⟨u, e1, e2⟩ := min_rel (y := .v (.int k (if n < p then n else p))) h3 rfl h
      exact ⟨u, by simpa [List.foldlM_cons, Builtin.min2] using e1, e2⟩
    · cases h

theorem did_call (hh : HOk B w g h) (hB : B ≤ w.heap.size) (hT : TRel (ctx w g h) T a) {c : Call} {ty : TypeId} (hx : callA P T h c = some (x, h')) :
    Did P (do let d ← resolve a.eval c ty; invoke d.target d.args) B w g h x h' := by
  obtain ⟨callee, args, argTypes⟩ := c
  obtain ⟨args⟩ := args
  obtain ⟨argTypes⟩ := argTypes
  unfold callA at hx
  split at hx
  · rename_i X t hc hargs htys
    simp only at hc hargs htys
    subst hc hargs htys
    split at hx
    · rename_i e hk
      cases hr : rowsOf h (ev T X) with
      | none => rw [hr] at hx; cases hx
      | some xs =>
        rw [hr] at hx
        injection hx with hx
        injection hx with hx1 hx2
        subst hx1 hx2
        obtain ⟨d, i, hu, hin, eq⟩ := ty_ok (ok_kind hk (by simp))
        rw [eq] at hk
        cases d <;> try (cases hk; done)
        obtain ⟨A, k, e1, e2, _, _⟩ := rows_ok hh _ (ev_ar hT X) hr
        refine ⟨.value (.int .i64 xs.length), _, w, g, ?_, .inl rfl, Good.refl hh hB, rfl⟩
        simp [resolve, invoke, builtin, Builtin.len_, e1, run_underlying hu, goInt]
    · cases hx
  · rename_i S X t t' hc hargs htys
    simp only at hc hargs htys
    subst hc hargs htys
    split at hx
    · rename_i e hk
      split at hx
      · rename_i ht
        subst ht
        obtain ⟨v, w', g', h1, h2, h3⟩ := did_append (ty := ty) hh hB (ev_ar hT S) (ev_ar hT X) hk hx
        refine ⟨.value v, v, w', g', ?_, .inl rfl, h2, h3⟩
        simp [resolve, invoke, builtin, h1]
      · cases hx
    · cases hx
  · rename_i X t hc hargs htys
    simp only at hc hargs htys
    subst hc hargs htys
    split at hx
    · rename_i e hk
      cases hp : ownPart h (ev T X) with
      | none => rw [hp] at hx; cases hx
      | some q =>
        obtain ⟨id, st, i, n⟩ := q
        rw [hp] at hx
        simp only [Option.bind_some] at hx
        cases hz : (tyOf P e).zero with
        | none => rw [hz] at hx; cases hx
        | some z =>
          rw [hz] at hx
          simp only [Option.bind_some] at hx
          split at hx
          · rename_i hf
            cases hr : putRows h id i e (tyOf P e).sz (List.replicate n (z.map .v)) with
            | none => rw [hr] at hx; cases hx
            | some h2 =>
              rw [hr] at hx
              injection hx with hx
              injection hx with hx1 hx2
              subst hx1 hx2
              obtain ⟨w', g', e1, e2⟩ := did_clear (P := P) (ty := ty) hh hB (ev_ar hT X) hk hp hz hf.1 hf.2 hr
              refine ⟨.value (.tuple #[]), .tuple #[], w', g', ?_, .inl rfl, e2, ⟨_, rfl, rfl⟩⟩
              simp [resolve, invoke, builtin, e1]
          · cases hx
    · cases hx
  · rename_i D X t t' hc hargs htys
    simp only at hc hargs htys
    subst hc hargs htys
    split at hx
    · rename_i e hk
      split at hx
      · rename_i hf
        obtain ⟨ht, f1, f2⟩ := hf
        subst ht
        cases hp : ownPart h (ev T D) with
        | none => rw [hp] at hx; cases hx
        | some q =>
          obtain ⟨id, st, i, n⟩ := q
          rw [hp] at hx
          simp only [Option.bind_some] at hx
          cases hy : rowsOf h (ev T X) with
          | none => rw [hy] at hx; cases hx
          | some ys =>
            rw [hy] at hx
            simp only [Option.bind_some] at hx
            cases hr : putRows h id i e (tyOf P e).sz (ys.take n) with
            | none => rw [hr] at hx; cases hx
            | some h2 =>
              rw [hr] at hx
              injection hx with hx
              injection hx with hx1 hx2
              subst hx1 hx2
              obtain ⟨w', g', e1, e2⟩ := did_copy (P := P) (ty := ty) hh hB (ev_ar hT D) (ev_ar hT X) hk hp hy f1 f2 hr
              refine ⟨.value (.int .i64 ((ys.take n).length : Nat)), _, w', g', ?_, .inl rfl, e2, rfl⟩
              simp only [resolve, invoke, builtin]
              simp [e1]
      · cases hx
    · cases hx
  · rename_i tys X r hc hargs
    simp only at hc hargs
    subst hc hargs
    cases hm : maxA (ev T X) (evl T r) with
    | none => rw [hm] at hx; cases hx
    | some y =>
      rw [hm] at hx
      injection hx with hx
      injection hx with hx1 hx2
      subst hx1 hx2
      obtain ⟨u, e1, e2⟩ := max_rel (P := P) (w := w) (evl_ar hT r) (ev_ar hT X) hm
      refine ⟨.value u, u, w, g, ?_, .inl rfl, Good.refl hh hB, e2⟩
      simp [resolve, invoke, builtin, Builtin.max_, e1]
  · rename_i tys X r hc hargs
    simp only at hc hargs
    subst hc hargs
    cases hm : minA (ev T X) (evl T r) with
    | none => rw [hm] at hx; cases hx
    | some y =>
      rw [hm] at hx
      injection hx with hx
      injection hx with hx1 hx2
      subst hx1 hx2
      obtain ⟨u, e1, e2⟩ := min_rel (P := P) (w := w) (evl_ar hT r) (ev_ar hT X) hm
      refine ⟨.value u, u, w, g, ?_, .inl rfl, Good.refl hh hB, e2⟩
      simp [resolve, invoke, builtin, Builtin.min_, e1]
  · cases hx

theorem DidV.of {s : Sem Value} {t : Sem Next} (d : DidV P s B w g h x h') (e : t = (do pure (.value (← s)))) : Did P t B w g h x h' := e ▸ d.did
theorem did_same {s : Sem Next} {v : Value} (hh : HOk B w g h) (hB : B ≤ w.heap.size) (hs : s.run P w = .ok (.value v) w) (hx : AR (ctx w g h) x v) : Did P s B w g h x h :=
  ⟨.value v, v, w, g, hs, .inl rfl, Good.refl hh hB, hx⟩

theorem evalOp_sound (hh : HOk B w g h) (hB : B ≤ w.heap.size) (hT : TRel (ctx w g h) T a) (o : Oper) (hx : evalOp P T h o.op = some (x, h')) : Did P (execOp a.eval o) B w g h x h' := by
  obtain ⟨dst, op, type, pos, after, guard⟩ := o
  simp only at hx
  have alloc : (allocA P T op).map (fun q => (q.2 h.length, h ++ [q.1])) = some (x, h') → Did P (execOp a.eval ⟨dst, op, type, pos, after, guard⟩) B w g h x h' := fun hx => by
    cases ha : allocA P T op with
    | none => rw [ha] at hx; cases hx
    | some q =>
      obtain ⟨o, mk⟩ := q
      rw [ha] at hx
      injection hx with hx
      injection hx with hx1 hx2
      subst hx1 hx2
      obtain ⟨v, w', e1, m⟩ := allocA_run hh hB hT ha dst type pos after guard
      obtain ⟨g', e2, e3⟩ := m.more hh hB
      exact ⟨.value v, v, w', g', e1, .inl rfl, e2, e3⟩
  unfold evalOp at hx
  split at hx
  case h_1 y =>
    injection hx with hx; injection hx with hx1 hx2; subst hx1 hx2
    exact did_same hh hB (by simp [execOp]) (ev_ar hT y)
  case h_2 y =>
    injection hx with hx; injection hx with hx1 hx2; subst hx1 hx2
    exact did_same hh hB (by simp [execOp]) (ev_ar hT y)
  case h_3 c y z =>
    split at hx
    · rename_i t hc
      injection hx with hx; injection hx with hx1 hx2; subst hx1 hx2
      have e := ev_v hT hc
      cases t
      · exact did_same hh hB (v := a.eval z) (by simp [execOp, e, asBool]) (ev_ar hT z)
      · exact did_same hh hB (v := a.eval y) (by simp [execOp, e, asBool]) (ev_ar hT y)
    · cases hx
  case h_4 t => exact alloc hx
  case h_5 t y => exact alloc hx
  case h_6 t n ps => exact alloc hx
  case h_7 t l c => exact alloc hx
  case h_8 t r => exact alloc hx
  case h_9 t ps =>
    split at hx
    · rename_i fs hk
      split at hx
      · rename_i hf
        cases hz : (tyOf P t).zero with
        | none => rw [hz] at hx; cases hx
        | some z =>
          rw [hz] at hx
          simp only [Option.bind_some] at hx
          cases hc : fillA (fplace P fs) (z.map .v) (evs T ps.toList) with
          | none => rw [hc] at hx; cases hx
          | some cs =>
            rw [hc] at hx
            injection hx with hx; injection hx with hx1 hx2; subst hx1 hx2
            exact (did_build hh hB hT hk hf hz hc).of rfl
      · cases hx
    · cases hx
  case h_10 t p =>
    cases hl : loadA h (tyOf P t) (ev T p) with
    | none => rw [hl] at hx; cases hx
    | some y =>
      rw [hl] at hx
      injection hx with hx; injection hx with hx1 hx2; subst hx1 hx2
      exact (did_load hh hB (ev_ar hT p) hl).of rfl
  case h_11 t p y =>
    split at hx
    · rename_i ht
      cases hc : (ev T y).cells with
      | none => rw [hc] at hx; cases hx
      | some ns =>
        rw [hc] at hx
        simp only [Option.bind_some] at hx
        split at hx
        · rename_i hl
          cases hs : storeA h ns (ev T p) with
          | none => rw [hs] at hx; cases hx
          | some h2 =>
            rw [hs] at hx
            injection hx with hx; injection hx with hx1 hx2; subst hx1 hx2
            obtain ⟨w', g', e1, e2⟩ := did_store hh hB (ev_ar hT p) (ev_ar hT y) ht hc hl hs
            exact ⟨.skip, undef, w', g', by simp [execOp, e1], .inr ⟨rfl, rfl⟩, e2, rfl⟩
        · cases hx
    · cases hx
  case h_12 y =>
    have hy := ev_ar hT y
    split at hx
    · rename_i id off he
      injection hx with hx; injection hx with hx1 hx2; subst hx1 hx2
      rw [he] at hy
      obtain ⟨q, e⟩ := hy
      exact did_same hh hB (v := a.eval y) (by simp [execOp, e]) ⟨q, e⟩
    · rename_i c e i k he
      injection hx with hx; injection hx with hx1 hx2; subst hx1 hx2
      rw [he] at hy
      obtain ⟨A, m, cp, q1, q2, e⟩ := hy
      exact did_same hh hB (v := a.eval y) (by simp [execOp, e]) ⟨A, m, cp, q1, q2, e⟩
    · rename_i f p q he
      injection hx with hx; injection hx with hx1 hx2; subst hx1 hx2
      rw [he] at hy
      obtain ⟨us, vs, e, q⟩ := hy
      exact did_same hh hB (v := a.eval y) (by simp [execOp, e]) ⟨us, vs, e, q⟩
    · cases hx
  case h_13 op t y z _ =>
    split at hx
    · rename_i hn
      cases hb : nilA P h op t (ev T y) with
      | none => rw [hb] at hx; cases hx
      | some r =>
        rw [hb] at hx
        injection hx with hx; injection hx with hx1 hx2; subst hx1 hx2
        exact (did_nil hh hB hT hn hb).of rfl
    · cases hb : binA P op t (ev T y) (ev T z) with
      | none => rw [hb] at hx; cases hx
      | some r =>
        rw [hb] at hx
        injection hx with hx; injection hx with hx1 hx2; subst hx1 hx2
        exact (did_bin hh hB hT hb).of rfl
  case h_14 op _ y =>
    split at hx
    · rename_i k n he
      injection hx with hx; injection hx with hx1 hx2; subst hx1 hx2
      have e := ev_v hT he
      exact did_same hh hB (by simp [execOp, e, Op.unary, Op.intArith]) rfl
    · rename_i b he
      injection hx with hx; injection hx with hx1 hx2; subst hx1 hx2
      have e := ev_v hT he
      exact did_same hh hB (by simp [execOp, e, Op.unary]) rfl
    · cases hx
  case h_15 s d y =>
    split at hx
    · rename_i k k' n hs hd he
      injection hx with hx; injection hx with hx1 hx2; subst hx1 hx2
      have e := ev_v hT he
      obtain ⟨d1, i1, hu1, hi1, eq1⟩ := ty_ok hs
      obtain ⟨d2, i2, hu2, hi2, eq2⟩ := ty_ok (ok_kind hd (by simp))
      rw [eq2] at hd
      cases d2 <;> try (cases hd; done)
      injection hd with hd
      subst hd
      refine did_same hh hB (v := .int _ (IntKind.wrap _ n)) ?_ rfl
      simp [execOp, e, convert, run_underlying hu1, run_underlying hu2, Conv.intToInt]
    · cases hx
  case h_16 f p q =>
    injection hx with hx; injection hx with hx1 hx2; subst hx1 hx2
    refine did_same hh hB (v := .func f (p.map a.eval) (q.map a.eval)) (by simp [execOp, Instr.makeFunc]) ⟨_, _, rfl, ?_, ?_⟩
    · simpa using evl_ar hT p.toList
    · simpa using evl_ar hT q.toList
  case h_17 t y i =>
    have hy := ev_ar hT y
    split at hx
    · rename_i fs hk
      cases hf : fs[i]? with
      | none => rw [hf] at hx; cases hx
      | some f =>
        rw [hf] at hx
        simp only [Option.bind_some] at hx
        split at hx
        · rename_i hc
          obtain ⟨d, ii, hu, hin, eq⟩ := ty_ok (ok_kind hk (by simp))
          rw [eq] at hk
          cases d <;> try (cases hk; done)
          rename_i fields
          injection hk with hk
          obtain ⟨d2, i2, hu2, hi2, eq2⟩ := ty_ok hc.1
          have hsz : i2.size ≠ 0 := by have := hc.2; rw [eq2] at this; simp at this; omega
          rw [← hk, List.getElem?_map] at hf
          cases hff : fields.toList[i]? with
          | none => rw [hff] at hf; cases hf
          | some F =>
            rw [hff] at hf
            injection hf with hf
            subst hf
            have hff' : fields[i]? = some F := by simpa using hff
            split at hx
            · rename_i id off he
              injection hx with hx; injection hx with hx1 hx2; subst hx1 hx2
              rw [he] at hy
              obtain ⟨q, e⟩ := hy
              refine did_same hh hB (v := .pointer (some ⟨g.β id, off + F.offset, none⟩)) ?_ ⟨q, rfl⟩
              simp [execOp, e, Instr.fieldAt, run_underlying hu, hff', Instr.sureAddr, fieldPlace, sizeOf, typeInfo, hi2, hsz, Addr.add_lit, ctx]
            · rename_i c e' j k he
              injection hx with hx; injection hx with hx1 hx2; subst hx1 hx2
              rw [he] at hy
              obtain ⟨A, m, cp, q1, q2, e⟩ := hy
              refine did_same hh hB (v := .pointer (some (A.add (j * e' + (k + F.offset))))) ?_ ⟨A, m, cp, q1, q2, rfl⟩
              simp [execOp, e, Instr.fieldAt, run_underlying hu, hff', Instr.sureAddr, fieldPlace, sizeOf, typeInfo, hi2, hsz, Addr.add_add, Nat.add_assoc]
            · cases hx
        · cases hx
    · cases hx
  case h_19 t y i =>
    have hy := ev_ar hT y
    split at hx
    · rename_i e k n hk he
      split at hx
      · rename_i hc
        have e1 := ev_v hT he
        obtain ⟨d, ii, hu, hin, eq⟩ := ty_ok (ok_kind hk (by simp))
        rw [eq] at hk
        cases d <;> try (cases hk; done)
        injection hk with hk
        subst hk
        obtain ⟨d2, i2, hu2, hi2, eq2⟩ := ty_ok hc.1
        cases hia : idxA h n (ev T y) with
        | none => rw [hia] at hx; cases hx
        | some z =>
          rw [hia] at hx
          injection hx with hx; injection hx with hx1 hx2; subst hx1 hx2
          unfold idxA at hia
          cases hr : rowsOf h (ev T y) with
          | none => rw [hr] at hia; cases hia
          | some xs =>
            rw [hr, hc.2.2] at hia
            simp only [Option.bind_some] at hia
            split at hia
            · rename_i hn
              injection hia with hia
              subst hia
              obtain ⟨A, cp, q1, q2, q3, _⟩ := rows_ok hh _ hy hr
              have hra := q3 _ hc.2.2
              have hlt : n.toNat < xs.length := by omega
              have hA : ∃ ad, A = some ad := by
                have hrow : xs[n.toNat]? = some xs[n.toNat] := List.getElem?_eq_getElem hlt
                have h0 := hc.2.1
                have hl := hra.len _ (List.getElem_mem hlt)
                obtain ⟨ad, u, z1, _⟩ := hra.cell _ 0 _ (nth xs[n.toNat] 0) hrow (get_nth (by omega))
                exact ⟨ad, z1⟩
              obtain ⟨ad, rfl⟩ := hA
              refine did_same hh hB (v := .pointer (some (ad.add (n.toNat * i2.size)))) ?_ ⟨ad, xs.length, cp, by rw [← q1]; exact hy, hlt, by rw [eq2, Nat.add_zero]⟩
              simp [execOp, e1, q1, Instr.indexAt, asIntOf, run_underlying hu, sizeOf, typeInfo, hi2, hn.1, hn.2]
            · cases hia
      · cases hx
    · rename_i m e k n hk he
      split at hx
      · rename_i hc
        obtain ⟨c1, c2, c3⟩ := hc
        have e1 := ev_v hT he
        obtain ⟨d, ii, hu, hin, eq⟩ := ty_ok (ok_kind hk (by simp))
        rw [eq] at hk
        cases d <;> try (cases hk; done)
        injection hk with hk1 hk2
        subst hk1 hk2
        obtain ⟨d2, i2, hu2, hi2, eq2⟩ := ty_ok c1
        split at hx
        · rename_i id off he2
          injection hx with hx; injection hx with hx1 hx2; subst hx1 hx2
          rw [he2] at hy
          obtain ⟨q, e⟩ := hy
          refine did_same hh hB (v := .pointer (some ⟨g.β id, off + n.toNat * i2.size, none⟩)) ?_ ⟨q, by rw [eq2]; rfl⟩
          simp [execOp, e1, e, Instr.indexAt, asIntOf, run_underlying hu, Instr.sureAddr, sizeOf, typeInfo, hi2, c2, c3, Addr.add_lit, ctx]
        · rename_i c e' j k2 he2
          injection hx with hx; injection hx with hx1 hx2; subst hx1 hx2
          rw [he2] at hy
          obtain ⟨A, m', cp, q1, q2, e⟩ := hy
          refine did_same hh hB (v := .pointer (some (A.add (j * e' + (k2 + n.toNat * i2.size))))) ?_ ⟨A, m', cp, q1, q2, by rw [eq2]⟩
          simp [execOp, e1, e, Instr.indexAt, asIntOf, run_underlying hu, Instr.sureAddr, sizeOf, typeInfo, hi2, c2, c3, Addr.add_add, Nat.add_assoc]
        · cases hx
      · cases hx
    · cases hx
  case h_18 t y i =>
    have hy := ev_ar hT y
    split at hx
    · rename_i fs cs hk he
      cases hf : fs[i]? with
      | none => rw [hf] at hx; cases hx
      | some f =>
        rw [hf] at hx
        simp only [Option.bind_some] at hx
        split at hx
        · rename_i ho
          obtain ⟨d, ii, hu, hin, eq⟩ := ty_ok (ok_kind hk (by simp))
          rw [eq] at hk
          cases d <;> try (cases hk; done)
          rename_i fields
          injection hk with hk
          rw [← hk, List.getElem?_map] at hf
          cases hff : fields.toList[i]? with
          | none => rw [hff] at hf; cases hf
          | some F =>
            rw [hff] at hf
            injection hf with hf
            subst hf
            have hff' : fields[i]? = some F := by simpa using hff
            rw [he] at hy
            obtain ⟨vs, e, q⟩ := hy
            cases hp : part cs F.offset (tyOf P F.type).agg (tyOf P F.type).sz with
            | none => rw [hp] at hx; cases hx
            | some r =>
              rw [hp] at hx
              injection hx with hx; injection hx with hx1 hx2; subst hx1 hx2
              obtain ⟨u, z1, z2⟩ := run_part (P := P) (w := w) ho q hp
              exact did_same hh hB (v := u) (by simp [execOp, e, Instr.field, run_underlying hu, hff', asAgg, z1]) z2
        · cases hx
    · cases hx
  case h_20 t y i =>
    have hy := ev_ar hT y
    split at hx
    · rename_i m e cs k n hk he hi
      split at hx
      · rename_i hc
        obtain ⟨c1, c2, c3⟩ := hc
        have e1 := ev_v hT hi
        obtain ⟨d, ii, hu, hin, eq⟩ := ty_ok (ok_kind hk (by simp))
        rw [eq] at hk
        cases d <;> try (cases hk; done)
        injection hk with hk1 hk2
        subst hk1 hk2
        rename_i m e
        obtain ⟨d2, i2, hu2, hi2, eq2⟩ := ty_ok c1
        rw [he] at hy
        obtain ⟨vs, ee, q⟩ := hy
        cases hp : part cs (n.toNat * (tyOf P e).sz) (tyOf P e).agg (tyOf P e).sz with
        | none => rw [hp] at hx; cases hx
        | some r =>
          rw [hp] at hx
          injection hx with hx; injection hx with hx1 hx2; subst hx1 hx2
          obtain ⟨u, z1, z2⟩ := run_part (P := P) (w := w) c1 q hp
          have hsz : (tyOf P e).sz = i2.size := by rw [eq2]
          rw [hsz] at z1
          exact did_same hh hB (v := u) (by simp [execOp, e1, ee, Instr.index, asIntOf, run_underlying hu, sizeOf, typeInfo, hi2, c2, c3, z1]) z2
      · cases hx
    · cases hx
  case h_21 t y lo hi =>
    split at hx
    · rename_i e hk
      cases hr : rowsOf h (ev T y) with
      | none => rw [hr] at hx; cases hx
      | some xs =>
        rw [hr] at hx
        simp only [Option.bind_some] at hx
        cases hl : intOr T 0 lo with
        | none => rw [hl] at hx; cases hx
        | some l =>
          rw [hl] at hx
          simp only [Option.bind_some] at hx
          cases hm : intOr T xs.length hi with
          | none => rw [hm] at hx; cases hx
          | some m =>
            rw [hm] at hx
            simp only [Option.bind_some] at hx
            split at hx
            · rename_i hc
              obtain ⟨c1, c2, c3, c4, c5⟩ := hc
              injection hx with hx; injection hx with hx1 hx2; subst hx1 hx2
              exact (did_slice hh hB hT hk hr hl hm c1 c2 c3 c4 c5).of rfl
            · cases hx
    · cases hx
  case h_22 t m k v =>
    split at hx
    · rename_i kt et id kk n hk hm hkey
      split at hx
      · rename_i kk' es hkk ho
        split at hx
        · rename_i heq
          subst heq
          cases hi : insA kk' n (ev T v) es with
          | none => rw [hi] at hx; cases hx
          | some es' =>
            rw [hi] at hx
            injection hx with hx; injection hx with hx1 hx2; subst hx1 hx2
            obtain ⟨d, ii, hu, hin, eq⟩ := ty_ok (ok_kind hk (by simp))
            rw [eq] at hk
            cases d <;> try (cases hk; done)
            injection hk with hk1 hk2
            subst hk1 hk2
            obtain ⟨d2, i2, hu2, hin2, eq2⟩ := ty_ok (ok_kind hkk (by simp))
            rw [eq2] at hkk
            cases d2 <;> try (cases hkk; done)
            have e1 := ev_v hT hkey
            have hy := ev_ar hT m
            rw [hm] at hy
            obtain ⟨q, e2⟩ := hy
            obtain ⟨w', r1, r2⟩ := did_insert (P := P) hh hB hu hu2 ho (ev_ar hT v) hi
            refine ⟨.skip, undef, w', g, ?_, .inr ⟨rfl, rfl⟩, r2, rfl⟩
            simp only [execOp, e1, e2]
            have e3 : (ctx w g h).β id = g.β id := rfl
            rw [e3, Sem.run_bind, r1]
            rfl
        · cases hx
      · cases hx
    · cases hx
  case h_23 t m k ok =>
    split at hx
    · rename_i kt et id kk n hk hm hkey
      split at hx
      · rename_i kk' es z hkk ho hz
        split at hx
        · rename_i heq
          subst heq
          cases hl : lookA kk' n z es with
          | none => rw [hl] at hx; cases hx
          | some p =>
            rw [hl] at hx
            injection hx with hx; injection hx with hx1 hx2; subst hx1 hx2
            unfold lookA at hl
            split at hl
            · rename_i hko
              injection hl with hl
              subst hl
              obtain ⟨d, ii, hu, hin, eq⟩ := ty_ok (ok_kind hk (by simp))
              rw [eq] at hk
              cases d <;> try (cases hk; done)
              injection hk with hk1 hk2
              subst hk1 hk2
              obtain ⟨d2, i2, hu2, hin2, eq2⟩ := ty_ok (ok_kind hkk (by simp))
              rw [eq2] at hkk
              cases d2 <;> try (cases hkk; done)
              have e1 := ev_v hT hkey
              have hy := ev_ar hT m
              rw [hm] at hy
              obtain ⟨q, e2⟩ := hy
              obtain ⟨zu, z1, z2⟩ := zeroA_ok (P := P) (w := w) (c := ctx w g h) hz
              obtain ⟨p1, es0, k0, l', p2, p3, p4, p5⟩ := hh.ok id _ ho
              obtain ⟨u, u1, u2⟩ := run_lookup_int (P := P) (n := n) (ok := ok) hu hu2 p2 p3 p4 p5 hko z1 z2
              refine did_same hh hB (v := u) ?_ u2
              simp only [execOp, e1, e2, Sem.run_bind, u1]
              rfl
            · cases hl
        · cases hx
      · cases hx
    · cases hx
  case h_24 y i =>
    have hy := ev_ar hT y
    split at hx
    · rename_i cs he
      split at hx
      · rename_i hi
        injection hx with hx; injection hx with hx1 hx2; subst hx1 hx2
        rw [he] at hy
        obtain ⟨vs, e, q⟩ := hy
        obtain ⟨u, q1, q2⟩ := ars_get? q i hi
        have q1' : vs[i]? = some u := by simpa using q1
        exact did_same hh hB (v := u) (by simp [execOp, e, Instr.extract, q1']) q2
      · cases hx
    · cases hx
  case h_25 c => exact did_call hh hB hT hx
  case h_26 => cases hx
end
end Go.Proofs.YtpdghiplnlhnfaaGreat.Ax

namespace Go.Proofs.YtpdghiplnlhnfaaGreat.Ax
set_option linter.unusedSimpArgs false
set_option linter.unusedVariables false
open Go Go.RowKit
section
variable {φ : Nat → Ob} {h h' : List Ob} {P : Program} {x : AV} {T : Nat → AV} {i : Nat} {o : Ob}

theorem eOf_fill : ∀ (a : AV) {e : Nat}, eOf h a = some e → eOf (fill φ h) a = some e
  | .sl _ _, _, he => he
  | .tl id st, e, he => by
    simp only [eOf] at he ⊢
    split at he
    · rename_i ty e' ys s ho
      rw [fill_live ho rfl]
      exact he
    · cases he
  | .vw a e0 i n, e, he => by
    simp only [eOf] at he ⊢
    cases ha : eOf h a with
    | none => rw [ha] at he; cases he
    | some e1 => rw [ha] at he; rw [eOf_fill a ha]; exact he
  | .v _, _, he | .em, _, he | .ptr _ _, _, he | .ep _ _ _ _, _, he | .mp _, _, he | .ag _, _, he | .tup _, _, he | .fn _ _ _, _, he | .bad, _, he => by cases he
theorem rowsOf_fill : ∀ (a : AV) {xs : List (List AV)}, rowsOf h a = some xs → rowsOf (fill φ h) a = some xs
  | .sl _ _, _, hr => hr
  | .em, _, hr => hr
  | .tl id st, xs, hr => by
    simp only [rowsOf] at hr ⊢
    split at hr
    · rename_i ty e' ys s ho
      rw [fill_live ho rfl]
      exact hr
    · cases hr
  | .vw a e i n, xs, hr => by
    simp only [rowsOf] at hr ⊢
    cases ha : rowsOf h a with
    | none => rw [ha] at hr; cases hr
    | some ys =>
      rw [ha] at hr
      rw [rowsOf_fill a ha]
      simp only [Option.bind_some] at hr ⊢
      split at hr
      · rename_i hc
        rw [if_pos ⟨hc.1, hc.2.imp id (eOf_fill a)⟩]
        exact hr
      · cases hr
  | .v x, xs, hr => by
    unfold rowsOf at hr ⊢
    split at hr
    · rename_i heq; cases heq
    · rename_i heq; cases heq
    · rename_i heq; cases heq
    · rename_i heq; cases heq; exact hr
    · rename_i heq; cases heq
    · cases hr
  | .ptr _ _, _, hr | .ep _ _ _ _, _, hr | .mp _, _, hr | .ag _, _, hr | .tup _, _, hr | .fn _ _ _, _, hr | .bad, _, hr => by cases hr
theorem nonNil_fill (a : AV) (hn : nonNil h a = true) : nonNil (fill φ h) a = true := by
  unfold nonNil at hn ⊢
  rw [Bool.or_eq_true] at hn ⊢
  refine hn.imp id fun hn => ?_
  cases hr : rowsOf h a with
  | none => rw [hr] at hn; cases hn
  | some xs => cases he : eOf h a with
    | none => rw [hr, he] at hn; cases xs <;> cases hn
    | some e => rw [hr, he] at hn; rw [rowsOf_fill a hr, eOf_fill a he]; exact hn
theorem nilA_fill {op : BinOp} {t : TypeId} (a : AV) (hn : nilA P h op t a = some x) : nilA P (fill φ h) op t a = some x := by
  unfold nilA at hn ⊢
  cases hk : (tyOf P t).kind <;> rw [hk] at hn <;> first
    | cases hn; done
    | skip
  simp only at hn ⊢
  cases hv : isNilV a with
  | true => rw [hv] at hn; exact hn
  | false =>
    rw [hv] at hn
    simp only [Bool.false_eq_true, if_false] at hn ⊢
    split at hn
    · rename_i hnn
      rw [if_pos (nonNil_fill _ hnn)]; exact hn
    · cases hn
theorem loadA_fill {τ : Ty} : ∀ (a : AV), loadA h τ a = some x → loadA (fill φ h) τ a = some x
  | .ptr id off, hx => by
    simp only [loadA] at hx ⊢
    split at hx
    · rename_i ho
      simp only [fill_live ho rfl]
      exact hx
    · cases hx
  | .ep a e i k, hx => by
    simp only [loadA] at hx ⊢
    split at hx
    · rename_i hc
      rw [if_pos ⟨hc.1, eOf_fill _ hc.2⟩]
      cases hr : rowsOf h a with
      | none => rw [hr] at hx; cases hx
      | some xs => rw [hr] at hx; rw [rowsOf_fill _ hr]; exact hx
    · cases hx
  | .sl _ _, hx | .tl _ _, hx | .em, hx | .vw _ _ _ _, hx | .v _, hx | .mp _, hx | .ag _, hx | .tup _, hx | .fn _ _ _, hx | .bad, hx => by cases hx
theorem idxA_fill {n : Int} (a : AV) (hx : idxA h n a = some x) : idxA (fill φ h) n a = some x := by
  unfold idxA at hx ⊢
  cases hr : rowsOf h a with
  | none => rw [hr] at hx; cases hx
  | some xs =>
    rw [hr] at hx
    cases he : eOf h a with
    | none => rw [he] at hx; cases hx
    | some e => rw [he] at hx; rw [rowsOf_fill a hr, eOf_fill a he]; exact hx
theorem storeA_fill {ns : List AV} : ∀ (a : AV), storeA h ns a = some h' → storeA (fill φ h) ns a = some (fill φ h') ∧ ResK h h'
  | .ptr id off, hx => by
    simp only [storeA] at hx ⊢
    split at hx
    · rename_i ty cs ho
      simp only [fill_live ho rfl]
      cases hl : lay cs off ns with
      | none => rw [hl] at hx; cases hx
      | some cs' =>
        rw [hl] at hx
        injection hx with hx
        subst hx
        exact ⟨by rw [fill_set rfl]; rfl, resK_set ho rfl⟩
    · cases hx
  | .ep (.tl id st) e i k, hx => by
    simp only [storeA] at hx ⊢
    split at hx
    · rename_i ty e' xs s ho
      simp only [fill_live ho rfl]
      split at hx
      · rename_i hc
        rw [if_pos hc]
        cases hi : xs[i]? with
        | none => rw [hi] at hx; cases hx
        | some r =>
          rw [hi] at hx
          simp only [Option.bind_some] at hx ⊢
          cases hl : lay r k ns with
          | none => rw [hl] at hx; cases hx
          | some r' =>
            rw [hl] at hx
            injection hx with hx
            subst hx
            exact ⟨by rw [fill_set rfl]; rfl, resK_set ho rfl⟩
      · cases hx
    · cases hx
  | .ep (.sl _ _) _ _ _, hx | .ep .em _ _ _, hx | .ep (.vw _ _ _ _) _ _ _, hx | .ep (.v _) _ _ _, hx | .ep (.ptr _ _) _ _ _, hx | .ep (.ep _ _ _ _) _ _ _, hx | .ep (.mp _) _ _ _, hx | .ep (.ag _) _ _ _, hx | .ep (.tup _) _ _ _, hx | .ep (.fn _ _ _) _ _ _, hx | .ep .bad _ _ _, hx => by cases hx
  | .sl _ _, hx | .tl _ _, hx | .em, hx | .vw _ _ _ _, hx | .v _, hx | .mp _, hx | .ag _, hx | .tup _, hx | .fn _ _ _, hx | .bad, hx => by cases hx
theorem appendA_fill (hu : Upto φ h.length) {e : TypeId} (s y : AV) (hx : appendA P h e s y = some (x, h')) : appendA P (fill φ h) e s y = some (x, fill φ h') ∧ ResK h h' := by
  unfold appendA at hx ⊢
  cases hr : rowsOf h y with
  | none => simp [hr] at hx
  | some ys =>
    rw [rowsOf_fill y hr]
    simp only [hr, Option.bind_some] at hx ⊢
    split at hx
    · rename_i hc
      rw [if_pos hc]
      split at hx
      · split at hx
        · rename_i id st ty e' xs s ho
          simp only [fill_live ho rfl]
          split at hx
          · rename_i hcc
            rw [if_pos hcc]
            injection hx with hx
            injection hx with h1 h2
            subst h1 h2
            exact ⟨by rw [fill_set rfl], resK_set ho rfl⟩
          · cases hx
        · cases hx
      · split at hx
        · rename_i hcc
          simp only [if_pos hcc]
          injection hx with hx
          injection hx with h1 h2
          subst h1 h2
          exact ⟨by rw [fill_app hu, fill_len], resK_app⟩
        · cases hx
      · cases hx
    · cases hx
theorem ownPart_fill {q : Nat × Nat × Nat × Nat} : ∀ (y : AV), ownPart h y = some q → ownPart (fill φ h) y = some q
  | .tl id st, hx => by
    simp only [ownPart] at hx ⊢
    split at hx
    · rename_i ho; simp only [fill_live ho rfl]; exact hx
    · cases hx
  | .vw (.tl id st) e i n, hx => by
    simp only [ownPart] at hx ⊢
    split at hx
    · rename_i ho; simp only [fill_live ho rfl]; exact hx
    · cases hx
  | .vw (.sl _ _) _ _ _, hx | .vw .em _ _ _, hx | .vw (.vw _ _ _ _) _ _ _, hx | .vw (.v _) _ _ _, hx | .vw (.ptr _ _) _ _ _, hx | .vw (.ep _ _ _ _) _ _ _, hx | .vw (.mp _) _ _ _, hx | .vw (.ag _) _ _ _, hx | .vw (.tup _) _ _ _, hx | .vw (.fn _ _ _) _ _ _, hx | .vw .bad _ _ _, hx => by cases hx
  | .sl _ _, hx | .em, hx | .ptr _ _, hx | .ep _ _ _ _, hx | .v _, hx | .mp _, hx | .ag _, hx | .tup _, hx | .fn _ _ _, hx | .bad, hx => by cases hx
theorem putRows_fill {id i ty e : Nat} {ys : List (List AV)} (hx : putRows h id i ty e ys = some h') : putRows (fill φ h) id i ty e ys = some (fill φ h') ∧ ResK h h' := by
  unfold putRows at hx ⊢
  split at hx
  · rename_i ho
    simp only [fill_live ho rfl]
    split at hx
    · rename_i hc
      rw [if_pos hc]
      injection hx with hx
      subst hx
      exact ⟨by rw [fill_set rfl], resK_set ho rfl⟩
    · cases hx
  · cases hx
theorem callA_fill (hu : Upto φ h.length) (c : Call) (hx : callA P T h c = some (x, h')) : callA P T (fill φ h) c = some (x, fill φ h') ∧ ResK h h' := by
  unfold callA at hx ⊢
  split at hx
  · split at hx
    · rename_i e hk
      cases hr : rowsOf h (ev T _) with
      | none => rw [hr] at hx; cases hx
      | some xs =>
        rw [hr] at hx
        injection hx with hx; injection hx with h1 h2; subst h1 h2
        simp only [hk, rowsOf_fill _ hr]
        exact ⟨rfl, .refl⟩
    · cases hx
  · split at hx
    · rename_i e hk
      split at hx
      · rename_i ht
        simp only [hk, if_pos ht]
        exact appendA_fill hu _ _ hx
      · cases hx
    · cases hx
  · split at hx
    · rename_i e hk
      cases hp : ownPart h (ev T _) with
      | none => rw [hp] at hx; cases hx
      | some q =>
        obtain ⟨id, st, i, n⟩ := q
        rw [hp] at hx
        simp only [Option.bind_some] at hx
        cases hz : (tyOf P e).zero with
        | none => rw [hz] at hx; cases hx
        | some z =>
          rw [hz] at hx
          simp only [Option.bind_some] at hx
          split at hx
          · rename_i hf
            cases hr : putRows h id i e (tyOf P e).sz (List.replicate n (z.map .v)) with
            | none => rw [hr] at hx; cases hx
            | some h2 =>
              rw [hr] at hx
              injection hx with hx; injection hx with h1 h2; subst h1 h2
              obtain ⟨q1, q2⟩ := putRows_fill (φ := φ) hr
              simp only [hk, ownPart_fill _ hp, Option.bind_some, hz, if_pos hf, q1]
              exact ⟨rfl, q2⟩
          · cases hx
    · cases hx
  · split at hx
    · rename_i e hk
      split at hx
      · rename_i hf
        cases hp : ownPart h (ev T _) with
        | none => rw [hp] at hx; cases hx
        | some q =>
          obtain ⟨id, st, i, n⟩ := q
          rw [hp] at hx
          simp only [Option.bind_some] at hx
          cases hy : rowsOf h (ev T _) with
          | none => rw [hy] at hx; cases hx
          | some ys =>
            rw [hy] at hx
            simp only [Option.bind_some] at hx
            cases hr : putRows h id i e (tyOf P e).sz (ys.take n) with
            | none => rw [hr] at hx; cases hx
            | some h2 =>
              rw [hr] at hx
              injection hx with hx; injection hx with h1 h2; subst h1 h2
              obtain ⟨q1, q2⟩ := putRows_fill (φ := φ) hr
              simp only [hk, if_pos hf, ownPart_fill _ hp, Option.bind_some, rowsOf_fill _ hy, q1]
              exact ⟨rfl, q2⟩
      · cases hx
    · cases hx
  · cases hm : maxA _ _ with
    | none => rw [hm] at hx; cases hx
    | some y =>
      rw [hm] at hx
      injection hx with hx; injection hx with h1 h2; subst h1 h2
      exact ⟨rfl, .refl⟩
  · cases hm : minA _ _ with
    | none => rw [hm] at hx; cases hx
    | some y =>
      rw [hm] at hx
      injection hx with hx; injection hx with h1 h2; subst h1 h2
      exact ⟨rfl, .refl⟩
  · cases hx
theorem allocA_live {op : Op} {mk : Nat → AV} (hx : allocA P T op = some (o, mk)) : o.isRes = false := by
  unfold allocA at hx
  repeat' split at hx
  all_goals first
    | cases hx; done
    | (simp only [Option.map_eq_some_iff, Prod.mk.injEq] at hx; obtain ⟨_, _, rfl, _⟩ := hx; rfl)
    | (injection hx with hx; injection hx with h1 h2; subst h1; rfl)
theorem map_pair {α : Type} {y : Option α} {f : α → AV} (hx : (y.map fun a => (f a, h)) = some (x, h')) : ∃ a, y = some a ∧ f a = x ∧ h = h' := by
  cases y with
  | none => cases hx
  | some a => injection hx with hx; injection hx with h1 h2; exact ⟨a, rfl, h1, h2⟩
theorem evalOp_fill (hu : Upto φ h.length) (op : Op) (hx : evalOp P T h op = some (x, h')) : evalOp P T (fill φ h) op = some (x, fill φ h') ∧ ResK h h' := by
  have alloc : ∀ op', (allocA P T op').map (fun q => (q.2 h.length, h ++ [q.1])) = some (x, h') → (allocA P T op').map (fun q => (q.2 (fill φ h).length, fill φ h ++ [q.1])) = some (x, fill φ h') ∧ ResK h h' := fun op' hx => by
    cases ha : allocA P T op' with
    | none => rw [ha] at hx; cases hx
    | some q =>
      rw [ha] at hx
      injection hx with hx; injection hx with h1 h2; subst h1 h2
      exact ⟨by rw [fill_app hu, fill_len]; rfl, resK_app⟩
  have same : ∀ {y : AV}, some (y, h) = some (x, h') → some (y, fill φ h) = some (x, fill φ h') ∧ ResK h h' := fun e => by
    injection e with e; injection e with h1 h2; subst h1 h2; exact ⟨rfl, .refl⟩
  cases op with
  | move y => exact same hx
  | assign y => exact same hx
  | makeFunc f p q => exact same hx
  | alloc t => exact alloc _ hx
  | box t y => exact alloc _ hx
  | buildSlice t n ps => exact alloc _ hx
  | makeSlice t l c => exact alloc _ hx
  | makeMap t r => exact alloc _ hx
  | call c => exact callA_fill hu c hx
  | load t y =>
    obtain ⟨a, h1, h2, h3⟩ := map_pair hx
    subst h2 h3
    exact ⟨by simp only [evalOp, loadA_fill _ h1]; rfl, .refl⟩
  | store t y z =>
    simp only [evalOp] at hx ⊢
    split at hx
    · rename_i ht
      cases hc : (ev T z).cells with
      | none => rw [hc] at hx; cases hx
      | some ns =>
        rw [hc] at hx
        simp only [Option.bind_some] at hx
        split at hx
        · rename_i hl
          cases hs : storeA h ns (ev T y) with
          | none => rw [hs] at hx; cases hx
          | some h2 =>
            rw [hs] at hx
            injection hx with hx; injection hx with h1 h2; subst h1 h2
            obtain ⟨q1, q2⟩ := storeA_fill (φ := φ) _ hs
            exact ⟨by simp only [if_pos ht, hc, Option.bind_some, if_pos hl, q1]; rfl, q2⟩
        · cases hx
    · cases hx
  | binOp op t y z u =>
    simp only [evalOp] at hx ⊢
    split at hx
    · rename_i hn
      obtain ⟨a, h1, h2, h3⟩ := map_pair hx
      subst h2 h3
      exact ⟨by simp only [if_pos hn, nilA_fill _ h1]; rfl, .refl⟩
    · rename_i hn
      obtain ⟨a, h1, h2, h3⟩ := map_pair hx
      subst h2 h3
      exact ⟨by simp only [if_neg hn, h1]; rfl, .refl⟩
  | indexAddr t y z =>
    simp only [evalOp] at hx ⊢
    split at hx
    · split at hx
      · rename_i hc
        obtain ⟨a, h1, h2, h3⟩ := map_pair hx
        subst h2 h3
        exact ⟨by simp only [if_pos (show _ ∧ _ ∧ _ from ⟨hc.1, hc.2.1, eOf_fill (φ := φ) _ hc.2.2⟩), idxA_fill _ h1]; rfl, .refl⟩
      · cases hx
    · split at hx
      · rename_i hc
        simp only [if_pos hc]
        split at hx
        · exact same hx
        · exact same hx
        · cases hx
      · cases hx
    · cases hx
  | slice t y lo hi mx =>
    cases mx with
    | some m => cases hx
    | none =>
      simp only [evalOp] at hx ⊢
      split at hx
      · rename_i e hk
        cases hr : rowsOf h (ev T y) with
        | none => rw [hr] at hx; cases hx
        | some xs =>
          rw [hr] at hx
          simp only [rowsOf_fill _ hr, Option.bind_some] at hx ⊢
          cases hl : intOr T 0 lo with
          | none => rw [hl] at hx; cases hx
          | some l =>
            rw [hl] at hx
            simp only [Option.bind_some] at hx ⊢
            cases hm : intOr T xs.length hi with
            | none => rw [hm] at hx; cases hx
            | some m =>
              rw [hm] at hx
              simp only [Option.bind_some] at hx ⊢
              split at hx
              · rename_i hc
                rw [if_pos ⟨hc.1, hc.2.1, hc.2.2.1, hc.2.2.2.1, hc.2.2.2.2.imp id fun k => ⟨k.1, eOf_fill _ k.2⟩⟩]
                exact same hx
              · cases hx
      · cases hx
  | insert t m k v =>
    simp only [evalOp] at hx ⊢
    split at hx
    · split at hx
      · rename_i kk' es hkk ho
        simp only [fill_live ho rfl]
        split at hx
        · rename_i heq
          simp only [hkk, if_pos heq]
          cases hi : insA _ _ (ev T v) es with
          | none => rw [hi] at hx; cases hx
          | some es' =>
            rw [hi] at hx
            injection hx with hx; injection hx with h1 h2; subst h1 h2
            exact ⟨by rw [fill_set rfl]; rfl, resK_set ho rfl⟩
        · cases hx
      · cases hx
    · cases hx
  | lookup t m k ok =>
    simp only [evalOp] at hx ⊢
    split at hx
    · split at hx
      · rename_i kk' es z hkk ho hz
        simp only [fill_live ho rfl, hz]
        split at hx
        · rename_i heq
          simp only [hkk, if_pos heq]
          cases hl : lookA _ _ z es with
          | none => rw [hl] at hx; cases hx
          | some p =>
            rw [hl] at hx
            exact same hx
        · cases hx
      · cases hx
    · cases hx
  | build t ps =>
    have h0 : ∀ h, evalOp P T h (.build t ps) = (evalOp P T [] (.build t ps)).map fun q => (q.1, h) := fun h => by
      simp only [evalOp]
      split
      · split
        · cases (tyOf P t).zero with
          | none => rfl
          | some z => simp only [Option.bind_some]; cases fillA _ _ _ <;> rfl
        · rfl
      · rfl
    rw [h0] at hx ⊢
    obtain ⟨a, h1, h2, h3⟩ := map_pair hx
    subst h2 h3
    exact ⟨by rw [h1]; rfl, .refl⟩
  | fieldAddr t y i =>
    have h0 : ∀ h, evalOp P T h (.fieldAddr t y i) = (evalOp P T [] (.fieldAddr t y i)).map fun q => (q.1, h) := fun h => by
      simp only [evalOp]
      split
      · rename_i fs _
        cases fs[i]? with
        | none => rfl
        | some f =>
          simp only [Option.bind_some]
          split
          · split <;> rfl
          · rfl
      · rfl
    rw [h0] at hx ⊢
    obtain ⟨a, h1, h2, h3⟩ := map_pair hx
    subst h2 h3
    exact ⟨by rw [h1]; rfl, .refl⟩
  | field t y i =>
    have h0 : ∀ h, evalOp P T h (.field t y i) = (evalOp P T [] (.field t y i)).map fun q => (q.1, h) := fun h => by
      simp only [evalOp]
      split
      · rename_i fs _ _ _
        cases fs[i]? with
        | none => rfl
        | some f =>
          simp only [Option.bind_some]
          split
          · cases part _ _ _ _ <;> rfl
          · rfl
      · rfl
    rw [h0] at hx ⊢
    obtain ⟨a, h1, h2, h3⟩ := map_pair hx
    subst h2 h3
    exact ⟨by rw [h1]; rfl, .refl⟩
  | _ =>
    simp only [evalOp] at hx ⊢
    try cases hx
    all_goals (repeat' split at hx)
    all_goals first
      | cases hx; done
      | exact same hx
      | (obtain ⟨a, h1, h2, h3⟩ := map_pair hx; subst h2 h3; exact ⟨by simp only [h1]; rfl, .refl⟩)
      | (rename_i hc; rw [if_pos hc]; exact same hx)
      | (rename_i hc; rw [if_neg hc]; exact same hx)
      | (rename_i hc; rw [if_pos hc]; obtain ⟨a, h1, h2, h3⟩ := map_pair hx; subst h2 h3; exact ⟨by simp only [h1]; rfl, .refl⟩)
end
end Go.Proofs.YtpdghiplnlhnfaaGreat.Ax
