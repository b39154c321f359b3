/-
  Joined: Ax5, Ax6, Ax7, Ax8. Nothing is proved here of a statement.
-/
import Derived.Test.YtpdghiplnlhnfaaGreatMA
import Derived.Laws.CopyRow
import Derived.Great.BuildSlice
import Derived.Laws.OwnMore
namespace Go.Proofs.YtpdghiplnlhnfaaGreat.Ax
set_option linter.unusedSimpArgs false
set_option linter.unusedVariables false
open Go Go.RowKit

def bads : Nat → List AV
  | 0 => []
  | n + 1 => .bad :: bads n
/-- Cells in rows of e. -/
def chunk (e : Nat) : Nat → List AV → List (List AV)
  | 0, _ => []
  | n + 1, l => l.take e :: chunk e n (l.drop e)
def fillA (place : Nat → Option (Nat × Nat)) (as : List AV) : List (Nat × AV) → Option (List AV)
  | [] => some as
  | (i, a) :: r => match place i, a.cells with
    | some (off, size), some cs => if cs.length = size then (lay as off cs).bind fun as' => fillA place as' r else none
    | _, _ => none
def fplace (P : Program) (fs : List (Nat × TypeId)) (i : Nat) : Option (Nat × Nat) := fs[i]?.map fun f => (f.1, (tyOf P f.2).sz)
def splace (sz : Nat) (i : Nat) : Option (Nat × Nat) := some (i * sz, sz)
def evs (T : Nat → AV) : List (Nat × Operand) → List (Nat × AV)
  | [] => []
  | (i, x) :: r => (i, ev T x) :: evs T r
def evl (T : Nat → AV) : List Operand → List AV
  | [] => []
  | x :: r => ev T x :: evl T r
def eqCells : List AV → List AV → Option Bool
  | [], [] => some true
  | .v (.int k a) :: r, .v (.int k' b) :: s => if k = k' then (eqCells r s).map fun t => a == b && t else none
  | _, _ => none
/-- Fields of one whole number each, one behind the other. -/
def intFields (P : Program) : Nat → List (Nat × TypeId) → Bool
  | _, [] => true
  | o, f :: r => f.1 == o && (match (tyOf P f.2).kind with | .int _ => true | _ => false) && intFields P (o + 1) r
def plainEq (P : Program) (t : TypeId) : Bool := !P.eqGuardType P.depth t && !P.stoodInHeld t && (P.fieldsOf t).toList.all fun f => f.name != "_"
def isShift : BinOp → Bool
  | .shl | .shr => true
  | _ => false
def shiftA (op : BinOp) (k : IntKind) (a b : Int) : Option AV := match op with
  | .shr => some (.v (.int k (a.fdiv (2 ^ min b.toNat k.bits))))
  | .shl => some (.v (.int k (k.wrap (a * 2 ^ min b.toNat k.bits))))
  | _ => none
def arithA (op : BinOp) (k : IntKind) (a b : Int) : Option AV := match op with
  | .add => some (.v (.int k (k.wrap (a + b))))
  | .sub => some (.v (.int k (k.wrap (a - b))))
  | .mul => some (.v (.int k (k.wrap (a * b))))
  | .quo => if b = 0 then none else some (.v (.int k (k.wrap (a.tdiv b))))
  | .rem => if b = 0 then none else some (.v (.int k (a.tmod b)))
  | .eql => some (.v (.bool (a == b)))
  | .neq => some (.v (.bool (a != b)))
  | .lss => some (.v (.bool (decide (a < b))))
  | .leq => some (.v (.bool (decide (a ≤ b))))
  | .gtr => some (.v (.bool (decide (a > b))))
  | .geq => some (.v (.bool (decide (a ≥ b))))
  | _ => none
def binA (P : Program) (op : BinOp) (t : TypeId) : AV → AV → Option AV
  | .v (.int k a), .v (.int k' b) => if isShift op then (if 0 ≤ b then shiftA op k a b else none) else if k = k' then arithA op k a b else none
  | .v (.bool a), .v (.bool b) => match (tyOf P t).kind, op with
      | .bool, .eql => some (.v (.bool (a == b)))
      | .bool, .neq => some (.v (.bool (!(a == b))))
      | _, _ => none
  | .ag xs, .ag ys => match (tyOf P t).kind, op with
      | .struct fs, .eql => if plainEq P t && intFields P 0 fs && xs.length == fs.length then (eqCells xs ys).map fun b => .v (.bool b) else none
      | .struct fs, .neq => if plainEq P t && intFields P 0 fs && xs.length == fs.length then (eqCells xs ys).map fun b => .v (.bool (!b)) else none
      | _, _ => none
  | .v (.pointer none), .v (.pointer none) => match (tyOf P t).kind, op with
      | .ptr _, .eql => some (.v (.bool true))
      | .ptr _, .neq => some (.v (.bool false))
      | _, _ => none
  | .ptr _ _, .v (.pointer none) => match (tyOf P t).kind, op with
      | .ptr _, .eql => some (.v (.bool false))
      | .ptr _, .neq => some (.v (.bool true))
      | _, _ => none
  | _, _ => none
def maxA : AV → List AV → Option AV
  | a, [] => some a
  | .v (.int k x), .v (.int _ y) :: r => maxA (.v (.int k (if y > x then y else x))) r
  | _, _ => none
def minA : AV → List AV → Option AV
  | a, [] => some a
  | .v (.int k x), .v (.int _ y) :: r => minA (.v (.int k (if y < x then y else x))) r
  | _, _ => none
def loadA (h : List Ob) (τ : Ty) : AV → Option AV
  | .ptr id off => match h[id]? with
    | some (.box _ cs) => if τ.ok then part cs off τ.agg τ.sz else none
    | _ => none
  | .ep a e i k => if τ.ok ∧ eOf h a = some e then (rowsOf h a).bind fun xs => xs[i]?.bind fun r => part r k τ.agg τ.sz else none
  | _ => none
def storeA (h : List Ob) (ns : List AV) : AV → Option (List Ob)
  | .ptr id off => match h[id]? with
    | some (.box ty cs) => (lay cs off ns).map fun cs' => h.set id (.box ty cs')
    | _ => none
  | .ep (.tl id st) e i k => match h[id]? with
    | some (.row ty e' xs s) => if s = st ∧ e' = e then xs[i]?.bind fun r => (lay r k ns).map fun r' => h.set id (.row ty e (xs.set i r') st) else none
    | _ => none
  | _ => none
def idxA (h : List Ob) (n : Int) (a : AV) : Option AV :=
  (rowsOf h a).bind fun xs => (eOf h a).bind fun e => if 0 ≤ n ∧ n < xs.length then some (.ep a e n.toNat 0) else none
def appendA (P : Program) (h : List Ob) (e : TypeId) (s x : AV) : Option (AV × List Ob) :=
  let τ := tyOf P e
  (rowsOf h x).bind fun ys =>
    if τ.ok ∧ 0 < τ.sz ∧ (τ.zero.map List.length) = some τ.sz ∧ ys.all (fun r => r.length == τ.sz && r.all AV.one) then
      match s with
      | .tl id st => match h[id]? with
        | some (.row ty e' xs s) => if s = st ∧ ty = e ∧ e' = τ.sz ∧ (xs.length + ys.length) * (τ.bytes + 1) ≤ 140737488355328 then some (.tl id (st + 1), h.set id (.row ty e' (xs ++ ys) (st + 1))) else none
        | _ => none
      | .v (.slice none 0 0) => if ys.length * (τ.bytes + 1) ≤ 140737488355328 then some (.tl h.length 0, h ++ [.row e τ.sz ys 0]) else none
      | _ => none
    else none
def isEm : AV → Bool
  | .em => true
  | _ => false
def isNilV : AV → Bool
  | .v (.slice none _ _) => true
  | _ => false
def someRow : Option (List (List AV)) → Option Nat → Bool
  | some (_ :: _), some e => decide (0 < e)
  | _, _ => false
def nonNil (h : List Ob) (a : AV) : Bool := isEm a || someRow (rowsOf h a) (eOf h a)
def truthA (op : BinOp) (b : Bool) : Option AV := match op with
  | .eql => some (.v (.bool b))
  | .neq => some (.v (.bool (!b)))
  | _ => none
/-- A slice against nil. -/
def nilA (P : Program) (h : List Ob) (op : BinOp) (t : TypeId) (a : AV) : Option AV := match (tyOf P t).kind with
  | .slice _ => if isNilV a then truthA op true else if nonNil h a then truthA op false else none
  | _ => none
def isNilOp : Operand → Bool
  | .const (.slice none _ _) => true
  | _ => false
/-- A part of the call's own slice: which one, from where, how many. -/
def ownPart (h : List Ob) : AV → Option (Nat × Nat × Nat × Nat)
  | .tl id st => match h[id]? with
    | some (.row _ _ xs s) => if s = st then some (id, st, 0, xs.length) else none
    | _ => none
  | .vw (.tl id st) e i n => match h[id]? with
    | some (.row _ e' xs s) => if s = st ∧ e' = e ∧ i + n ≤ xs.length then some (id, st, i, n) else none
    | _ => none
  | _ => none
/-- Rows laid over those from i on. -/
def layRows (xs : List (List AV)) (i : Nat) (ys : List (List AV)) : List (List AV) := xs.take i ++ ys ++ xs.drop (i + ys.length)
def putRows (h : List Ob) (id i : Nat) (ty e : Nat) (ys : List (List AV)) : Option (List Ob) := match h[id]? with
  | some (.row ty' e' xs st) => if ty' = ty ∧ e' = e ∧ ys.all (fun r => r.length == e && r.all AV.one) then some (h.set id (.row ty' e' (layRows xs i ys) st)) else none
  | _ => none
def callA (P : Program) (T : Nat → AV) (h : List Ob) (c : Call) : Option (AV × List Ob) :=
  match c.callee, c.args.toList, c.argTypes.toList with
  | .builtin .len, [x], [t] => match (tyOf P t).kind with
    | .slice _ => (rowsOf h (ev T x)).map fun xs => (.v (.int .i64 xs.length), h)
    | _ => none
  | .builtin .append, [s, x], [t, t'] => match (tyOf P t).kind with
    | .slice e => if t' = t then appendA P h e (ev T s) (ev T x) else none
    | _ => none
  | .builtin .clear, [x], [t] => match (tyOf P t).kind with
    | .slice e => (ownPart h (ev T x)).bind fun (id, _, i, n) => (tyOf P e).zero.bind fun z =>
        if (tyOf P e).ok ∧ z.length = (tyOf P e).sz then (putRows h id i e (tyOf P e).sz (List.replicate n (z.map .v))).map fun h' => (.tup [], h') else none
    | _ => none
  | .builtin .copy, [d, x], [t, t'] => match (tyOf P t).kind with
    | .slice e => if t' = t ∧ (tyOf P e).ok ∧ 0 < (tyOf P e).sz then (ownPart h (ev T d)).bind fun (id, _, i, n) => (rowsOf h (ev T x)).bind fun ys =>
        (putRows h id i e (tyOf P e).sz (ys.take n)).map fun h' => (.v (.int .i64 ((ys.take n).length : Nat)), h') else none
    | _ => none
  | .builtin .max, x :: r, _ => (maxA (ev T x) (evl T r)).map (·, h)
  | .builtin .min, x :: r, _ => (minA (ev T x) (evl T r)).map (·, h)
  | _, _, _ => none
def zeroA (τ : Ty) : Option AV := if τ.one then τ.zero.bind fun z => z.head?.map .v else none
/-- What makes a block of its own, and nothing else: the object, and the value that stands for it. -/
def allocA (P : Program) (T : Nat → AV) : Op → Option (Ob × (Nat → AV))
  | .alloc t => if (tyOf P t).ok then (tyOf P t).zero.map fun z => (.box t (z.map .v), fun i => .ptr i 0) else none
  | .box t x => (ev T x).cells.map fun cs => (.box t cs, fun i => .ptr i 0)
  | .buildSlice t n ps => match (tyOf P t).kind with
    | .slice e => if (tyOf P e).ok ∧ 0 < (tyOf P e).sz ∧ n * (tyOf P e).sz ≤ 16777216 ∧ (tyOf P e).zero.isSome then
        (fillA (splace (tyOf P e).sz) (bads (n * (tyOf P e).sz)) (evs T ps.toList)).map fun cs => (.row e (tyOf P e).sz (chunk (tyOf P e).sz n cs) 0, fun i => .tl i 0) else none
    | _ => none
  | .makeSlice t l c => match (tyOf P t).kind, ev T l, ev T c with
    | .slice e, .v (.int _ n), .v (.int _ m) => if n = m ∧ 0 ≤ n ∧ n * ((tyOf P e).bytes + 1) ≤ 140737488355328 ∧ (tyOf P e).ok ∧ 0 < (tyOf P e).sz ∧ ((tyOf P e).zero.map List.length) = some (tyOf P e).sz then
        (tyOf P e).zero.map fun z => (.row e (tyOf P e).sz (List.replicate n.toNat (z.map .v)) 0, fun i => .tl i 0) else none
    | _, _, _ => none
  | .makeMap t none => match (tyOf P t).kind with
    | .mapk _ _ => some (.mapo [], fun i => .mp i)
    | _ => none
  | _ => none
/-- Maps with whole numbers as keys: what is in order of the keys stays so. -/
def keyI : AV × AV → Int
  | (.v (.int _ m), _) => m
  | _ => 0
def keysOk (kk : IntKind) : List (AV × AV) → Bool
  | [] => true
  | (.v (.int k _), _) :: r => k == kk && keysOk kk r
  | _ => false
def ordIns (kk : IntKind) (n : Int) (v : AV) : List (AV × AV) → List (AV × AV)
  | [] => [(.v (.int kk n), v)]
  | p :: r => if n < keyI p then (.v (.int kk n), v) :: p :: r else p :: ordIns kk n v r
def hasKey (n : Int) : List (AV × AV) → Bool
  | [] => false
  | p :: r => keyI p == n || hasKey n r
def repKey (kk : IntKind) (n : Int) (v : AV) : List (AV × AV) → List (AV × AV)
  | [] => []
  | p :: r => (if keyI p = n then (.v (.int kk n), v) else p) :: repKey kk n v r
def insA (kk : IntKind) (n : Int) (v : AV) (es : List (AV × AV)) : Option (List (AV × AV)) :=
  if keysOk kk es then some (if hasKey n es then repKey kk n v es else ordIns kk n v es) else none
def lookR (n : Int) (z : AV) : List (AV × AV) → AV × Bool
  | [] => (z, false)
  | p :: r => (if keyI p = n then p.2 else (lookR n z r).1, keyI p == n || (lookR n z r).2)
def lookA (kk : IntKind) (n : Int) (z : AV) (es : List (AV × AV)) : Option (AV × Bool) := if keysOk kk es then some (lookR n z es) else none
def intOr (T : Nat → AV) (d : Int) : Option Operand → Option Int
  | none => some d
  | some x => match ev T x with
    | .v (.int _ n) => some n
    | _ => none
def evalOp (P : Program) (T : Nat → AV) (h : List Ob) : Op → Option (AV × List Ob)
  | .move x => some (ev T x, h)
  | .assign x => some (ev T x, h)
  | .pick c a b => match ev T c with
    | .v (.bool t) => some (if t then ev T a else ev T b, h)
    | _ => none
  | .alloc t => (allocA P T (.alloc t)).map fun q => (q.2 h.length, h ++ [q.1])
  | .box t x => (allocA P T (.box t x)).map fun q => (q.2 h.length, h ++ [q.1])
  | .buildSlice t n ps => (allocA P T (.buildSlice t n ps)).map fun q => (q.2 h.length, h ++ [q.1])
  | .makeSlice t l c => (allocA P T (.makeSlice t l c)).map fun q => (q.2 h.length, h ++ [q.1])
  | .makeMap t r => (allocA P T (.makeMap t r)).map fun q => (q.2 h.length, h ++ [q.1])
  | .build t ps => match (tyOf P t).kind with
    | .struct fs => if fs.all (fun f => (tyOf P f.2).ok) then (tyOf P t).zero.bind fun z => (fillA (fplace P fs) (z.map .v) (evs T ps.toList)).map fun cs => (.ag cs, h) else none
    | _ => none
  | .load t a => (loadA h (tyOf P t) (ev T a)).map (·, h)
  | .store t a x => if (tyOf P t).ok then (ev T x).cells.bind fun ns => if ns.length = (tyOf P t).sz then (storeA h ns (ev T a)).map fun h' => (.v undef, h') else none else none
  | .nilCheck x => match ev T x with
    | .ptr id off => some (.ptr id off, h)
    | .ep a e i k => some (.ep a e i k, h)
    | .fn (.func f) a b => some (.fn (.func f) a b, h)
    | _ => none
  | .binOp op t x y _ => (if isNilOp y then nilA P h op t (ev T x) else binA P op t (ev T x) (ev T y)).map (·, h)
  | .unOp op _ x => match op, ev T x with
    | .neg, .v (.int k n) => some (.v (.int k (k.wrap (0 - n))), h)
    | .not, .v (.bool b) => some (.v (.bool (!b)), h)
    | _, _ => none
  | .convert s d x => match (tyOf P s).ok, (tyOf P d).kind, ev T x with
    | true, .int k, .v (.int _ n) => some (.v (.int k (k.wrap n)), h)
    | _, _, _ => none
  | .makeFunc f a b => some (.fn f (evl T a.toList) (evl T b.toList), h)
  | .fieldAddr t x i => match (tyOf P t).kind with
    | .struct fs => fs[i]?.bind fun f => if (tyOf P f.2).ok ∧ 0 < (tyOf P f.2).sz then (match ev T x with
        | .ptr id off => some (.ptr id (off + f.1), h)
        | .ep a e i k => some (.ep a e i (k + f.1), h)
        | _ => none) else none
    | _ => none
  | .field t x i => match (tyOf P t).kind, ev T x with
    | .struct fs, .ag cs => fs[i]?.bind fun f => if (tyOf P f.2).ok then (part cs f.1 (tyOf P f.2).agg (tyOf P f.2).sz).map (·, h) else none
    | _, _ => none
  | .indexAddr t x i => match (tyOf P t).kind, ev T i with
    | .slice e, .v (.int _ n) => if (tyOf P e).ok ∧ 0 < (tyOf P e).sz ∧ eOf h (ev T x) = some (tyOf P e).sz then (idxA h n (ev T x)).map (·, h) else none
    | .arr m e, .v (.int _ n) => if (tyOf P e).ok ∧ 0 ≤ n ∧ n < m then (match ev T x with
        | .ptr id off => some (.ptr id (off + n.toNat * (tyOf P e).sz), h)
        | .ep a e' i k => some (.ep a e' i (k + n.toNat * (tyOf P e).sz), h)
        | _ => none) else none
    | _, _ => none
  | .index t x i => match (tyOf P t).kind, ev T x, ev T i with
    | .arr m e, .ag cs, .v (.int _ n) => if (tyOf P e).ok ∧ 0 ≤ n ∧ n < m then (part cs (n.toNat * (tyOf P e).sz) (tyOf P e).agg (tyOf P e).sz).map (·, h) else none
    | _, _, _ => none
  | .slice t x lo hi none => match (tyOf P t).kind with
    | .slice e => (rowsOf h (ev T x)).bind fun xs => (intOr T 0 lo).bind fun l => (intOr T xs.length hi).bind fun m =>
        if (tyOf P e).ok ∧ 0 ≤ l ∧ l ≤ m ∧ m ≤ xs.length ∧ (l = m ∨ (0 < (tyOf P e).sz ∧ eOf h (ev T x) = some (tyOf P e).sz)) then some (.vw (ev T x) (tyOf P e).sz l.toNat (m.toNat - l.toNat), h) else none
    | _ => none
  | .insert t m k v => match (tyOf P t).kind, ev T m, ev T k with
    | .mapk kt _, .mp id, .v (.int kk n) => match (tyOf P kt).kind, h[id]? with
      | .int kk', some (.mapo es) => if kk' = kk then (insA kk n (ev T v) es).map fun es' => (.v undef, h.set id (.mapo es')) else none
      | _, _ => none
    | _, _, _ => none
  | .lookup t m k ok => match (tyOf P t).kind, ev T m, ev T k with
    | .mapk kt et, .mp id, .v (.int kk n) => match (tyOf P kt).kind, h[id]?, zeroA (tyOf P et) with
      | .int kk', some (.mapo es), some z => if kk' = kk then (lookA kk n z es).map fun p => (if ok then .tup [p.1, .v (.bool p.2)] else p.1, h) else none
      | _, _, _ => none
    | _, _, _ => none
  | .extract x i => match ev T x with
    | .tup cs => if i < cs.length then some (nth cs i, h) else none
    | _ => none
  | .call c => callA P T h c
  | _ => none

section
variable {c : Ctx}
theorem ars_bads : ∀ (vs : List Value), ARs c (bads vs.length) vs
  | [] => rfl
  | v :: r => ⟨v, r, rfl, trivial, ars_bads r⟩
theorem fold_set (off : Nat) : ∀ (us : List Value) (k : Nat) (cells : Array Value), off + k + us.length ≤ cells.size →
    ((us.zipIdx k).foldl (fun cs (p : Value × Nat) => cs.setIfInBounds (off + p.2) p.1) cells).toList = cells.toList.take (off + k) ++ us ++ cells.toList.drop (off + k + us.length)
  | [], k, cells, _ => by simp
  | u :: us, k, cells, h => by
    have h : off + k + (us.length + 1) ≤ cells.size := by simpa using h
    rw [List.zipIdx_cons, List.foldl_cons, fold_set off us (k + 1) _ (by simp; omega)]
    apply List.ext_getElem?
    intro j
    simp only [Array.toList_setIfInBounds, List.getElem?_append, List.length_take, List.length_set, Array.length_toList, List.length_append, List.length_cons]
    by_cases h1 : j < off + k
    · simp [h1, show j < off + (k + 1) by omega, show min (off + (k + 1)) cells.size = off + (k + 1) by omega, show min (off + k) cells.size = off + k by omega, show j < off + (k + 1) + us.length by omega, show j < off + k + (us.length + 1) by omega, show off + k ≠ j by omega]
    · by_cases h2 : j = off + k
      · subst h2
        simp [show min (off + (k + 1)) cells.size = off + (k + 1) by omega, show min (off + k) cells.size = off + k by omega, show off + k < off + (k + 1) by omega, show off + k < off + (k + 1) + us.length by omega, show off + k < cells.size by omega]
      · by_cases h3 : j < off + k + (us.length + 1)
        · simp [h1, h3, show ¬ j < off + (k + 1) by omega, show min (off + (k + 1)) cells.size = off + (k + 1) by omega, show min (off + k) cells.size = off + k by omega, show j < off + (k + 1) + us.length by omega, show j - (off + k) = (j - (off + (k + 1))) + 1 by omega]
        · simp [h1, h3, show ¬ j < off + (k + 1) + us.length by omega, show min (off + (k + 1)) cells.size = off + (k + 1) by omega, show min (off + k) cells.size = off + k by omega]
          rw [List.getElem?_set_ne (by omega)]
          rw [show off + (k + 1) + us.length + (j - (off + (k + 1) + us.length)) = j by omega, show off + k + (us.length + 1) + (j - (off + k + (us.length + 1))) = j by omega]
          simp
def PRel (c : Ctx) : List (Nat × AV) → List (Nat × Value) → Prop
  | [], ps => ps = []
  | (i, a) :: r, ps => ∃ v q, ps = (i, v) :: q ∧ AR c a v ∧ PRel c r q
theorem fill_rel (place : Nat → Option (Nat × Nat)) : ∀ (ps : List (Nat × AV)) (qs : List (Nat × Value)) (as rs : List AV) (cells : Array Value), PRel c ps qs → ARs c as cells.toList → fillA place as ps = some rs →
    ∃ cells', Instr.fill place cells qs = some cells' ∧ ARs c rs cells'.toList
  | [], qs, as, rs, cells, hp, ha, h => by
    have hp : qs = [] := hp
    subst hp
    injection h with h
    subst h
    exact ⟨cells, rfl, ha⟩
  | (i, a) :: r, qs, as, rs, cells, ⟨v, q, hq, hv, hr⟩, ha, h => by
    subst hq
    simp only [fillA] at h
    split at h
    · rename_i off size cs hpl hcs
      split at h
      · rename_i hlen
        cases hl : lay as off cs with
        | none => rw [hl] at h; cases h
        | some as' =>
          rw [hl] at h
          obtain ⟨e1, e2⟩ := cells_of hcs hv
          have hcl : v.cells.size = size := by
            have := ars_len e1
            simp at this
            omega
          obtain ⟨e3, e4⟩ := ars_lay ha off e1 hl
          have hb : off + v.cells.size ≤ cells.size := by simpa using e4
          have hf := fold_set off v.cells.toList 0 cells (by simpa using hb)
          have hf' : (v.cells.zipIdx.foldl (fun cs (x : Value × Nat) => cs.setIfInBounds (off + x.2) x.1) cells).toList = cells.toList.take off ++ v.cells.toList ++ cells.toList.drop (off + v.cells.toList.length) := by
            rw [← Array.foldl_toList, Array.toList_zipIdx]
            simpa using hf
          obtain ⟨cells', h1, h2⟩ := fill_rel place r q as' rs (v.cells.zipIdx.foldl (fun cs (x : Value × Nat) => cs.setIfInBounds (off + x.2) x.1) cells) hr (by rw [hf']; exact e3) h
          refine ⟨cells', ?_, h2⟩
          simp only [Instr.fill, hpl, hcl]
          rw [if_neg (by simp; omega)]
          exact h1
      · cases h
    · cases h
theorem chunk_flatten (e : Nat) : ∀ (n : Nat) (l : List AV), l.length = n * e → (chunk e n l).flatten = l ∧ (∀ x ∈ chunk e n l, x.length = e) ∧ (chunk e n l).length = n
  | 0, l, h => by
    have : l = [] := List.eq_nil_of_length_eq_zero (by simpa using h)
    subst this
    simp [chunk]
  | n + 1, l, h => by
    rw [Nat.succ_mul] at h
    obtain ⟨h1, h2, h3⟩ := chunk_flatten e n (l.drop e) (by simp; omega)
    refine ⟨by simp [chunk, h1], fun x hx => ?_, by simp [chunk, h3]⟩
    simp only [chunk, List.mem_cons] at hx
    rcases hx with rfl | hx
    · simp; omega
    · exact h2 x hx
end
end Go.Proofs.YtpdghiplnlhnfaaGreat.Ax

namespace Go.Proofs.YtpdghiplnlhnfaaGreat.Ax
set_option linter.unusedSimpArgs false
set_option linter.unusedVariables false
open Go Go.RowKit
section
variable {B : Nat} {w : World} {g : Gh} {h h' : List Ob} {P : Program} {T : Nat → AV} {a : Act} {x : AV}

def Did (P : Program) (s : Sem Next) (B : Nat) (w : World) (g : Gh) (h : List Ob) (x : AV) (h' : List Ob) : Prop :=
  ∃ nx v w' g', s.run P w = .ok nx w' ∧ (nx = .value v ∨ (nx = .skip ∧ v = undef)) ∧ Good B w g h w' g' h' ∧ AR (ctx w' g' h') x v
def DidV (P : Program) (s : Sem Value) (B : Nat) (w : World) (g : Gh) (h : List Ob) (x : AV) (h' : List Ob) : Prop :=
  ∃ v w' g', s.run P w = .ok v w' ∧ Good B w g h w' g' h' ∧ AR (ctx w' g' h') x v
theorem DidV.did {s : Sem Value} (d : DidV P s B w g h x h') : Did P (do pure (.value (← s))) B w g h x h' := by
  obtain ⟨v, w', g', h1, h2, h3⟩ := d
  exact ⟨.value v, v, w', g', by simp [h1], .inl rfl, h2, h3⟩
theorem didV_same {s : Sem Value} {v : Value} (hh : HOk B w g h) (hB : B ≤ w.heap.size) (hs : s.run P w = .ok v w) (hx : AR (ctx w g h) x v) : DidV P s B w g h x h :=
  ⟨v, w, g, hs, Good.refl hh hB, hx⟩

def TRel (c : Ctx) (T : Nat → AV) (a : Act) : Prop := ∀ i, AR c (T i) (a.tmps.getD i undef)
theorem ev_ar {c : Ctx} (hT : TRel c T a) : ∀ (x : Operand), AR c (ev T x) (a.eval x)
  | .tmp i => hT i
  | .const x => ofV_ar x
  | .func f => ⟨#[], #[], rfl, rfl, rfl⟩
  | .global _ => trivial
theorem ev_v {c : Ctx} (hT : TRel c T a) {x : Operand} {u : Value} (e : ev T x = .v u) : a.eval x = u := by
  have := ev_ar hT x; rw [e] at this; exact this
theorem evl_ar {c : Ctx} (hT : TRel c T a) : ∀ (l : List Operand), ARs c (evl T l) (l.map a.eval)
  | [] => rfl
  | x :: r => ⟨_, _, rfl, ev_ar hT x, evl_ar hT r⟩
theorem evs_rel {c : Ctx} (hT : TRel c T a) : ∀ (l : List (Nat × Operand)), PRel c (evs T l) (l.map fun (i, x) => (i, a.eval x))
  | [] => rfl
  | (i, x) :: r => ⟨_, _, rfl, ev_ar hT x, evs_rel hT r⟩

theorem ok_zero {t : TypeId} {z : List Value} (h : (tyOf P t).zero = some z) : (tyOf P t).ok = true := by
  unfold tyOf at h ⊢
  split at h
  · rfl
  · cases h
theorem ok_kind {t : TypeId} {k : K} (h : (tyOf P t).kind = k) (hk : k ≠ .other) : (tyOf P t).ok = true := by
  unfold tyOf at h ⊢
  split at h
  · rfl
  · exact absurd h.symm hk
theorem run_zero {t : TypeId} {i : TypeInfo} {z : Value} (hi : P.info? t = some i) (hz : i.zero = some z) : (zeroValue t).run P w = .ok z w := by simp [zeroValue, typeInfo, hi, hz]

/-- A block of the call's own is made. -/
inductive Made (B : Nat) (w : World) (g : Gh) (h : List Ob) (w' : World) (v : Value) : Ob → (Nat → AV) → Prop where
  | box (ty : TypeId) (cs : List AV) (vs : Array Value) (hw : w' = w.alloc (.cells vs ty)) (hv : v = .pointer (some ⟨w.heap.size, 0, none⟩)) (hn : ARs (ctx w g h) cs vs.toList) : Made B w g h w' v (.box ty cs) fun i => .ptr i 0
  | row (ty e : Nat) (xs : List (List AV)) (cells : List Value) (he : 0 < e) (hx : ∀ x ∈ xs, x.length = e) (hb : Below w.heap.size w w') (hown : w'.ownsRow B ty e v xs.length cells) (hn : ARs (ctx w g h) xs.flatten cells)
      (hbl : ∀ b, v.ownBlock = some b → w.heap.size ≤ b) : Made B w g h w' v (.row ty e xs 0) fun i => .tl i 0
  | map (hw : w' = w.alloc (.map #[] 0)) (hv : v = .map (some w.heap.size)) : Made B w g h w' v (.mapo []) fun i => .mp i
theorem Made.more {w' : World} {v : Value} {o : Ob} {mk : Nat → AV} (m : Made B w g h w' v o mk) (hh : HOk B w g h) (hB : B ≤ w.heap.size) : ∃ g', Good B w g h w' g' (h ++ [o]) ∧ AR (ctx w' g' (h ++ [o])) (mk h.length) v := by
  cases m with
  | box ty cs vs hw hv hn => subst hw hv; exact ⟨_, more_box hh hB hn⟩
  | row ty e xs cells he hx hb hown hn hbl => exact ⟨_, more_row hh hB he hx 0 hb hown hn hbl⟩
  | map hw hv => subst hw hv; exact ⟨_, more_map hh hB⟩
theorem Made.at {w' : World} {v : Value} {o : Ob} {mk : Nat → AV} (m : Made B w g h w' v o mk) (hh : HOk B w g h) (hB : B ≤ w.heap.size) {i : Nat} (hi : h[i]? = some .res) : ∃ g', Good B w g h w' g' (h.set i o) ∧ AR (ctx w' g' (h.set i o)) (mk i) v := by
  cases m with
  | box ty cs vs hw hv hn => subst hw hv; exact ⟨_, box_at hh hB hi hn⟩
  | row ty e xs cells he hx hb hown hn hbl => exact ⟨_, row_at hh hB hi he hx 0 hb hown hn hbl⟩
  | map hw hv => subst hw hv; exact ⟨_, map_at hh hB hi⟩
theorem Made.live {w' : World} {v : Value} {o : Ob} {mk : Nat → AV} (m : Made B w g h w' v o mk) : o.isRes = false := by cases m <;> rfl
theorem run_alloc (hh : HOk B w g h) {t : TypeId} {z : List Value} (ht : (tyOf P t).ok = true) (hz : (tyOf P t).zero = some z) :
    ∃ v w', (Instr.alloc t true (.tuple #[])).run P w = .ok v w' ∧ Made B w g h w' v (.box t (z.map .v)) (fun i => .ptr i 0) := by
  obtain ⟨d, i, hu, hi, e⟩ := ty_ok ht
  rw [e] at hz
  cases hzz : i.zero with
  | none => rw [hzz] at hz; cases hz
  | some zv =>
    rw [hzz] at hz
    injection hz with hz
    subst hz
    exact ⟨_, _, by simp [Instr.alloc, run_zero hi hzz, newVar, newRow], .box t _ zv.cells rfl rfl (ars_v _)⟩
theorem run_box (hh : HOk B w g h) {t : TypeId} {y : AV} {v : Value} {cs : List AV} (hy : AR (ctx w g h) y v) (hc : y.cells = some cs) :
    ∃ u w', (Instr.box t v).run P w = .ok u w' ∧ Made B w g h w' u (.box t cs) (fun i => .ptr i 0) :=
  ⟨_, _, by simp [Instr.box, newVar, newRow], .box t _ v.cells rfl rfl (cells_of hc hy).1⟩
theorem places_eq : ∀ (fs : List Field), (fs.all fun f => (tyOf P f.type).ok) = true → fs.mapM (fun f => (P.info? f.type).map fun i => (f.offset, i.size)) = some (fs.map fun f => (f.offset, (tyOf P f.type).sz))
  | [], _ => rfl
  | f :: fs, h => by
    rw [List.all_cons, Bool.and_eq_true] at h
    obtain ⟨d, i, hu, hi, e⟩ := ty_ok h.1
    simp [List.mapM_cons, hi, places_eq fs h.2, e]
theorem did_build (hh : HOk B w g h) (hB : B ≤ w.heap.size) (hT : TRel (ctx w g h) T a) {t : TypeId} {ps : Array (Nat × Operand)} {fs : List (Nat × TypeId)} {z : List Value} {cs : List AV}
    (hk : (tyOf P t).kind = .struct fs) (hf : fs.all (fun f => (tyOf P f.2).ok) = true) (hz : (tyOf P t).zero = some z) (hc : fillA (fplace P fs) (z.map .v) (evs T ps.toList) = some cs) :
    DidV P (Instr.build t (ps.map fun (i, x) => (i, a.eval x))) B w g h (.ag cs) h := by
  have ht := ok_zero hz
  obtain ⟨d, i, hu, hi, e⟩ := ty_ok ht
  rw [e] at hz hk
  cases d <;> try (cases hk; done)
  rename_i fields
  injection hk with hk
  cases hzz : i.zero with
  | none => rw [hzz] at hz; cases hz
  | some zv =>
    rw [hzz] at hz
    injection hz with hz
    subst hz
    have hall : (fields.toList.all fun f => (tyOf P f.type).ok) = true := by rw [← hk, List.all_map] at hf; exact hf
    have hpl := places_eq (P := P) fields.toList hall
    obtain ⟨cells', h1, h2⟩ := fill_rel (c := ctx w g h) (fplace P fs) (evs T ps.toList) (ps.toList.map fun (i, x) => (i, a.eval x)) _ cs zv.cells (evs_rel hT _) (ars_v _) hc
    refine didV_same hh hB (v := .agg cells') (run_build w t _ cells' ?_) ⟨cells', rfl, h2⟩
    unfold Program.built
    simp only [hi, hu, hzz, hpl]
    have : (fun x => (fields.toList.map fun f => (f.offset, (tyOf P f.type).sz)).toArray[x]?) = fplace P fs := by
      funext j
      rw [← hk]
      simp [fplace, Option.map_map, Function.comp_def]
    rw [this]
    simpa using h1
theorem run_bSlice (hh : HOk B w g h) (hB : B ≤ w.heap.size) (hT : TRel (ctx w g h) T a) {t e : TypeId} {n : Nat} {ps : Array (Nat × Operand)} {cs : List AV}
    (hk : (tyOf P t).kind = .slice e) (ho : (tyOf P e).ok = true) (h0 : 0 < (tyOf P e).sz) (hn : n * (tyOf P e).sz ≤ 16777216) (hzs : (tyOf P e).zero.isSome = true)
    (hc : fillA (splace (tyOf P e).sz) (bads (n * (tyOf P e).sz)) (evs T ps.toList) = some cs) :
    ∃ v w', (Instr.buildSlice t n (ps.map fun (i, x) => (i, a.eval x))).run P w = .ok v w' ∧ Made B w g h w' v (.row e (tyOf P e).sz (chunk (tyOf P e).sz n cs) 0) (fun i => .tl i 0) := by
  have ht := ok_kind hk (by simp)
  obtain ⟨d, i, hu, hi, eq⟩ := ty_ok ht
  rw [eq] at hk
  cases d <;> try (cases hk; done)
  injection hk with hk
  subst hk
  rename_i e
  obtain ⟨d', ie, hu', hie, eq'⟩ := ty_ok ho
  have hszz : (tyOf P e).sz = ie.size := by rw [eq']
  rw [hszz] at h0 hn hc ⊢
  cases hzz : ie.zero with
  | none => rw [eq'] at hzs; simp [hzz] at hzs
  | some z =>
    obtain ⟨cells', h1, h2⟩ := fill_rel (c := ctx w g h) (splace ie.size) (evs T ps.toList) (ps.toList.map fun (i, x) => (i, a.eval x)) _ cs ((Array.range (n * ie.size)).map (z.cells[· % z.cells.size]!)) (evs_rel hT _)
      (by have := ars_bads (c := ctx w g h) ((Array.range (n * ie.size)).map (z.cells[· % z.cells.size]!)).toList; simpa using this) hc
    have hcl : cs.length = n * ie.size := by
      have key : ∀ (l : List (Nat × AV)) (as rs : List AV), fillA (splace ie.size) as l = some rs → rs.length = as.length := by
        intro l
        induction l with
        | nil => intro as rs h; injection h with h; rw [h]
        | cons p l ih =>
          intro as rs h
          obtain ⟨j, y⟩ := p
          simp only [fillA] at h
          split at h
          · split at h
            · rename_i off size us hp hy hl
              cases hlay : lay as off us with
              | none => rw [hlay] at h; cases h
              | some as' => rw [hlay] at h; rw [ih _ _ h, lay_len hlay]
            · cases h
          · cases h
      have hb : ∀ m, (bads m).length = m := fun m => by induction m with | zero => rfl | succ m ih => simp [bads, ih]
      rw [key _ _ _ hc, hb]
    obtain ⟨c1, c2, c3⟩ := chunk_flatten ie.size n cs hcl
    have hcz : cells'.size = n * ie.size := by have := ars_len h2; simp at this; omega
    have hrun : (Instr.buildSlice t n (ps.map fun (i, x) => (i, a.eval x))).run P w = .ok (.slice (some ⟨w.heap.size, 0, none⟩) n n) (w.alloc (.cells cells' e)) := by
      by_cases hz0 : n * ie.size = 0
      · have hn0 : n = 0 := by
          rcases Nat.mul_eq_zero.1 hz0 with h | h
          · exact h
          · omega
        subst hn0
        have e0 : ((Array.range 0).map (z.cells[· % z.cells.size]!)) = #[] := by simp
        have hf : Instr.fill (fun i => some (i * ie.size, ie.size)) #[] (ps.map fun (i, x) => (i, a.eval x)).toList = some cells' := by
          have := h1
          rw [Nat.zero_mul, e0] at this
          rw [Array.toList_map]
          exact this
        generalize (ps.map fun (i, x) => (i, a.eval x)) = qs at hf
        have e1 : ∀ f : Nat → Value, (Array.range 0).map f = #[] := fun f => by simp [Array.range]
        simp [Instr.buildSlice, run_underlying hu, sizeOf, typeInfo, hie, e1, hf, newRow]
      · exact run_buildSlice w t e n _ cells' ie z hu hie hzz (by omega) hz0 (by rw [Array.toList_map]; exact h1)
    have hm : n ≤ maxLen := by
      have : n ≤ n * ie.size := Nat.le_mul_of_pos_right n h0
      simp only [maxLen]
      omega
    have htk : cells'.toList.take (n * ie.size) = cells'.toList := List.take_of_length_le (by simp [hcz])
    have hown : (w.alloc (.cells cells' e)).ownsRow B e ie.size (.slice (some ⟨w.heap.size, 0, none⟩) n n) (chunk ie.size n cs).length cells'.toList := by
      rw [c3]
      exact ⟨by simpa using hcz, .inr ⟨w.heap.size, n, cells', rfl, hB, heap_alloc_new w _, Nat.le_refl _, hm, hcz, htk⟩⟩
    exact ⟨_, _, hrun, .row e ie.size _ _ h0 c2 ((Below.refl _ w).alloc (Nat.le_refl _) _) hown (by rw [c1]; exact h2) (fun b hb => by simp [Value.ownBlock] at hb; omega)⟩
theorem madeCells_rep (z : Array Value) (n : Nat) : (madeCells z (n * z.size)).toList = (List.replicate n z.toList).flatten := by
  by_cases hz : z.size = 0
  · have hz' : z = #[] := Array.eq_empty_of_size_eq_zero hz
    subst hz'
    have : (List.replicate n ([] : List Value)).flatten = [] := by rw [List.flatten_eq_nil_iff]; intro l hl; exact List.eq_of_mem_replicate hl
    simp [madeCells, this, Array.range_zero']
  · have hw : ∀ x ∈ List.replicate n z.toList, x.length = z.size := fun x hx => by rw [List.eq_of_mem_replicate hx]; simp
    have hl : (List.replicate n z.toList).flatten.length = n * z.size := by
      have : ∀ m, (List.replicate m z.toList).flatten.length = m * z.size := fun m => by
        induction m with
        | zero => simp
        | succ m ih => rw [List.replicate_succ, List.flatten_cons, List.length_append, ih, Nat.succ_mul]; simp; omega
      exact this n
    apply List.ext_getElem?
    intro j
    by_cases hj : j < n * z.size
    · have hm : j % z.size < z.size := Nat.mod_lt _ (by omega)
      have hd : j / z.size < n := by rw [Nat.div_lt_iff_lt_mul (by omega)]; exact hj
      have h1 : (List.replicate n z.toList)[j / z.size]? = some z.toList := by rw [List.getElem?_replicate, if_pos hd]
      have h2 : z.toList[j % z.size]? = some z[j % z.size] := by simp [hm]
      have key : ∀ {xs : List (List Value)}, (∀ x ∈ xs, x.length = z.size) → ∀ {i k : Nat} {r : List Value} {a : Value}, xs[i]? = some r → r[k]? = some a → xs.flatten[i * z.size + k]? = some a := fun hx _ _ _ _ hi hk => flatten_get hx hi hk
      have h3 := key hw h1 h2
      rw [show j / z.size * z.size + j % z.size = j by rw [Nat.mul_comm]; exact Nat.div_add_mod j z.size] at h3
      rw [h3]
      simp [madeCells, hj, hm]
    · rw [List.getElem?_eq_none (by simp [madeCells]; omega), List.getElem?_eq_none (by rw [hl]; omega)]
theorem run_mSlice (hh : HOk B w g h) (hB : B ≤ w.heap.size) {t e : TypeId} {k1 k2 : IntKind} {n : Int} {z : List Value}
    (hk : (tyOf P t).kind = .slice e) (hn : 0 ≤ n) (hb : n * ((tyOf P e).bytes + 1) ≤ 140737488355328) (ho : (tyOf P e).ok = true) (h0 : 0 < (tyOf P e).sz) (hz : (tyOf P e).zero = some z) (hl : z.length = (tyOf P e).sz) :
    ∃ v w', (Instr.makeSlice t (.int k1 n) (.int k2 n)).run P w = .ok v w' ∧ Made B w g h w' v (.row e (tyOf P e).sz (List.replicate n.toNat (z.map .v)) 0) (fun i => .tl i 0) := by
  obtain ⟨d, it, hu, hit, eq⟩ := ty_ok (ok_kind hk (by simp))
  rw [eq] at hk
  cases d <;> try (cases hk; done)
  injection hk with hk
  subst hk
  rename_i e
  obtain ⟨d', i, hu', hi, eq'⟩ := ty_ok ho
  have hsz : (tyOf P e).sz = i.size := by rw [eq']
  have hby : (tyOf P e).bytes = i.bytes := by rw [eq']
  rw [hsz] at h0 hl ⊢
  rw [hby] at hb
  cases hzz : i.zero with
  | none => rw [eq'] at hz; simp [hzz] at hz
  | some zv =>
    have hzc : zv.cells.toList = z := by rw [eq'] at hz; simpa [hzz] using hz
    obtain ⟨m, rfl⟩ := Int.eq_ofNat_of_zero_le hn
    have hbn : m * (i.bytes + 1) ≤ 140737488355328 := by
      have : ((m * (i.bytes + 1) : Nat) : Int) ≤ 140737488355328 := by simpa using hb
      omega
    rw [Nat.mul_add, Nat.mul_one, Nat.mul_comm] at hbn
    have hsize : zv.cells.size = i.size := by rw [← hl, ← hzc]; simp
    obtain ⟨w', r1, r2, r3⟩ := run_make_full (P := P) w B t e i zv i.size hu hi hzz rfl k1 k2 m (by omega) (by simp only [maxLen]; omega) hB
    obtain ⟨w2, r4, r5, _⟩ := run_make_full (P := P) w w.heap.size t e i zv i.size hu hi hzz rfl k1 k2 m (by omega) (by simp only [maxLen]; omega) (Nat.le_refl _)
    have hww : w2 = w' := by rw [r1] at r4; injection r4 with _ h; exact h.symm
    subst hww
    refine ⟨_, w2, r1, ?_⟩
    have hcells : (madeCells zv.cells (m * i.size)).toList = (List.replicate m z).flatten := by rw [← hsize, madeCells_rep, hzc]
    have hfl : (List.replicate m (z.map AV.v)).flatten = (List.replicate m z).flatten.map AV.v := by
      induction m with
      | zero => simp
      | succ m ih => simp [List.replicate_succ]
    simp only [Int.toNat_natCast, Int.ofNat_eq_natCast]
    refine .row e i.size _ (madeCells zv.cells (m * i.size)).toList h0 (fun x hx => by rw [List.eq_of_mem_replicate hx]; simp [hl]) ⟨r3.os, r3.tape, r3.output, r3.size, fun k hk => r3.block k hk (by simp)⟩ (by simpa using r2) ?_ (fun b hb => (World.ownsRow.lt r5 b hb).1)
    rw [hfl, hcells]
    exact ars_v _
/-- What makes a block makes it. -/
theorem allocA_run (hh : HOk B w g h) (hB : B ≤ w.heap.size) (hT : TRel (ctx w g h) T a) {op : Op} {o : Ob} {mk : Nat → AV} (hx : allocA P T op = some (o, mk)) (dst : Option Tmp) (type : TypeId) (pos : String) (after : Array Edge) (guard : Option (Nat × Bool)) :
    ∃ v w', (execOp a.eval ⟨dst, op, type, pos, after, guard⟩).run P w = .ok (.value v) w' ∧ Made B w g h w' v o mk := by
  unfold allocA at hx
  split at hx
  · rename_i t
    split at hx
    · rename_i ht
      cases hz : (tyOf P t).zero with
      | none => rw [hz] at hx; cases hx
      | some z =>
        rw [hz] at hx
        injection hx with hx; injection hx with hx1 hx2; subst hx1 hx2
        obtain ⟨v, w', e1, e2⟩ := run_alloc (P := P) hh ht hz
        exact ⟨v, w', by simp [execOp, e1], e2⟩
    · cases hx
  · rename_i t y
    cases hc : (ev T y).cells with
    | none => rw [hc] at hx; cases hx
    | some cs =>
      rw [hc] at hx
      injection hx with hx; injection hx with hx1 hx2; subst hx1 hx2
      obtain ⟨v, w', e1, e2⟩ := run_box (P := P) (t := t) hh (ev_ar hT y) hc
      exact ⟨v, w', by simp [execOp, e1], e2⟩
  · rename_i t n ps
    split at hx
    · rename_i e hk
      split at hx
      · rename_i hf
        cases hc : fillA (splace (tyOf P e).sz) (bads (n * (tyOf P e).sz)) (evs T ps.toList) with
        | none => rw [hc] at hx; cases hx
        | some cs =>
          rw [hc] at hx
          injection hx with hx; injection hx with hx1 hx2; subst hx1 hx2
          obtain ⟨v, w', e1, e2⟩ := run_bSlice hh hB hT hk hf.1 hf.2.1 hf.2.2.1 hf.2.2.2 hc
          exact ⟨v, w', by simp [execOp, e1], e2⟩
      · cases hx
    · cases hx
  · rename_i t l c
    split at hx
    · rename_i e k1 n k2 m hk hl hc
      split at hx
      · rename_i hf
        obtain ⟨f1, f2, f3, f4, f5, f6⟩ := hf
        subst f1
        cases hz : (tyOf P e).zero with
        | none => rw [hz] at hx; cases hx
        | some z =>
          rw [hz] at hx f6
          injection hx with hx; injection hx with hx1 hx2; subst hx1 hx2
          have e1 := ev_v hT hl
          have e2 := ev_v hT hc
          obtain ⟨v, w', r1, r2⟩ := run_mSlice (P := P) (k1 := k1) (k2 := k2) hh hB hk f2 f3 f4 f5 hz (by simpa using f6)
          exact ⟨v, w', by simp [execOp, e1, e2, r1], r2⟩
      · cases hx
    · cases hx
  · rename_i t
    split at hx
    · injection hx with hx; injection hx with hx1 hx2; subst hx1 hx2
      exact ⟨.map (some w.heap.size), w.alloc (.map #[] 0), by simp [execOp, Instr.makeMap, newObj]; rfl, .map rfl rfl⟩
    · cases hx
  · cases hx
end
end Go.Proofs.YtpdghiplnlhnfaaGreat.Ax

namespace Go.Proofs.YtpdghiplnlhnfaaGreat.Ax
set_option linter.unusedSimpArgs false
set_option linter.unusedVariables false
open Go Go.RowKit
section
variable {B : Nat} {w : World} {g : Gh} {h h' : List Ob} {P : Program} {x : AV}

theorem ep_rows (hh : HOk B w g h) {a : AV} {e i k : Nat} {u : Value} (hu : AR (ctx w g h) (.ep a e i k) u) {xs : List (List AV)} (he : eOf h a = some e) (hr : rowsOf h a = some xs) :
    ∃ A cp, AR (ctx w g h) a (.slice (some A) xs.length cp) ∧ RowsAt w (ctx w g h) e xs (some A) ∧ i < xs.length ∧ u = .pointer (some (A.add (i * e + k))) := by
  obtain ⟨A, m, cp, h1, h2, h3⟩ := hu
  obtain ⟨A', k', e1, e2, e3, _⟩ := rows_ok hh _ h1 hr
  injection e1 with e4 e5 e6
  subst e5 e6
  have := e3 e he
  rw [← e4] at this
  exact ⟨A, cp, h1, this, h2, h3⟩
theorem did_load (hh : HOk B w g h) (hB : B ≤ w.heap.size) {t : TypeId} {p : AV} {u : Value} (hp : AR (ctx w g h) p u) (hx : loadA h (tyOf P t) p = some x) : DidV P (Instr.loadAt t u) B w g h x h := by
  cases p with
  | ptr id off =>
    simp only [loadA] at hx
    split at hx
    · rename_i ty cs ho
      split at hx
      · rename_i ht
        obtain ⟨v, h1, h2⟩ := load_part (P := P) ht (box_part hh ho) hx
        obtain ⟨_, e⟩ := hp
        subst e
        refine didV_same hh hB (v := v) ?_ h2
        rw [Addr.add_lit, Nat.zero_add] at h1
        simpa [Instr.loadAt, Instr.sureAddr, ctx] using h1
      · cases hx
    · cases hx
  | ep a e i k =>
    simp only [loadA] at hx
    split at hx
    · rename_i hc
      cases hr : rowsOf h a with
      | none => rw [hr] at hx; cases hx
      | some xs =>
        rw [hr] at hx
        simp only [Option.bind_some] at hx
        cases hi : xs[i]? with
        | none => rw [hi] at hx; cases hx
        | some r =>
          rw [hi] at hx
          obtain ⟨A, cp, _, h2, h3, h4⟩ := ep_rows hh hp hc.2 hr
          subst h4
          have hpart : PartAt w (ctx w g h) (A.add (i * e)) r := fun k b hk => by
            obtain ⟨ad, u, e1, e2, e3⟩ := h2.cell i k r b hi hk
            injection e1 with e1
            subst e1
            exact ⟨u, by rw [Addr.add_add]; exact e2, e3⟩
          obtain ⟨v, h5, h6⟩ := load_part (P := P) hc.1 hpart hx
          refine didV_same hh hB (v := v) ?_ h6
          rw [Addr.add_add] at h5
          simpa [Instr.loadAt, Instr.sureAddr] using h5
    · cases hx
  | _ => cases hx

theorem lay_append {rest : List AV} : ∀ {r : List AV} {k : Nat} {ns r' : List AV}, lay r k ns = some r' → lay (r ++ rest) k ns = some (r' ++ rest)
  | r, 0, [], r', h => by
    have e : ∀ l : List AV, lay l 0 [] = some l := fun l => by cases l <;> rfl
    rw [e] at h; cases h; exact e _
  | [], k + 1, _, _, h => by cases h
  | [], 0, _ :: _, _, h => by cases h
  | a :: r, 0, n :: ns, r', h => by
    simp only [lay] at h
    cases hc : lay r 0 ns with
    | none => rw [hc] at h; cases h
    | some q =>
      rw [hc] at h; injection h with h; subst h
      simp [lay, lay_append hc]
  | a :: r, k + 1, ns, r', h => by
    simp only [lay] at h
    cases hc : lay r k ns with
    | none => rw [hc] at h; cases h
    | some q =>
      rw [hc] at h; injection h with h; subst h
      simp [lay, lay_append hc]
theorem lay_skip {rest rest' : List AV} {m : Nat} {ns : List AV} (h : lay rest m ns = some rest') : ∀ (x : List AV), lay (x ++ rest) (x.length + m) ns = some (x ++ rest')
  | [] => by simpa using h
  | a :: x => by
    rw [List.length_cons, show x.length + 1 + m = (x.length + m) + 1 by omega]
    simp [lay, lay_skip h x]
theorem lay_flatten {e : Nat} : ∀ {xs : List (List AV)}, (∀ x ∈ xs, x.length = e) → ∀ {i k : Nat} {r ns r' : List AV}, xs[i]? = some r → lay r k ns = some r' → lay xs.flatten (i * e + k) ns = some (xs.set i r').flatten
  | x :: xs, h, 0, k, r, ns, r', hi, hl => by
    injection hi with hi
    subst hi
    simpa using lay_append (rest := xs.flatten) hl
  | x :: xs, h, i + 1, k, r, ns, r', hi, hl => by
    have hx := h x (by simp)
    have := lay_skip (lay_flatten (xs := xs) (fun y hy => h y (by simp [hy])) (i := i) hi hl) x
    rw [hx] at this
    rw [show (i + 1) * e + k = e + (i * e + k) by rw [Nat.succ_mul]; omega]
    simpa using this
/-- Cells of the call's own row are written. -/
theorem row_put (hh : HOk B w g h) (hB : B ≤ w.heap.size) {id ty e st : Nat} {xs xs' : List (List AV)} (ho : h[id]? = some (.row ty e xs st)) {A : Addr} {n0 cp : Nat} (hA : g.cur id = .slice (some A) n0 cp) {o : Nat} {vs : List Value} {ns : List AV}
    (hns : ARs (ctx w g h) ns vs) (h1 : ∀ v ∈ vs, v.oneCell' = true) (hlay : lay xs.flatten o ns = some xs'.flatten) (hx' : ∀ x ∈ xs', x.length = e) (hlen : xs'.length = xs.length) :
    ∃ w' g', (storeCells (A.add o) vs).run P w = .ok () w' ∧ Good B w g h w' g' (h.set id (.row ty e xs' st)) := by
  obtain ⟨q0, q1, cells, q2, q3⟩ := hh.ok id _ ho
  obtain ⟨f1, f2⟩ := ars_lay q3 _ hns hlay
  rcases q2.2 with ⟨e1, _⟩ | ⟨gg, cap, cur, e1, e2, e3, e4, e5, e6, e7⟩
  · have e1' : g.cur id = _ := e1
    rw [e1'] at hA; cases hA
  · have e1' : g.cur id = _ := e1
    have hA2 : A = ⟨gg, 0, none⟩ := by
      rw [e1'] at hA
      injection hA with hA
      injection hA with hA
      exact hA.symm
    subst hA2
    have hl : cells.length = xs.length * e := q2.1
    have hcs : xs.length * e ≤ cur.size := by rw [e6]; exact Nat.mul_le_mul_right _ e4
    have hvl : o + vs.length ≤ xs.length * e := by rw [hl] at f2; exact f2
    have hst := run_storeCells_at P gg o ty vs 0 cur w e3 (by simp only [Nat.add_zero]; omega) h1
    simp only [Nat.add_zero] at hst
    rw [Addr.add_lit, Nat.zero_add]
    refine ⟨_, _, hst, turn_row (v' := g.cur id) (st' := st) (cells := cells.take o ++ vs ++ cells.drop (o + vs.length)) hh hB ho hx' ?_ ?_ f1 (.inl ⟨rfl, rfl⟩) (fun b hb => .inl hb)⟩
    · rw [e1']
      exact grownBy_setRow w gg _
    · rw [e1']
      refine ⟨?_, .inr ⟨gg, cap, _, by rw [hlen], e2, setRow_heap w gg cur _ ty _ e3, by rw [hlen]; exact e4, e5, ?_, ?_⟩⟩
      · simp only [List.length_append, List.length_take, List.length_drop]
        rw [hlen]
        omega
      · simp only [List.size_toArray, List.length_append, List.length_take, List.length_drop, Array.length_toList]
        omega
      · rw [hlen, ← e7]
        apply List.ext_getElem?
        intro m
        simp only [List.getElem?_take, List.getElem?_append, List.length_take, List.length_append, List.getElem?_drop, Array.length_toList]
        have e8 : min (xs.length * e) cur.size = xs.length * e := by omega
        simp only [e8]
        have e9 : min o (xs.length * e) = o := by omega
        have e10 : min o cur.size = o := by omega
        simp only [e9, e10]
        by_cases m1 : m < o
        · simp [m1, show m < o + vs.length by omega, show m < xs.length * e by omega]
        · by_cases m2 : m < o + vs.length
          · simp [m1, m2, show m < xs.length * e by omega]
          · have m3 : o + vs.length + (m - (o + vs.length)) = m := by omega
            simp [m2, m3]
theorem did_store (hh : HOk B w g h) (hB : B ≤ w.heap.size) {t : TypeId} {p y : AV} {u v : Value} {ns : List AV} (hp : AR (ctx w g h) p u) (hy : AR (ctx w g h) y v) (ht : (tyOf P t).ok = true) (hn : y.cells = some ns) (hl : ns.length = (tyOf P t).sz)
    (hx : storeA h ns p = some h') : ∃ w' g', (Instr.storeAt t u v).run P w = .ok () w' ∧ Good B w g h w' g' h' := by
  obtain ⟨d, i, hu, hi, eq⟩ := ty_ok ht
  obtain ⟨hn1, hn2⟩ := cells_of hn hy
  have hvs : v.cells.size = i.size := by
    have := ars_len hn1
    rw [eq] at hl
    simp at this hl
    omega
  have hrun : ∀ (gb off : Nat) (ty : TypeId) (cur : Array Value), w.heap[gb]? = some (.cells cur ty (0, 0)) → off + v.cells.toList.length ≤ cur.size →
      (Instr.storeAt t (.pointer (some ⟨gb, off, none⟩)) v).run P w = .ok () (w.setRow gb (cur.toList.take off ++ v.cells.toList ++ cur.toList.drop (off + v.cells.toList.length)).toArray) := fun gb off ty cur hg hb => by
    have := run_storeCells_at P gb off ty v.cells.toList 0 cur w hg (by simpa using hb) hn2
    simp only [Nat.add_zero] at this
    simp [Instr.storeAt, Instr.sureAddr, storeVar, sizeOf, typeInfo, hi, hvs]
    simpa [hvs] using this
  cases p with
  | ptr id off =>
    simp only [storeA] at hx
    split at hx
    · rename_i ty cs ho
      cases hlay : lay cs off ns with
      | none => rw [hlay] at hx; cases hx
      | some cs' =>
        rw [hlay] at hx
        injection hx with hx
        subst hx
        obtain ⟨h1, vs, h2, h3⟩ := hh.ok id _ ho
        obtain ⟨h4, h5⟩ := ars_lay h3 off hn1 hlay
        obtain ⟨_, e⟩ := hp
        subst e
        exact ⟨_, _, hrun _ off ty vs h2 (by simpa using h5), turn_box hh hB ho (by simpa using h4)⟩
    · cases hx
  | ep a e j k =>
    cases a <;> try (cases hx; done)
    rename_i id st
    simp only [storeA] at hx
    split at hx
    · rename_i ty e' xs s ho
      split at hx
      · rename_i hc
        obtain ⟨hc1, hc2⟩ := hc
        subst hc1 hc2
        cases hj : xs[j]? with
        | none => rw [hj] at hx; cases hx
        | some r =>
          rw [hj] at hx
          simp only [Option.bind_some] at hx
          cases hlay : lay r k ns with
          | none => rw [hlay] at hx; cases hx
          | some r' =>
            rw [hlay] at hx
            injection hx with hx
            subst hx
            have he : eOf h (.tl id s) = some e' := by simp [eOf, ho]
            have hr : rowsOf h (.tl id s) = some xs := by simp [rowsOf, ho]
            obtain ⟨A, cp, h1, h2, h3, h4⟩ := ep_rows hh hp he hr
            subst h4
            have hcur := tl_cur h1 ho
            obtain ⟨q0, q1, cells, q2, q3⟩ := hh.ok id _ ho
            have hfl := lay_flatten q1 hj hlay
            have hset : ∀ x ∈ xs.set j r', x.length = e' := fun x hx => by
              rcases List.mem_or_eq_of_mem_set hx with hx | hx
              · exact q1 x hx
              · subst hx; rw [lay_len hlay]; exact q1 r (List.mem_of_getElem? hj)
            obtain ⟨w', g', z1, z2⟩ := row_put (P := P) hh hB ho hcur.symm (o := j * e' + k) hn1 hn2 hfl hset (by simp)
            refine ⟨w', g', ?_, z2⟩
            simp [Instr.storeAt, Instr.sureAddr, storeVar, sizeOf, typeInfo, hi, hvs]
            simpa [hvs] using z1
      · cases hx
    · cases hx
  | _ => cases hx
end
end Go.Proofs.YtpdghiplnlhnfaaGreat.Ax

namespace Go.Proofs.YtpdghiplnlhnfaaGreat.Ax
set_option linter.unusedSimpArgs false
set_option linter.unusedVariables false
open Go Go.RowKit
section
variable {B : Nat} {w : World} {g : Gh} {h h' : List Ob} {P : Program} {x : AV} {T : Nat → AV} {a : Act}

theorem run_append_none {t ty e : TypeId} {i : TypeInfo} (ht : P.underlying t = some (.slice e)) (hi : P.info? e = some i) (base : Option Addr) (n cap k : Nat) (hn : n ≤ cap) :
    (Builtin.append_ #[t, t] ty #[.slice base n cap, .slice none 0 k]).run P w = .ok (.slice base n cap) w := by
  cases base <;> simp [Builtin.append_, run_underlying ht, sizeOf, typeInfo, hi, Builtin.lenOf, hn, Builtin.firstCells, storeCells]

theorem rows_news {c : Ctx} {e : Nat} {xs : List (List AV)} {A : Addr} (hr : RowsAt w c e xs (some A)) (h1 : ∀ r ∈ xs, r.all AV.one = true) :
    ∃ news : List Value, news.length = xs.length * e ∧ (∀ j u, news[j]? = some u → w.cell? (A.add j) = some u) ∧ (∀ u ∈ news, u.oneCell' = true) ∧ ARs c xs.flatten news := by
  have hp : PartAt w c A xs.flatten := fun k a hk => by
    by_cases he : e = 0
    · have : xs.flatten = [] := by
        apply List.eq_nil_of_length_eq_zero
        rw [flatten_len hr.len, he, Nat.mul_zero]
      rw [this] at hk; cases hk
    · have hlt := (List.getElem?_eq_some_iff.1 hk).1
      rw [flatten_len hr.len] at hlt
      have hi : k / e < xs.length := by rw [Nat.div_lt_iff_lt_mul (by omega)]; exact hlt
      have hm : k % e < e := Nat.mod_lt _ (by omega)
      have hrow : xs[k / e]? = some xs[k / e] := List.getElem?_eq_getElem hi
      have hrl : xs[k / e].length = e := hr.len _ (List.getElem_mem hi)
      have hcell : xs[k / e][k % e]? = some xs[k / e][k % e] := List.getElem?_eq_getElem (by omega)
      have hf := flatten_get hr.len hrow hcell
      have hke : k / e * e + k % e = k := by rw [Nat.mul_comm]; exact Nat.div_add_mod k e
      rw [hke, hk] at hf
      injection hf with hf
      obtain ⟨ad, u, e1, e2, e3⟩ := hr.cell _ _ _ _ hrow hcell
      injection e1 with e1
      subst e1
      rw [hke] at e2
      exact ⟨u, e2, by rw [hf]; exact e3⟩
  obtain ⟨vs, h2, h3⟩ := hp.vals
  refine ⟨vs, by rw [← ars_len h2, flatten_len hr.len], h3, ?_, h2⟩
  refine one_cells ?_ h2
  rw [List.all_eq_true]
  intro a ha
  obtain ⟨r, hr1, hr2⟩ := List.mem_flatten.1 ha
  exact List.all_eq_true.1 (h1 r hr1) a hr2

theorem ownsRow_base {B' : Nat} {e : TypeId} {size : Nat} {v : Value} {k : Nat} {xs : List Value} (h : w.ownsRow B e size v k xs) (hb : B' ≤ B) : w.ownsRow B' e size v k xs := by
  refine ⟨h.1, ?_⟩
  rcases h.2 with h2 | ⟨g, cap, cur, hv, hg, r⟩
  · exact .inl h2
  · exact .inr ⟨g, cap, cur, hv, Nat.le_trans hb hg, r⟩

theorem append_blk {t ty e : TypeId} {i : TypeInfo} {z : Value} (ht : P.underlying t = some (.slice e)) (hi : P.info? e = some i) (hz : i.zero = some z) (_hsz : 0 < i.size)
    {D : Nat} {v : Value} {n : Nat} {xs : List Value} (hown : w.ownsRow D e i.size v n xs) {ad : Addr} {m c : Nat} {news : List Value} (hl : news.length = m * i.size) (hnews : ∀ j u, news[j]? = some u → w.cell? (ad.add j) = some u) (h1 : ∀ u ∈ news, u.oneCell' = true)
    (h63 : n + m ≤ maxLen) (hbytes : (n + m) * i.bytes ≤ 140737488355328) {v' : Value} {w' : World} (hr : (Builtin.append_ #[t, t] ty #[v, .slice (some ad) m c]).run P w = .ok v' w') (b : Nat) (hb : v'.ownBlock = some b) :
    v.ownBlock = some b ∨ w.heap.size ≤ b := by
  have hsmall : n + m ≤ 9223372036854775807 := by simp only [maxLen] at h63; omega
  rcases hown.2 with ⟨rfl, rfl⟩ | ⟨g, cap, cur, rfl, hbg, hg, hnc, hcm, hcs, htake⟩
  · by_cases hm : m = 0
    · subst hm
      have : (Builtin.append_ #[t, t] ty #[.slice none 0 0, .slice (some ad) 0 c]).run P w = .ok (.slice none 0 0) w := by
        simp [Builtin.append_, run_underlying ht, sizeOf, typeInfo, hi, Builtin.lenOf, Builtin.firstCells, loadCells, loadCellsFrom]
      rw [this] at hr
      injection hr with e1 e2
      subst e1
      simp [Value.ownBlock] at hb
    · rw [run_append_nil (P := P) w t ty e i z ht hi hz ad m c news hl hnews (by omega) (by omega) (by simp only [Nat.zero_add] at hbytes; omega)] at hr
      injection hr with e1 e2
      subst e1
      simp [Value.ownBlock] at hb
      exact .inr (by omega)
  · by_cases hroom : n + m ≤ cap
    · have hfit : n * i.size + news.length ≤ cur.size := by rw [hl, hcs, ← Nat.add_mul]; exact Nat.mul_le_mul_right _ hroom
      rw [run_append_room (P := P) w t ty e i ht hi g n cap cur hg ad m c news hl hnews h1 hroom hfit] at hr
      injection hr with e1 e2
      subst e1
      exact .inl hb
    · have holds : ∀ j u, xs[j]? = some u → w.cell? ((⟨g, 0, none⟩ : Addr).add j) = some u := hown.cells (g := g) rfl
      rw [run_append_grow (P := P) w t ty e i z ht hi hz ⟨g, 0, none⟩ n cap xs hown.1 holds ad m c news hl hnews (by omega) (by omega) (growslice_fits (by omega) hbytes)] at hr
      injection hr with e1 e2
      subst e1
      simp [Value.ownBlock] at hb
      exact .inr (by omega)
theorem did_append (hh : HOk B w g h) (hB : B ≤ w.heap.size) {t ty e : TypeId} {s y : AV} {u v : Value} (hs : AR (ctx w g h) s u) (hy : AR (ctx w g h) y v) (hk : (tyOf P t).kind = .slice e) (hx : appendA P h e s y = some (x, h')) :
    DidV P (Builtin.append_ #[t, t] ty #[u, v]) B w g h x h' := by
  obtain ⟨d, it, hu, hit, eq⟩ := ty_ok (ok_kind hk (by simp))
  rw [eq] at hk
  cases d <;> try (cases hk; done)
  injection hk with hk
  subst hk
  rename_i e
  unfold appendA at hx
  cases hr : rowsOf h y with
  | none => simp [hr] at hx
  | some ys =>
    simp only [hr, Option.bind_some] at hx
    split at hx
    · rename_i hc
      obtain ⟨ho, h0, hz, hall⟩ := hc
      obtain ⟨d', i, hu', hi, eq'⟩ := ty_ok ho
      have hsz : (tyOf P e).sz = i.size := by rw [eq']
      have hby : (tyOf P e).bytes = i.bytes := by rw [eq']
      rw [hsz] at h0 hall hz hx
      rw [hby] at hx
      cases hzz : i.zero with
      | none => rw [eq'] at hz; simp [hzz] at hz
      | some z =>
        rw [eq'] at hz
        have hzs : z.cells.size = i.size := by simpa [hzz] using hz
        have hall' : ∀ r ∈ ys, r.length = i.size ∧ r.all AV.one = true := fun r hr => by
          have := List.all_eq_true.1 hall r hr
          simpa only [Bool.and_eq_true, beq_iff_eq] using this
        obtain ⟨A, k, e1, e2, e3, e4⟩ := rows_ok hh _ hy hr
        subst e1
        -- what is new
        have hnews : (∃ ad, A = some ad) → ∃ ad news, A = some ad ∧ news.length = ys.length * i.size ∧ (∀ j u, news[j]? = some u → w.cell? (ad.add j) = some u) ∧ (∀ u ∈ news, u.oneCell' = true) ∧ ARs (ctx w g h) ys.flatten news := by
          rintro ⟨ad, rfl⟩
          cases hys : ys with
          | nil => exact ⟨ad, [], rfl, by simp, by simp, by simp, rfl⟩
          | cons r rs =>
            cases he : eOf h y with
            | none => rw [e4 he] at hys; cases hys
            | some e' =>
              have hra := e3 e' he
              have hee : e' = i.size := by rw [← hra.len r (by rw [hys]; simp), (hall' r (by rw [hys]; simp)).1]
              subst hee
              obtain ⟨news, n1, n2, n3, n4⟩ := rows_news hra fun r hr => (hall' r hr).2
              rw [← hys]
              exact ⟨ad, news, rfl, n1, n2, n3, n4⟩
        have hnone : A = none → ys = [] := fun hA => by
          cases hys : ys with
          | nil => rfl
          | cons r rs =>
            cases he : eOf h y with
            | none => rw [e4 he] at hys; cases hys
            | some e' =>
              have hra := e3 e' he
              have hr0 := (hall' r (by rw [hys]; simp)).1
              obtain ⟨ad, u, q1, _⟩ := hra.cell 0 0 r (nth r 0) (by rw [hys]; rfl) (get_nth (by omega))
              rw [hA] at q1; cases q1
        split at hx
        · rename_i id st
          split at hx
          · rename_i ty' e' xs s ho'
            split at hx
            · rename_i hcc
              obtain ⟨c1, c2, c3, c4⟩ := hcc
              subst c1 c2 c3
              injection hx with hx
              injection hx with hx1 hx2
              subst hx1 hx2
              have hcur := tl_cur hs ho'
              obtain ⟨q0, q1, cells, q2, q3⟩ := hh.ok id _ ho'
              have q2' : w.ownsRow B ty' i.size (g.cur id) xs.length cells := q2
              rw [← hcur] at q2'
              have hb1 : xs.length + ys.length ≤ 140737488355328 := Nat.le_trans (Nat.le_mul_of_pos_right _ (by omega)) c4
              have hb2 : (xs.length + ys.length) * i.bytes ≤ 140737488355328 := Nat.le_trans (Nat.mul_le_mul_left _ (by omega)) c4
              have hxs : ∀ x ∈ xs ++ ys, x.length = i.size := fun x hx => by
                rcases List.mem_append.1 hx with hx | hx
                · exact q1 x hx
                · exact (hall' x hx).1
              have fin : ∀ (v' : Value) (w' : World) (cells' : List Value), w'.ownsRow B ty' i.size v' (xs ++ ys).length cells' → ARs (ctx w g h) (xs ++ ys).flatten cells' → w.grownBy w' (g.cur id).ownBlock → (∀ b, v'.ownBlock = some b → (g.cur id).ownBlock = some b ∨ w.heap.size ≤ b) →
                  Good B w g h w' ⟨g.β, fun j => if j = id then v' else g.cur j⟩ (h.set id (.row ty' i.size (xs ++ ys) (s + 1))) ∧ AR (ctx w' ⟨g.β, fun j => if j = id then v' else g.cur j⟩ (h.set id (.row ty' i.size (xs ++ ys) (s + 1)))) (.tl id (s + 1)) v' := fun v' w' cells' r1 r2 r3 r4 => by
                refine ⟨turn_row hh hB ho' hxs r3 r1 r2 (.inr (by omega)) r4, ?_, ⟨_, List.getElem?_set_self (get_lt ho'), rfl⟩, fun s' hs' => ?_⟩
                · obtain ⟨A, cp, e1, _⟩ := owns_slice r1; exact ⟨A, _, cp, e1⟩
                · have : s + 1 = s' := by
                    have := hs'
                    simp only [ctx, List.getElem?_set_self (get_lt ho'), Ob.tok, Option.some.injEq] at this
                    exact this
                  exact ⟨by omega, fun _ => by simp [ctx]⟩
              cases hA : A with
              | none =>
                have hy0 := hnone hA
                subst hy0
                obtain ⟨A0, cp, z1, z2⟩ := owns_slice q2'
                have hr := run_append_none (P := P) (w := w) (ty := ty) hu hi A0 xs.length cp k z2
                rw [← z1] at hr
                obtain ⟨f1, f2⟩ := fin u w cells (by simpa using q2') (by simpa using q3) ⟨rfl, rfl, rfl, Nat.le_refl _, fun _ _ _ => rfl⟩ (fun b hb => .inl (by have e : u = g.cur id := hcur; rw [← e]; exact hb))
                exact ⟨_, _, _, by simpa using hr, f1, f2⟩
              | some ad =>
                obtain ⟨ad', news, n1, n2, n3, n4, n5⟩ := hnews ⟨ad, hA⟩
                rw [hA] at n1
                injection n1 with n1
                subst n1
                obtain ⟨v', w', r1, r2, r3, r4⟩ := run_append_own (P := P) w B t ty ty' i z i.size i.bytes hu hi hzz rfl rfl hzs h0 u xs.length cells q2' ad ys.length k news n2 n3 n4 (by simp only [maxLen]; omega) hb2 hB
                have hgr : w.grownBy w' (g.cur id).ownBlock := by have e : u = g.cur id := hcur; rw [← e]; exact r3
                obtain ⟨f1, f2⟩ := fin v' w' (cells ++ news) (by rw [List.length_append]; exact r2) (by rw [List.flatten_append]; exact ars_append q3 n5) hgr (fun b hb => by
                  rcases append_blk (P := P) (w := w) hu hi hzz h0 q2' n2 n3 n4 (by simp only [maxLen]; omega) hb2 r1 b hb with h9 | h9
                  · have e : u = g.cur id := hcur
                    exact .inl (by rw [← e]; exact h9)
                  · exact .inr h9)
                exact ⟨_, _, _, r1, f1, f2⟩
            · cases hx
          · cases hx
        · split at hx
          · rename_i c4
            injection hx with hx
            injection hx with hx1 hx2
            subst hx1 hx2
            have hs : u = .slice none 0 0 := hs
            subst hs
            have hb1 : ys.length ≤ 140737488355328 := Nat.le_trans (Nat.le_mul_of_pos_right _ (by omega)) c4
            have hb2 : ys.length * i.bytes ≤ 140737488355328 := Nat.le_trans (Nat.mul_le_mul_left _ (by omega)) c4
            cases hA : A with
            | none =>
              have hy0 := hnone hA
              subst hy0
              have hr := run_append_none (P := P) (w := w) (ty := ty) hu hi none 0 0 k (Nat.le_refl _)
              obtain ⟨f1, f2⟩ := more_row hh hB (ty := e) h0 (xs := []) (by simp) 0 (Below.refl _ w) (World.ownsRow_nil w B e i.size) rfl (by simp [Value.ownBlock])
              exact ⟨_, _, _, by simpa using hr, f1, f2⟩
            | some ad =>
              obtain ⟨ad', news, n1, n2, n3, n4, n5⟩ := hnews ⟨ad, hA⟩
              rw [hA] at n1
              injection n1 with n1
              subst n1
              obtain ⟨v', w', r1, r2, r3, r4⟩ := run_append_own (P := P) w w.heap.size t ty e i z i.size i.bytes hu hi hzz rfl rfl hzs h0 (.slice none 0 0) 0 [] (World.ownsRow_nil w _ e i.size) ad ys.length k news n2 n3 n4 (by simp only [maxLen]; omega) (by simpa using hb2) (Nat.le_refl _)
              have hbel : Below w.heap.size w w' := ⟨r3.os, r3.tape, r3.output, r3.size, fun k hk => r3.block k hk (by simp [Value.ownBlock])⟩
              obtain ⟨f1, f2⟩ := more_row hh hB (ty := e) h0 (fun x hx => (hall' x hx).1) 0 hbel (ownsRow_base (by simpa using r2) hB) n5 (fun b hb => (World.ownsRow.lt r2 b hb).1)
              exact ⟨_, _, _, r1, f1, f2⟩
          · cases hx
        · cases hx
    · cases hx
end
end Go.Proofs.YtpdghiplnlhnfaaGreat.Ax
