/-
  Joined: Set, Set2, Ev. Nothing is proved here of a statement.
-/
import Derived.Test.YtpdghiplnlhnfaaGreatMF
namespace Go.Proofs.YtpdghiplnlhnfaaGreat.Ax
set_option linter.unusedSimpArgs false
set_option linter.unusedVariables false
open Go Go.Proofs
set_option maxRecDepth 100000
set_option linter.unusedSimpArgs false
set_option linter.unusedVariables false
attribute [go_sem] ty30
def rowInt : List AV → Int
  | [.v (.int _ n)] => n
  | _ => 0
def irow (n : Int) : List AV := [i64 n]
def outI (lo hi n : Int) : Bool := decide (n < lo) || decide (n > hi)
def allI (lo hi : Int) (l : List Int) : Bool := !l.any (outI lo hi)
theorem c99 (h : List Ob) (i j : Nat) (lo hi n : Int) (hi1 : h[i]? = some (.box 3 [i64 lo])) (hj1 : h[j]? = some (.box 3 [i64 hi])) :
    ACalls Tryz.prog 137 [i64 n, .ptr i 0, .ptr j 0] h fun r h' => r = bl (outI lo hi n) ∧ h' = h := by
  refine acalls_wp Tryz.f137 [.tmp 4] 13 rfl rfl rfl rfl rfl rfl (by decide) (⟨_, _, ⟨rfl, rfl⟩, .refl⟩) fun B => ?_
  simp only [go_sem, hi1]
  refine ways (fun e => ?_) (fun e => ?_)
  · have e := beq_ft e
    simp only [go_sem, e, hi1, hj1]
    (first | refine endA_pure0 ?_ | refine endA_pure ?_ (by rfl)) <;> (simp only [go_sem, outI, e] <;> try rfl)
  · have e := beq_ff e
    simp only [go_sem, e, hi1, hj1]
    (first | refine endA_pure0 ?_ | refine endA_pure ?_ (by rfl)) <;> (simp only [go_sem, outI, e] <;> try rfl)
theorem c77 (h : List Ob) (x : AV) (lo hi : Int) (l : List Int) (hn : l.length < 1099511627776) (hx : SlOf h x 1 (l.map irow)) :
    ACalls Tryz.prog 106 [i64 lo, i64 hi, x] h fun r h' => r = bl (allI lo hi l) ∧ h' = h := by
  refine acalls_wp Tryz.f106 [.tmp 6] 11 rfl rfl rfl rfl rfl rfl (by decide) (⟨_, _, ⟨rfl, rfl⟩, .refl⟩) fun B => ?_
  simp only [go_sem]
  refine call_by (c98 _ x 137 _ (l.map irow) (fun r => outI lo hi (rowInt r)) (by simpa using hn) (by simp [irow]) (hx.app _) ?_) ?_
  · intro row hrow L
    obtain ⟨n, _, rfl⟩ := List.mem_map.1 hrow
    refine c99 _ _ _ lo hi n ?_ ?_
    all_goals simp only [go_sem]
  · rintro _ h1 ⟨rfl, e2⟩
    subst e2
    simp only [go_sem]
    (first | refine endA_pure0 ?_ | refine endA_pure ?_ (by rfl)) <;> (simp only [go_sem, allI, List.any_map, Function.comp_def, irow, rowInt] <;> try rfl)
def shareOk (p : Rat2) : Bool := decide (p.1 < 0) || !rok p
theorem c102 (p : Rat2) (hp : FitR p) : Pure Tryz.prog 140 [rat p] (bl (shareOk p)) := fun h => by
  refine acalls_wp Tryz.f140 [.tmp 2] 11 rfl rfl rfl rfl rfl rfl (by decide) (⟨_, _, ⟨rfl, rfl⟩, .refl⟩) fun B => ?_
  simp only [go_sem]
  refine ways (fun e => ?_) (fun e => ?_)
  · have e := beq_ft e
    simp only [go_sem, e]
    refine call_by (c27 p hp.1 hp.2 _) ?_
    rintro _ h1 ⟨rfl, e2⟩
    subst e2
    simp only [go_sem, e]
    (first | refine endA_pure0 ?_ | refine endA_pure ?_ (by rfl)) <;> (simp only [go_sem, shareOk, e] <;> try rfl)
  · have e := beq_ff e
    simp only [go_sem, e]
    (first | refine endA_pure0 ?_ | refine endA_pure ?_ (by rfl)) <;> (simp only [go_sem, shareOk, e] <;> try rfl)
def rowRat : List AV → Rat2
  | [.v (.int _ n), .v (.int _ d)] => (n, d)
  | _ => (0, 0)
def sharesI (l : List Rat2) : Bool := !l.any shareOk
theorem c80 (h : List Ob) (x : AV) (l : List Rat2) (hl : ∀ p ∈ l, FitR p) (hn : l.length < 1099511627776) (hx : SlOf h x 2 (l.map rrow)) :
    ACalls Tryz.prog 109 [x] h fun r h' => r = bl (sharesI l) ∧ h' = h := by
  refine acalls_wp Tryz.f109 [.tmp 2] 6 rfl rfl rfl rfl rfl rfl (by decide) (⟨_, _, ⟨rfl, rfl⟩, .refl⟩) fun B => ?_
  simp only [go_sem]
  refine call_by (c101 _ x 140 _ (l.map rrow) (fun r => shareOk (rowRat r)) (by simpa using hn) (fun r hr => by obtain ⟨p, _, rfl⟩ := List.mem_map.1 hr; rfl) hx ?_) ?_
  · intro row hrow L
    obtain ⟨p, hp, rfl⟩ := List.mem_map.1 hrow
    exact c102 p (hl p hp) _
  · rintro _ h1 ⟨rfl, e2⟩
    subst e2
    simp only [go_sem]
    (first | refine endA_pure0 ?_ | refine endA_pure ?_ (by rfl)) <;> (simp only [go_sem, sharesI, List.any_map, Function.comp_def, rrow, rowRat] <;> try rfl)
abbrev Way := Int × Int × Int
def wrow (w : Way) : List AV := [i64 w.1, i64 w.2.1, i64 w.2.2]
def rowWay : List AV → Way
  | [.v (.int _ a), .v (.int _ b), .v (.int _ m)] => (a, b, m)
  | _ => (0, 0, 0)
abbrev Elt := Rat2 × Rat2
def erow (e : Elt) : List AV := [i64 e.1.1, i64 e.1.2, i64 e.2.1, i64 e.2.2]
def rowElt : List AV → Elt
  | [.v (.int _ a), .v (.int _ b), .v (.int _ c), .v (.int _ d)] => ((a, b), (c, d))
  | _ => ((0, 0), (0, 0))
abbrev Tier := Int × Int
structure Setup where
  places : Int
  ways : List Way
  pace : Rat2
  elements : List Elt
  classes : List Rat2
  gears : List Rat2
  allow : Int
  unit : Int
  cap : Int
  paidBreak : Int
  autoAfter : Int
  autoBreak : Int
  dayReg : Int
  dayOver : Int
  weekReg : Int
  nightFrom : Int
  nightTo : Int
  rates : List Int
  diff : Int
  least : Int
  fault : Int
  tiers : List Tier
structure SA where
  w : AV
  e : AV
  c : AV
  g : AV
  r : AV
  t : AV
abbrev setupC (s : Setup) (a : SA) : List AV := [i64 s.places, a.w, i64 s.pace.1, i64 s.pace.2, a.e, a.c, a.g, i64 s.allow, i64 s.unit, i64 s.cap, i64 s.paidBreak, i64 s.autoAfter, i64 s.autoBreak,
  i64 s.dayReg, i64 s.dayOver, i64 s.weekReg, i64 s.nightFrom, i64 s.nightTo, a.r, i64 s.diff, i64 s.least, i64 s.fault, a.t]
abbrev setupV (s : Setup) (a : SA) : AV := .ag (setupC s a)
structure SIn (h : List Ob) (s : Setup) (a : SA) : Prop where
  w : SlOf h a.w 3 (s.ways.map wrow)
  e : SlOf h a.e 4 (s.elements.map erow)
  c : SlOf h a.c 2 (s.classes.map rrow)
  g : SlOf h a.g 2 (s.gears.map rrow)
  r : SlOf h a.r 1 (s.rates.map irow)
  t : SlOf h a.t 2 (s.tiers.map rrow)
theorem SIn.app {h : List Ob} {s : Setup} {a : SA} (k : SIn h s a) (L : List Ob) : SIn (h ++ L) s a := ⟨k.w.app L, k.e.app L, k.c.app L, k.g.app L, k.r.app L, k.t.app L⟩
/-- Whole numbers, and so many of each at most. -/
structure SFit (s : Setup) : Prop where
  places : Fit s.places
  pace : FitR s.pace
  elements : ∀ e ∈ s.elements, FitR e.1 ∧ FitR e.2
  classes : ∀ p ∈ s.classes, FitR p
  gears : ∀ p ∈ s.gears, FitR p
  tiers : ∀ t ∈ s.tiers, FitR t
  nw : s.ways.length < 1099511627776
  ne : s.elements.length < 1099511627776
  nc : s.classes.length < 1099511627776
  ng : s.gears.length < 1099511627776
  nr : s.rates.length < 1099511627776
  nt : s.tiers.length < 1099511627776
def wayBad (places : Int) (w : Way) : Bool := !allI 0 (wr (places - 1)) [w.1, w.2.1] || w.1 == w.2.1 || !allI 1 10000 [w.2.2]
theorem c76 (h : List Ob) (i : Nat) (s : Setup) (a : SA) (w : Way) (hi1 : h[i]? = some (.box 30 (setupC s a))) :
    ACalls Tryz.prog 105 [.ag (wrow w), .ptr i 0] h fun r h' => r = bl (wayBad s.places w) ∧ h' = h := by
  refine acalls_wp Tryz.f105 [.tmp 3] 28 rfl rfl rfl rfl rfl rfl (by decide) (⟨_, _, ⟨rfl, rfl⟩, .refl⟩) fun B => ?_
  simp only [go_sem, hi1, wrow]
  have hb : ∀ M, (h ++ M)[i]? = some (.box 30 (setupC s a)) := fun M => get_app_old hi1
  simp only [go_sem, hb]
  refine call_by (c77 _ _ 0 _ [w.1, w.2.1] (by simp) ⟨by simp only [go_sem, irow], fun _ => by simp only [go_sem, irow]⟩) ?_
  rintro _ h1 ⟨rfl, e2⟩
  subst e2
  simp only [go_sem]
  refine ways (fun e => ?_) (fun e => ?_)
  · have e := beq_ft e
    simp only [go_sem, e]
    refine ways (fun e3 => ?_) (fun e3 => ?_)
    · have e3 := beq_ft e3
      simp only [go_sem, e, e3]
      refine call_by (c77 _ _ 1 10000 [w.2.2] (by simp) ⟨by simp only [go_sem, irow], fun _ => by simp only [go_sem, irow]⟩) ?_
      rintro _ h1 ⟨rfl, e2⟩
      subst e2
      simp only [go_sem, e, e3]
      (first | refine endA_pure0 ?_ | refine endA_pure ?_ (by rfl)) <;> (simp only [go_sem, wayBad, e, e3] <;> try rfl)
    · have e3 := beq_ff e3
      simp only [go_sem, e, e3]
      (first | refine endA_pure0 ?_ | refine endA_pure ?_ (by rfl)) <;> (simp only [go_sem, wayBad, e, e3] <;> try rfl)
  · have e := beq_ff e
    simp only [go_sem, e]
    (first | refine endA_pure0 ?_ | refine endA_pure ?_ (by rfl)) <;> (simp only [go_sem, wayBad, e] <;> try rfl)
def placesOk (s : Setup) : Bool := allI 1 16 [s.places] && decide ((s.ways.length : Int) ≤ 64) && !s.ways.any (wayBad s.places)
theorem c47 (h : List Ob) (s : Setup) (a : SA) (k : SIn h s a) (f : SFit s) : ACalls Tryz.prog 59 [setupV s a] h fun r h' => r = bl (placesOk s) ∧ h' = h := by
  refine acalls_wp Tryz.f59 [.tmp 2] 22 rfl rfl rfl rfl rfl rfl (by decide) (⟨_, _, ⟨rfl, rfl⟩, .refl⟩) fun B => ?_
  simp only [go_sem, k.w.one, k.e.one, k.c.one, k.g.one, k.r.one, k.t.one]
  refine call_by (c77 _ _ 1 16 [s.places] (by simp) ⟨by simp only [go_sem, irow], fun _ => by simp only [go_sem, irow]⟩) ?_
  rintro _ h1 ⟨rfl, e2⟩
  subst e2
  simp only [go_sem]
  refine ways (fun e => ?_) (fun e => ?_)
  · have e := beq_tt e
    simp only [go_sem, e, (k.app _).w.rows, List.length_map]
    refine ways (fun e3 => ?_) (fun e3 => ?_)
    · have e3 := beq_tt e3
      simp only [go_sem, e, e3]
      refine call_by (c78 _ a.w 105 _ (s.ways.map wrow) (fun r => wayBad s.places (rowWay r)) (by simpa using f.nw) (fun r hr => by obtain ⟨p, _, rfl⟩ := List.mem_map.1 hr; rfl) (k.app _).w ?_) ?_
      · intro row hrow L
        obtain ⟨p, hp, rfl⟩ := List.mem_map.1 hrow
        refine c76 _ _ s a p ?_
        simp only [go_sem]
      · rintro _ h1 ⟨rfl, e2⟩
        subst e2
        simp only [go_sem]
        (first | refine endA_pure0 ?_ | refine endA_pure ?_ (by rfl)) <;> (simp only [go_sem, placesOk, e, e3, List.any_map, Function.comp_def, wrow, rowWay] <;> try rfl)
    · have e3 := beq_tf e3
      simp only [go_sem, e, e3]
      (first | refine endA_pure0 ?_ | refine endA_pure ?_ (by rfl)) <;> (simp only [go_sem, placesOk, e, e3] <;> try rfl)
  · have e := beq_tf e
    simp only [go_sem, e]
    (first | refine endA_pure0 ?_ | refine endA_pure ?_ (by rfl)) <;> (simp only [go_sem, placesOk, e] <;> try rfl)
def eltBad (e : Elt) : Bool := !sharesI [e.1, e.2]
theorem c79 (e : Elt) (he : FitR e.1 ∧ FitR e.2) : Pure Tryz.prog 108 [.ag (erow e)] (bl (eltBad e)) := fun h => by
  refine acalls_wp Tryz.f108 [.tmp 2] 10 rfl rfl rfl rfl rfl rfl (by decide) (⟨_, _, ⟨rfl, rfl⟩, .refl⟩) fun B => ?_
  simp only [go_sem, erow]
  refine call_by (c80 _ _ [e.1, e.2] (by simpa using he) (by simp) ⟨by simp only [go_sem, rrow], fun _ => by simp only [go_sem, rrow]⟩) ?_
  rintro _ h1 ⟨rfl, e2⟩
  subst e2
  simp only [go_sem]
  (first | refine endA_pure0 ?_ | refine endA_pure ?_ (by rfl)) <;> (simp only [go_sem, eltBad] <;> try rfl)
def max3 (a b c : Int) : Int := if c > (if b > a then b else a) then c else (if b > a then b else a)
def tablesOk (s : Setup) : Bool := sharesI [s.pace] && sharesI s.classes && sharesI s.gears && !s.elements.any eltBad && decide (max3 s.elements.length s.classes.length s.gears.length ≤ 8)
theorem c48 (h : List Ob) (s : Setup) (a : SA) (k : SIn h s a) (f : SFit s) : ACalls Tryz.prog 60 [setupV s a] h fun r h' => r = bl (tablesOk s) ∧ h' = h := by
  refine acalls_wp Tryz.f60 [.tmp 2] 38 rfl rfl rfl rfl rfl rfl (by decide) (⟨_, _, ⟨rfl, rfl⟩, .refl⟩) fun B => ?_
  simp only [go_sem, k.w.one, k.e.one, k.c.one, k.g.one, k.r.one, k.t.one]
  refine call_by (c80 _ _ [s.pace] (by simpa using f.pace) (by simp) ⟨by simp only [go_sem, rrow], fun _ => by simp only [go_sem, rrow]⟩) ?_
  rintro _ h1 ⟨rfl, e2⟩
  subst e2
  simp only [go_sem]
  refine ways (fun e => ?_) (fun e => ?_)
  · have e := beq_tt e
    simp only [go_sem, e]
    refine call_by (c80 _ a.c s.classes f.classes f.nc (k.app _).c) ?_
    rintro _ h1 ⟨rfl, e2⟩
    subst e2
    simp only [go_sem, e]
    refine ways (fun e3 => ?_) (fun e3 => ?_)
    · have e3 := beq_tt e3
      simp only [go_sem, e, e3]
      refine call_by (c80 _ a.g s.gears f.gears f.ng (k.app _).g) ?_
      rintro _ h1 ⟨rfl, e2⟩
      subst e2
      simp only [go_sem, e, e3]
      refine ways (fun e4 => ?_) (fun e4 => ?_)
      · have e4 := beq_tt e4
        simp only [go_sem, e, e3, e4]
        refine call_by (c81 _ a.e 108 _ (s.elements.map erow) (fun r => eltBad (rowElt r)) (by simpa using f.ne) (fun r hr => by obtain ⟨p, _, rfl⟩ := List.mem_map.1 hr; rfl) (k.app _).e ?_) ?_
        · intro row hrow L
          obtain ⟨p, hp, rfl⟩ := List.mem_map.1 hrow
          exact c79 p (f.elements p hp) _
        · rintro _ h1 ⟨rfl, e2⟩
          subst e2
          have hany : (s.elements.map erow).any (fun r => eltBad (rowElt r)) = s.elements.any eltBad := by simp only [List.any_map, Function.comp_def, erow, rowElt]
          simp only [go_sem, hany, e, e3, e4]
          refine ways (fun e5 => ?_) (fun e5 => ?_)
          · have e5 := beq_tt e5
            simp only [go_sem, e, e3, e4, e5, (k.app _).e.rows, (k.app _).c.rows, (k.app _).g.rows, List.length_map]
            (first | refine endA_pure0 ?_ | refine endA_pure ?_ (by rfl)) <;> (simp only [go_sem, tablesOk, e, e3, e4, e5, max3] <;> try rfl)
          · have e5 := beq_tf e5
            simp only [go_sem, e, e3, e4, e5]
            (first | refine endA_pure0 ?_ | refine endA_pure ?_ (by rfl)) <;> (simp only [go_sem, tablesOk, e, e3, e4, e5] <;> try rfl)
      · have e4 := beq_tf e4
        simp only [go_sem, e, e3, e4]
        (first | refine endA_pure0 ?_ | refine endA_pure ?_ (by rfl)) <;> (simp only [go_sem, tablesOk, e, e3, e4] <;> try rfl)
    · have e3 := beq_tf e3
      simp only [go_sem, e, e3]
      (first | refine endA_pure0 ?_ | refine endA_pure ?_ (by rfl)) <;> (simp only [go_sem, tablesOk, e, e3] <;> try rfl)
  · have e := beq_tf e
    simp only [go_sem, e]
    (first | refine endA_pure0 ?_ | refine endA_pure ?_ (by rfl)) <;> (simp only [go_sem, tablesOk, e] <;> try rfl)
end Go.Proofs.YtpdghiplnlhnfaaGreat.Ax

namespace Go.Proofs.YtpdghiplnlhnfaaGreat.Ax
set_option linter.unusedSimpArgs false
set_option linter.unusedVariables false
open Go Go.Proofs
set_option maxRecDepth 100000
set_option linter.unusedSimpArgs false
set_option linter.unusedVariables false
def timesOk (s : Setup) : Bool := allI 0 100 [s.allow] && allI 1 3600 [s.unit] && allI 60 57600 [s.cap] && allI 0 86400 [s.paidBreak, s.autoAfter, s.autoBreak, s.nightFrom, s.nightTo, s.fault, s.dayOver] && allI 0 s.dayOver [s.dayReg] && allI 0 604800 [s.weekReg]
theorem c49 (h : List Ob) (s : Setup) (a : SA) (k : SIn h s a) (f : SFit s) : ACalls Tryz.prog 61 [setupV s a] h fun r h' => r = bl (timesOk s) ∧ h' = h := by
  refine acalls_wp Tryz.f61 [.tmp 2] 51 rfl rfl rfl rfl rfl rfl (by decide) (⟨_, _, ⟨rfl, rfl⟩, .refl⟩) fun B => ?_
  simp only [go_sem, k.w.one, k.e.one, k.c.one, k.g.one, k.r.one, k.t.one]
  refine call_by (c77 _ _ 0 100 [s.allow] (by simp) ⟨by simp only [go_sem, irow], fun _ => by simp only [go_sem, irow]⟩) ?_
  rintro _ h1 ⟨rfl, e2⟩
  subst e2
  simp only [go_sem]
  refine ways (fun g0 => ?_) (fun g0 => ?_)
  · have g0 := beq_tt g0
    simp only [go_sem, g0]
    refine call_by (c77 _ _ 1 3600 [s.unit] (by simp) ⟨by simp only [go_sem, irow], fun _ => by simp only [go_sem, irow]⟩) ?_
    rintro _ h1 ⟨rfl, e2⟩
    subst e2
    simp only [go_sem, g0]
    refine ways (fun g1 => ?_) (fun g1 => ?_)
    · have g1 := beq_tt g1
      simp only [go_sem, g0, g1]
      refine call_by (c77 _ _ 60 57600 [s.cap] (by simp) ⟨by simp only [go_sem, irow], fun _ => by simp only [go_sem, irow]⟩) ?_
      rintro _ h1 ⟨rfl, e2⟩
      subst e2
      simp only [go_sem, g0, g1]
      refine ways (fun g2 => ?_) (fun g2 => ?_)
      · have g2 := beq_tt g2
        simp only [go_sem, g0, g1, g2]
        refine call_by (c77 _ _ 0 86400 [s.paidBreak, s.autoAfter, s.autoBreak, s.nightFrom, s.nightTo, s.fault, s.dayOver] (by simp) ⟨by simp only [go_sem, irow], fun _ => by simp only [go_sem, irow]⟩) ?_
        rintro _ h1 ⟨rfl, e2⟩
        subst e2
        simp only [go_sem, g0, g1, g2]
        refine ways (fun g3 => ?_) (fun g3 => ?_)
        · have g3 := beq_tt g3
          simp only [go_sem, g0, g1, g2, g3]
          refine call_by (c77 _ _ 0 _ [s.dayReg] (by simp) ⟨by simp only [go_sem, irow], fun _ => by simp only [go_sem, irow]⟩) ?_
          rintro _ h1 ⟨rfl, e2⟩
          subst e2
          simp only [go_sem, g0, g1, g2, g3]
          refine ways (fun g4 => ?_) (fun g4 => ?_)
          · have g4 := beq_tt g4
            simp only [go_sem, g0, g1, g2, g3, g4]
            refine call_by (c77 _ _ 0 604800 [s.weekReg] (by simp) ⟨by simp only [go_sem, irow], fun _ => by simp only [go_sem, irow]⟩) ?_
            rintro _ h1 ⟨rfl, e2⟩
            subst e2
            simp only [go_sem, g0, g1, g2, g3, g4]
            (first | refine endA_pure0 ?_ | refine endA_pure ?_ (by rfl)) <;> (simp only [go_sem, timesOk, g0, g1, g2, g3, g4] <;> try rfl)
          · have g4 := beq_tf g4
            simp only [go_sem, g0, g1, g2, g3, g4]
            (first | refine endA_pure0 ?_ | refine endA_pure ?_ (by rfl)) <;> (simp only [go_sem, timesOk, g0, g1, g2, g3, g4] <;> try rfl)
        · have g3 := beq_tf g3
          simp only [go_sem, g0, g1, g2, g3]
          (first | refine endA_pure0 ?_ | refine endA_pure ?_ (by rfl)) <;> (simp only [go_sem, timesOk, g0, g1, g2, g3] <;> try rfl)
      · have g2 := beq_tf g2
        simp only [go_sem, g0, g1, g2]
        (first | refine endA_pure0 ?_ | refine endA_pure ?_ (by rfl)) <;> (simp only [go_sem, timesOk, g0, g1, g2] <;> try rfl)
    · have g1 := beq_tf g1
      simp only [go_sem, g0, g1]
      (first | refine endA_pure0 ?_ | refine endA_pure ?_ (by rfl)) <;> (simp only [go_sem, timesOk, g0, g1] <;> try rfl)
  · have g0 := beq_tf g0
    simp only [go_sem, g0]
    (first | refine endA_pure0 ?_ | refine endA_pure ?_ (by rfl)) <;> (simp only [go_sem, timesOk, g0] <;> try rfl)
def tierBad (last : Int) (t : Tier) : Bool := decide (t.1 ≤ last) || decide (t.1 > 1000) || !allI 0 100000 [t.2]
theorem c82 (h : List Ob) (i : Nat) (last : Int) (t : Tier) (hi1 : h[i]? = some (.box 3 [i64 last])) :
    ACalls Tryz.prog 111 [.ag (rrow t), .ptr i 0] h fun r h' => r = bl (tierBad last t) ∧ h' = h.set i (.box 3 [i64 t.1]) := by
  have hb : ∀ M, (h ++ M)[i]? = some (.box 3 [i64 last]) := fun M => get_app_old hi1
  have hs : ∀ M o, (h ++ M).set i o = h.set i o ++ M := fun M o => set_app_old hi1
  have fin : ∀ (T : Env) (M : List Ob) (b : Bool), T 3 = bl b → b = tierBad last t → endA Tryz.prog [.tmp 3] h (fun r h' => r = bl (tierBad last t) ∧ h' = h.set i (.box 3 [i64 t.1])) .ret T (h.set i (.box 3 [i64 t.1]) ++ M) := fun T M b e1 e2 =>
    ⟨bl b, by simp only [go_sem, e1], .inr ⟨_, M, rfl, by simp, rfl, KeepLt.refl.set rfl rfl, by rw [e2], rfl⟩⟩
  refine acalls_wp Tryz.f111 [.tmp 3] 24 rfl rfl rfl rfl rfl rfl (by decide) (⟨_, _, ⟨rfl, rfl⟩, resK_set hi1 rfl⟩) fun B => ?_
  simp only [go_sem, hi1, rrow, hb]
  refine ways (fun e => ?_) (fun e => ?_)
  · have e := beq_ft e
    simp only [go_sem, e]
    refine ways (fun e3 => ?_) (fun e3 => ?_)
    · have e3 := beq_ft e3
      simp only [go_sem, e, e3]
      refine call_by (c77 _ _ 0 100000 [t.2] (by simp) ⟨by simp only [go_sem, irow], fun _ => by simp only [go_sem, irow]⟩) ?_
      rintro _ h1 ⟨rfl, e2⟩
      subst e2
      simp only [go_sem, e, e3, hb, hs]
      refine fin _ _ (!allI 0 100000 [t.2]) ?_ ?_
      · simp only [go_sem]
      · simp only [tierBad, e, e3, Bool.false_or]
    · have e3 := beq_ff e3
      simp only [go_sem, e, e3, hb, hs]
      refine fin _ _ true ?_ ?_
      · simp only [go_sem]
      · simp only [tierBad, e, e3, Bool.false_or, Bool.true_or]
  · have e := beq_ff e
    simp only [go_sem, e, hb, hs]
    refine fin _ _ true ?_ ?_
    · simp only [go_sem]
    · simp only [tierBad, e, Bool.true_or]
def tiersBad : Int → List Tier → Bool
  | _, [] => false
  | last, t :: l => tierBad last t || tiersBad t.1 l
theorem c104 (h : List Ob) (x : AV) (i : Nat) (last : Int) (l : List Tier) (hn : l.length < 1099511627776) (hx : ∀ o, SlOf (h.set i o) x 2 (l.map rrow)) (hi1 : h[i]? = some (.box 3 [i64 last])) :
    ACalls Tryz.prog 142 [x, .fn (.func 111) [] [.ptr i 0]] h fun r h' => ∃ n last', r = i64 n ∧ h' = h.set i (.box 3 [i64 last']) ∧ decide (n ≥ 0) = tiersBad last l := by
  have hself : h.set i (.box 3 [i64 last]) = h := by
    apply List.ext_getElem?
    intro j
    by_cases hj : j = i
    · subst hj; rw [get_set_same hi1, hi1]
    · rw [List.getElem?_set_ne (fun e => hj e.symm)]
  have hx0 := hx (.box 3 [i64 last])
  rw [hself] at hx0
  refine acalls_wp Tryz.f142 [.tmp 4] 19 rfl rfl rfl rfl rfl rfl (by decide) (⟨_, _, ⟨if tiersBad last l then 0 else -1, last, rfl, rfl, by split <;> simp_all⟩, resK_set hi1 rfl⟩) fun B => ?_
  simp only [go_sem, hx0.rows, List.length_map]
  refine wp_loop_a (by decide) (fun n T h' => ∃ (k : Nat) (la : Int), h' = h.set i (.box 3 [i64 la]) ∧ T 0 = x ∧ T 1 = .fn (.func 111) [] [.ptr i 0] ∧ T 7 = i64 l.length ∧ T 8 = i64 k ∧ k ≤ l.length ∧ tiersBad last l = tiersBad la (l.drop k) ∧ n = l.length - k) l.length
    ⟨0, last, hself.symm, by simp only [go_sem], by simp only [go_sem], by simp only [go_sem], by (simp only [go_sem] <;> rfl), by omega, rfl, rfl⟩ ?_
  rintro n T h' ⟨k, la, rfl, t0, t1, t7, t8, hk, h0, rfl⟩
  have hla := get_set_same (b := Ob.box 3 [i64 la]) hi1
  have hset : ∀ o, (h.set i (.box 3 [i64 la])).set i o = h.set i o := fun o => List.set_set ..
  have hxk := hx (.box 3 [i64 la])
  simp only [go_sem, t7, t8]
  refine ways (fun e1 => ?_) (fun e1 => ?_)
  · have hlt : k < l.length := by simpa using e1
    have hee := hxk.at (i := k) (by simpa using hlt)
    have hrow : (l.map rrow)[k]? = some (rrow l[k]) := by simp [hlt]
    have hkl : (k : Int) < l.length := by omega
    have hc := c82 (h.set i (.box 3 [i64 la])) i la l[k] hla
    rw [hset] at hc
    simp only [rrow] at hrow hc
    rw [List.drop_eq_getElem_cons hlt] at h0
    simp only [go_sem, hee, hxk.rows, hrow, hkl, t0, t1, t7, t8, Int.toNat_natCast, Int.natCast_nonneg, List.length_map]
    refine call_by hc ?_
    rintro _ h1 ⟨rfl, e2⟩
    subst e2
    simp only [go_sem]
    refine ways (fun e3 => ?_) (fun e3 => ?_)
    · simp only [go_sem, t8]
      exact ⟨i64 k, by simp only [go_sem], .inl ⟨k, l[k].1, rfl, rfl, by rw [h0]; simp [tiersBad, e3]⟩⟩
    · simp only [go_sem, t8, wr_succ (show k < 4611686018427387904 by omega)]
      refine ⟨l.length - (k + 1), by omega, k + 1, l[k].1, rfl, t0, t1, t7, rfl, by omega, ?_, rfl⟩
      rw [h0]; simp [tiersBad, e3]
  · have hlt : k = l.length := by
      have : ¬ (k : Int) < l.length := by simpa using e1
      omega
    rw [hlt, List.drop_length] at h0
    simp only [go_sem]
    exact ⟨i64 (-1), by simp only [go_sem], .inl ⟨-1, la, rfl, rfl, by rw [h0]; rfl⟩⟩
theorem c83 (h : List Ob) (x : AV) (i : Nat) (last : Int) (l : List Tier) (hn : l.length < 1099511627776) (hx : ∀ o, SlOf (h.set i o) x 2 (l.map rrow)) (hi1 : h[i]? = some (.box 3 [i64 last])) :
    ACalls Tryz.prog 112 [x, .fn (.func 111) [] [.ptr i 0]] h fun r h' => r = bl (tiersBad last l) ∧ ∃ last', h' = h.set i (.box 3 [i64 last']) := by
  refine acalls_wp Tryz.f112 [.tmp 4] 9 rfl rfl rfl rfl rfl rfl (by decide) (⟨_, _, ⟨rfl, last, rfl⟩, resK_set hi1 rfl⟩) fun B => ?_
  simp only [go_sem]
  refine call_by (c104 h x i last l hn hx hi1) ?_
  rintro _ h1 ⟨n, la, rfl, e2, e3⟩
  subst e2
  simp only [go_sem, e3]
  exact ⟨bl (tiersBad last l), by simp only [go_sem], .inl ⟨rfl, la, rfl⟩⟩
def moneyOk (s : Setup) : Bool := decide ((s.rates.length : Int) > 0) && decide ((s.rates.length : Int) ≤ 16) && allI 0 100000 s.rates && allI 0 100000 [s.diff, s.least] && decide ((s.tiers.length : Int) ≤ 8) && !tiersBad (-1) s.tiers
theorem c50 (h : List Ob) (s : Setup) (a : SA) (k : SIn h s a) (f : SFit s) : ACalls Tryz.prog 62 [setupV s a] h fun r h' => r = bl (moneyOk s) ∧ h' = h := by
  refine acalls_wp Tryz.f62 [.tmp 2] 42 rfl rfl rfl rfl rfl rfl (by decide) (⟨_, _, ⟨rfl, rfl⟩, .refl⟩) fun B => ?_
  simp only [go_sem, k.w.one, k.e.one, k.c.one, k.g.one, k.r.one, k.t.one, (k.app _).r.rows, List.length_map]
  refine ways (fun g0 => ?_) (fun g0 => ?_)
  · have g0 := beq_tt g0
    simp only [go_sem, g0, (k.app _).r.rows, (k.app _).t.rows, List.length_map]
    refine ways (fun g1 => ?_) (fun g1 => ?_)
    · have g1 := beq_tt g1
      simp only [go_sem, g0, g1, (k.app _).r.rows, (k.app _).t.rows, List.length_map]
      refine call_by (c77 _ a.r 0 100000 s.rates f.nr (k.app _).r) ?_
      rintro _ h1 ⟨rfl, e2⟩
      subst e2
      simp only [go_sem, g0, g1, (k.app _).r.rows, (k.app _).t.rows, List.length_map]
      refine ways (fun g2 => ?_) (fun g2 => ?_)
      · have g2 := beq_tt g2
        simp only [go_sem, g0, g1, g2, (k.app _).r.rows, (k.app _).t.rows, List.length_map]
        refine call_by (c77 _ _ 0 100000 [s.diff, s.least] (by simp) ⟨by simp only [go_sem, irow], fun _ => by simp only [go_sem, irow]⟩) ?_
        rintro _ h1 ⟨rfl, e2⟩
        subst e2
        simp only [go_sem, g0, g1, g2, (k.app _).r.rows, (k.app _).t.rows, List.length_map]
        refine ways (fun g3 => ?_) (fun g3 => ?_)
        · have g3 := beq_tt g3
          simp only [go_sem, g0, g1, g2, g3, (k.app _).r.rows, (k.app _).t.rows, List.length_map]
          refine ways (fun g4 => ?_) (fun g4 => ?_)
          · have g4 := beq_tt g4
            simp only [go_sem, g0, g1, g2, g3, g4, (k.app _).r.rows, (k.app _).t.rows, List.length_map]
            refine call_by (c83 _ a.t _ (-1) s.tiers f.nt (fun o => by simp only [go_sem]; exact (k.app _).t) (by simp only [go_sem])) ?_
            rintro _ h1 ⟨rfl, la, e2⟩
            subst e2
            simp only [go_sem, g0, g1, g2, g3, g4, (k.app _).r.rows, (k.app _).t.rows, List.length_map]
            (first | refine endA_pure0 ?_ | refine endA_pure ?_ (by rfl)) <;> (simp only [go_sem, moneyOk, g0, g1, g2, g3, g4, (k.app _).r.rows, (k.app _).t.rows, List.length_map] <;> try rfl)
          · have g4 := beq_tf g4
            simp only [go_sem, g0, g1, g2, g3, g4]
            (first | refine endA_pure0 ?_ | refine endA_pure ?_ (by rfl)) <;> (simp only [go_sem, moneyOk, g0, g1, g2, g3, g4] <;> try rfl)
        · have g3 := beq_tf g3
          simp only [go_sem, g0, g1, g2, g3]
          (first | refine endA_pure0 ?_ | refine endA_pure ?_ (by rfl)) <;> (simp only [go_sem, moneyOk, g0, g1, g2, g3] <;> try rfl)
      · have g2 := beq_tf g2
        simp only [go_sem, g0, g1, g2]
        (first | refine endA_pure0 ?_ | refine endA_pure ?_ (by rfl)) <;> (simp only [go_sem, moneyOk, g0, g1, g2] <;> try rfl)
    · have g1 := beq_tf g1
      simp only [go_sem, g0, g1]
      (first | refine endA_pure0 ?_ | refine endA_pure ?_ (by rfl)) <;> (simp only [go_sem, moneyOk, g0, g1] <;> try rfl)
  · have g0 := beq_tf g0
    simp only [go_sem, g0]
    (first | refine endA_pure0 ?_ | refine endA_pure ?_ (by rfl)) <;> (simp only [go_sem, moneyOk, g0] <;> try rfl)
def setupOk (s : Setup) : Bool := placesOk s && tablesOk s && timesOk s && moneyOk s
theorem c16 (h : List Ob) (s : Setup) (a : SA) (k : SIn h s a) (f : SFit s) : ACalls Tryz.prog 23 [setupV s a] h fun r h' => r = bl (setupOk s) ∧ h' = h := by
  refine acalls_wp Tryz.f23 [.tmp 2] 17 rfl rfl rfl rfl rfl rfl (by decide) (⟨_, _, ⟨rfl, rfl⟩, .refl⟩) fun B => ?_
  simp only [go_sem, k.w.one, k.e.one, k.c.one, k.g.one, k.r.one, k.t.one]
  refine call_by (c47 _ s a (k.app _) f) ?_
  rintro _ h1 ⟨rfl, e2⟩
  subst e2
  simp only [go_sem]
  refine ways (fun g0 => ?_) (fun g0 => ?_)
  · have g0 := beq_tt g0
    simp only [go_sem, g0]
    refine call_by (c48 _ s a (k.app _) f) ?_
    rintro _ h1 ⟨rfl, e2⟩
    subst e2
    simp only [go_sem, g0]
    refine ways (fun g1 => ?_) (fun g1 => ?_)
    · have g1 := beq_tt g1
      simp only [go_sem, g0, g1]
      refine call_by (c49 _ s a (k.app _) f) ?_
      rintro _ h1 ⟨rfl, e2⟩
      subst e2
      simp only [go_sem, g0, g1]
      refine ways (fun g2 => ?_) (fun g2 => ?_)
      · have g2 := beq_tt g2
        simp only [go_sem, g0, g1, g2]
        refine call_by (c50 _ s a (k.app _) f) ?_
        rintro _ h1 ⟨rfl, e2⟩
        subst e2
        simp only [go_sem, g0, g1, g2]
        (first | refine endA_pure0 ?_ | refine endA_pure ?_ (by rfl)) <;> (simp only [go_sem, setupOk, g0, g1, g2] <;> try rfl)
      · have g2 := beq_tf g2
        simp only [go_sem, g0, g1, g2]
        (first | refine endA_pure0 ?_ | refine endA_pure ?_ (by rfl)) <;> (simp only [go_sem, setupOk, g0, g1, g2] <;> try rfl)
    · have g1 := beq_tf g1
      simp only [go_sem, g0, g1]
      (first | refine endA_pure0 ?_ | refine endA_pure ?_ (by rfl)) <;> (simp only [go_sem, setupOk, g0, g1] <;> try rfl)
  · have g0 := beq_tf g0
    simp only [go_sem, g0]
    (first | refine endA_pure0 ?_ | refine endA_pure ?_ (by rfl)) <;> (simp only [go_sem, setupOk, g0] <;> try rfl)
end Go.Proofs.YtpdghiplnlhnfaaGreat.Ax

namespace Go.Proofs.YtpdghiplnlhnfaaGreat.Ax
set_option linter.unusedSimpArgs false
set_option linter.unusedVariables false
open Go Go.Proofs
set_option maxRecDepth 100000
set_option linter.unusedSimpArgs false
set_option linter.unusedVariables false
attribute [go_sem] ty31 ty61 ty145 ty148 ty150 ty170 pe61
structure Ev where
  id : Int
  worker : Int
  at_ : Int
  kind : Int
  from_ : Int
  to_ : Int
  element : Int
  units : Int
  class_ : Int
  gear : Int
  code : Int
abbrev evC (e : Ev) : List AV := [i64 e.id, i64 e.worker, i64 e.at_, i64 e.kind, i64 e.from_, i64 e.to_, i64 e.element, i64 e.units, i64 e.class_, i64 e.gear, i64 e.code]
abbrev evV (e : Ev) : AV := .ag (evC e)
def ownRows (i : Nat) (k : Int) : List (List AV) := if k = 3 then [[.ptr i 4], [.ptr i 5], [.ptr i 6], [.ptr i 7], [.ptr i 8], [.ptr i 9]] else if k = 4 then [[.ptr i 10]] else []
def kindOk (k : Int) : Bool := 1 == k || (2 == k || (3 == k || (4 == k || (5 == k || (6 == k || 7 == k)))))
theorem c71 (h : List Ob) (i : Nat) (e : Ev) (hi : h[i]? = some (.box 61 (evC e))) :
    ACalls Tryz.prog 131 [.ptr i 0] h fun r h' => ∃ L x, h' = h ++ L ∧ r = .tup [x, bl (kindOk e.kind)] ∧ ∀ h2 : List Ob, h2.length = h.length → SlOf (h2 ++ L) x 1 (ownRows i e.kind) := by
  have hb : ∀ M, (h ++ M)[i]? = some (.box 61 (evC e)) := fun M => get_app_old hi
  refine acalls_wp Tryz.f131 [.tmp 2, .tmp 3] 43 rfl rfl rfl rfl rfl rfl (by decide) (⟨_, h, ⟨[], .sl 1 _, by simp, rfl, fun _ _ => ⟨rfl, fun _ => rfl⟩⟩, .refl⟩) fun B => ?_
  simp only [go_sem, hi]
  refine wp_draw rfl [.res, .res, .res] 3 [(6, 0, []), (7, 0, []), (8, 0, []), (9, 0, []), (10, 0, []), (11, 0, []), (12, 0, []), (13, 0, []), (14, 0, []), (15, 0, []), (16, 0, []), (17, 0, []), (18, 0, []), (19, 0, []), (20, 0, []), (21, 0, []), (22, 0, []), (23, 0, []), (26, 0, []), (27, 0, []), (28, 0, []), (0, 0, []), (1, 0, []), (2, 0, []), (3, 0, []), (4, 0, []), (5, 0, []), (24, 1, []), (25, 0, []), (29, 2, []), (30, 0, []), (31, 0, []), (32, 0, [])] rfl (by decide) (by decide) ?_
  simp only [go_sem, hb]
  refine ⟨.tup [if 1 = e.kind then AV.v (Value.slice none 0 0) else if 2 = e.kind then AV.v (Value.slice none 0 0) else if 3 = e.kind then AV.tl (h.length + 1) 0 else if 4 = e.kind then AV.tl (h.length + 2) 0 else if 5 = e.kind then AV.v (Value.slice none 0 0) else if 6 = e.kind then AV.v (Value.slice none 0 0) else if 7 = e.kind then AV.v (Value.slice none 0 0) else AV.v (Value.slice none 0 0), bl (kindOk e.kind)], by simp only [go_sem, kindOk] <;> rfl, .inl ⟨_, _, rfl, rfl, fun h2 hl => ?_⟩⟩
  rw [← hl]
  by_cases k1 : e.kind = 3
  · rw [ownRows, if_pos k1, k1]
    exact ⟨by simp only [go_sem], fun _ => by simp only [go_sem]⟩
  · by_cases k2 : e.kind = 4
    · rw [ownRows, if_neg k1, if_pos k2, k2]
      exact ⟨by simp only [go_sem], fun _ => by simp only [go_sem]⟩
    · rw [ownRows, if_neg k1, if_neg k2]
      have a1 : ¬ 3 = e.kind := fun h => k1 h.symm
      have a2 : ¬ 4 = e.kind := fun h => k2 h.symm
      simp only [if_neg a1, if_neg a2, ite_self]
      exact ⟨rfl, fun h => absurd rfl h⟩
def leastOk (n most : Int) : Bool := decide (n ≥ 0) && decide (n ≤ most)
theorem c72 (n most : Int) : Pure Tryz.prog 132 [i64 n, i64 most] (bl (leastOk n most)) := fun h => by
  refine acalls_wp Tryz.f132 [.tmp 4] 12 rfl rfl rfl rfl rfl rfl (by decide) (⟨_, _, ⟨rfl, rfl⟩, .refl⟩) fun B => ?_
  simp only [go_sem]
  refine ways (fun e => ?_) (fun e => ?_)
  · have e := beq_tt e
    simp only [go_sem, e]
    (first | refine endA_pure0 ?_ | refine endA_pure ?_ (by rfl)) <;> (simp only [go_sem, leastOk, e] <;> try rfl)
  · have e := beq_tf e
    simp only [go_sem, e]
    (first | refine endA_pure0 ?_ | refine endA_pure ?_ (by rfl)) <;> (simp only [go_sem, leastOk, e] <;> try rfl)
theorem c113 (n : Int) : Pure Tryz.prog 145 [i64 n] (bl false) := fun h => by
  refine acalls_wp Tryz.f145 [.tmp 2] 6 rfl rfl rfl rfl rfl rfl (by decide) (⟨_, _, ⟨rfl, rfl⟩, .refl⟩) fun B => ?_
  simp only [go_sem]
  (first | refine endA_pure0 ?_ | refine endA_pure ?_ (by rfl)) <;> (simp only [go_sem, bne_self_eq_false] <;> try rfl)
def cmpI (a b : Int) : Int := if a < b then -1 else if a > b then 1 else 0
theorem c95 (a b : Int) : Pure Tryz.prog 116 [i64 a, i64 b] (i64 (cmpI a b)) := fun h => by
  refine acalls_wp Tryz.f116 [.tmp 4] 20 rfl rfl rfl rfl rfl rfl (by decide) (⟨_, _, ⟨rfl, rfl⟩, .refl⟩) fun B => ?_
  simp only [go_sem]
  refine call_by (c113 a _) ?_
  rintro _ _ ⟨rfl, rfl⟩
  simp only [go_sem]
  refine call_by (c113 b _) ?_
  rintro _ _ ⟨rfl, rfl⟩
  simp only [go_sem]
  refine ways (fun e => ?_) (fun e => ?_)
  · simp only [go_sem]
    (first | refine endA_pure0 ?_ | refine endA_pure ?_ (by rfl)) <;> (simp only [go_sem, cmpI, of_decide_eq_true e] <;> try rfl)
  · simp only [go_sem]
    refine ways (fun e2 => ?_) (fun e2 => ?_)
    · simp only [go_sem]
      (first | refine endA_pure0 ?_ | refine endA_pure ?_ (by rfl)) <;> (simp only [go_sem, cmpI, of_decide_eq_false e, of_decide_eq_true e2] <;> try rfl)
    · simp only [go_sem]
      (first | refine endA_pure0 ?_ | refine endA_pure ?_ (by rfl)) <;> (simp only [go_sem, cmpI, of_decide_eq_false e, of_decide_eq_false e2] <;> try rfl)
def orI : List Int → Int
  | [] => 0
  | n :: l => if n ≠ 0 then n else orI l
theorem c108 (h : List Ob) (x : AV) (a b : Int) (hx : SlOf h x 1 [[i64 a], [i64 b]]) : ACalls Tryz.prog 130 [x] h fun r h' => r = i64 (orI [a, b]) ∧ h' = h := by
  have he := hx.at (i := 0) (by simp)
  refine acalls_wp Tryz.f130 [.tmp 2] 18 rfl rfl rfl rfl rfl rfl (by decide) (⟨_, _, ⟨rfl, rfl⟩, .refl⟩) fun B => ?_
  simp only [go_sem, hx.rows]
  refine wp_unroll 3 (rnd_succ (by decide) ?_)
  simp only [go_sem, hx.rows, he]
  refine ways (fun e => ?_) (fun e => ?_)
  · simp only [go_sem]
    have e1 : ¬ a = 0 := by simpa using e
    (first | refine endA_pure0 ?_ | refine endA_pure ?_ (by rfl)) <;> (simp only [go_sem, orI, e1, ne_eq, not_false_eq_true] <;> try rfl)
  · have e1 : a = 0 := by simpa using e
    simp only [go_sem]
    refine rnd_succ (by decide) ?_
    simp only [go_sem, hx.rows, he]
    refine ways (fun e2 => ?_) (fun e2 => ?_)
    · simp only [go_sem]
      have e3 : ¬ b = 0 := by simpa using e2
      (first | refine endA_pure0 ?_ | refine endA_pure ?_ (by rfl)) <;> (simp only [go_sem, orI, e1, e3, ne_eq, not_false_eq_true, not_true_eq_false] <;> try rfl)
    · have e3 : b = 0 := by simpa using e2
      simp only [go_sem]
      refine rnd_succ (by decide) ?_
      simp only [go_sem]
      (first | refine endA_pure0 ?_ | refine endA_pure ?_ (by rfl)) <;> (simp only [go_sem, orI, e1, e3, ne_eq, not_false_eq_true, not_true_eq_false] <;> try rfl)
/-- Which event is ahead. -/
def cmpE (a b : Ev) : Int := orI [cmpI a.at_ b.at_, cmpI a.id b.id]
theorem c89 (a b : Ev) : Pure Tryz.prog 96 [evV a, evV b] (i64 (cmpE a b)) := fun h => by
  refine acalls_wp Tryz.f96 [.tmp 4] 17 rfl rfl rfl rfl rfl rfl (by decide) (⟨_, _, ⟨rfl, rfl⟩, .refl⟩) fun B => ?_
  simp only [go_sem]
  refine wp_draw rfl [.res] 1 [(0, 0, []), (2, 0, []), (5, 0, []), (7, 0, []), (1, 0, []), (3, 0, []), (6, 0, []), (8, 0, []), (4, 0, [6, 8]), (9, 0, []), (10, 0, []), (11, 0, []), (12, 0, [])] rfl (by decide) (by decide) ?_
  simp only [go_sem]
  refine call_by (c95 a.at_ b.at_ _) ?_
  rintro _ h1 ⟨rfl, e2⟩
  subst e2
  simp only [go_sem]
  refine call_by (c95 a.id b.id _) ?_
  rintro _ h1 ⟨rfl, e2⟩
  subst e2
  simp only [go_sem]
  refine call_by (c108 _ _ (cmpI a.at_ b.at_) (cmpI a.id b.id) ⟨by simp only [go_sem], fun _ => by simp only [go_sem]⟩) ?_
  rintro _ h1 ⟨rfl, e2⟩
  subst e2
  simp only [go_sem]
  (first | refine endA_pure0 ?_ | refine endA_pure ?_ (by rfl)) <;> (simp only [go_sem, cmpE] <;> try rfl)
end Go.Proofs.YtpdghiplnlhnfaaGreat.Ax
