/-
  Joined.
-/
import Derived.Test.YtigdlmpjijhpaaaGreatK19
set_option linter.unusedSimpArgs false
set_option linter.unusedVariables false
namespace Go.Proofs.YtigdlmpjijhpaaaGreat.Ax
open Go Go.Proofs
set_option maxRecDepth 100000
attribute [go_sem] Z6a ywa
structure Spn where
 from_:Int
 to_:Int
abbrev zz (x:Spn):List AV:=[i64 x.from_,i64 x.to_]
set_option maxRecDepth 100000
attribute [go_sem] v3a v5a xPa jla v6a
def zVa (s:Setup):Bool:=decide (s.ways.length<=100/\s.elements.length<=100/\s.classes.length<=100/\s.gears.length<=100/\s.rates.length<=100/\s.tiers.length<=100)
theorem c25 (h:List Ob) (s:Setup) (a:SA) (k:SIn h s a):ACalls Tryz.prog 44 [qj s a] h λr h'=>r=bl (zVa s)/\h'=h:=by
 have i:∀M,zo (h++M) a.w=_:=λM=>(k.app M).w.rows
 have j:∀M,zo (h++M) a.e=_:=λM=>(k.app M).e.rows
 have b:∀M,zo (h++M) a.c=_:=λM=>(k.app M).c.rows
 have m:∀M,zo (h++M) a.g=_:=λM=>(k.app M).g.rows
 have l:∀M,zo (h++M) a.r=_:=λM=>(k.app M).r.rows
 have d:∀M,zo (h++M) a.t=_:=λM=>(k.app M).t.rows
 refine zf Tryz.f44 [.tmp 2] 23 rfl rfl rfl rfl rfl rfl (by decide) (⟨_,_,⟨rfl,rfl⟩,.refl⟩) λB=>?_
 simp only[go_sem,k.w.one,k.e.one,k.c.one,k.g.one,k.r.one,k.t.one,i,j,b,m,l,d,List.length_map,yb]
 have f:decide (max (max (max (max (max (s.ways.length:Int) s.elements.length) s.classes.length) s.gears.length) s.rates.length) (s.tiers.length:Int)<=100)=zVa s:=by
  unfold zVa
  exact decide_eq_decide.2 (by omega)
 rw[<-f]
 (first | refine zc ?_ | refine ze ?_ (by rfl))<;>(simp only[go_sem]<;>try rfl)
end Go.Proofs.YtigdlmpjijhpaaaGreat.Ax
