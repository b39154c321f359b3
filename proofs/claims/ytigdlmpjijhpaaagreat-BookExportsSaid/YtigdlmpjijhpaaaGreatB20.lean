import Derived.Test.YtigdlmpjijhpaaaGreatBA
import Derived.Test.YtigdlmpjijhpaaaGreatB19
set_option linter.all false
namespace Go.Proofs.YtigdlmpjijhpaaaGreat.Ax
open Go Go.Proofs
set_option maxRecDepth 100000
attribute [go_sem] zQb WMa
structure Spn where
 from_:Int
 to_:Int
abbrev qE(x:Spn):List AV:=[i64 x.from_,i64 x.to_]
attribute [go_sem] KGa KIa Q2a Zla KJa
def jRa(s:Setup):Bool:=decide (s.ways.length<=100/\s.elements.length<=100/\s.classes.length<=100/\s.gears.length<=100/\s.rates.length<=100/\s.tiers.length<=100)
theorem c25(h:List Ob)(s:Setup)(a:SA)(k:SIn h s a):ACalls Tryz.prog 44 [je s a] h λr h'=>r=bl (jRa s)/\h'=h:=by
 have m:∀M,z6 (h++M) a.w=_:=λM=>(k.app M).w.rows
 have d:∀M,z6 (h++M) a.e=_:=λM=>(k.app M).e.rows
 have f:∀M,z6 (h++M) a.c=_:=λM=>(k.app M).c.rows
 have j:∀M,z6 (h++M) a.g=_:=λM=>(k.app M).g.rows
 have l:∀M,z6 (h++M) a.r=_:=λM=>(k.app M).r.rows
 have i:∀M,z6 (h++M) a.t=_:=λM=>(k.app M).t.rows
 refine zj Tryz.f44 [.tmp 2] 23 rfl rfl rfl rfl rfl rfl (by decide) (⟨_,_,⟨rfl,rfl⟩,.refl⟩) λB=>?_
 simp only[go_sem,k.w.one,k.e.one,k.c.one,k.g.one,k.r.one,k.t.one,m,d,f,j,l,i,zb,QM]
 have b:decide (max (max (max (max (max (s.ways.length:Int) s.elements.length) s.classes.length) s.gears.length) s.rates.length) (s.tiers.length:Int)<=100)=jRa s:=by
  unfold jRa
  exact decide_eq_decide.2 (by omega)
 rw[<-b]
 refine zm ?_<;>(simp only[go_sem]<;>try rfl)
