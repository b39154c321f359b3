import Derived.Test.YtigdlmpjijhpaaaGreatKA
import Derived.Test.YtigdlmpjijhpaaaGreatK19
set_option linter.all false
namespace Go.Proofs.YtigdlmpjijhpaaaGreat.Ax
open Go Go.Proofs
set_option maxRecDepth 100000
attribute [go_sem] qkb Yca
structure Spn where
 from_:Int
 to_:Int
abbrev qJ(x:Spn):List AV:=[i64 x.from_,i64 x.to_]
attribute [go_sem] K7a K9a Joa Zwa Vaa
def jYa(s:Setup):Bool:=decide (s.ways.length<=100/\s.elements.length<=100/\s.classes.length<=100/\s.gears.length<=100/\s.rates.length<=100/\s.tiers.length<=100)
theorem c25(h:List Ob)(s:Setup)(a:SA)(k:SIn h s a):ACalls Tryz.prog 44 [jg s a] h λr h'=>r=bl (jYa s)/\h'=h:=by
 have m:∀M,qc (h++M) a.w=_:=λM=>(k.app M).w.rows
 have d:∀M,qc (h++M) a.e=_:=λM=>(k.app M).e.rows
 have b:∀M,qc (h++M) a.c=_:=λM=>(k.app M).c.rows
 have j:∀M,qc (h++M) a.g=_:=λM=>(k.app M).g.rows
 have l:∀M,qc (h++M) a.r=_:=λM=>(k.app M).r.rows
 have f:∀M,qc (h++M) a.t=_:=λM=>(k.app M).t.rows
 refine zj Tryz.f44 [.tmp 2] 23 rfl rfl rfl rfl rfl rfl (by decide) (⟨_,_,⟨rfl,rfl⟩,.refl⟩) λB=>?_
 simp only[go_sem,k.w.one,k.e.one,k.c.one,k.g.one,k.r.one,k.t.one,m,d,b,j,l,f,zb,Q6]
 have i:decide (max (max (max (max (max (s.ways.length:Int) s.elements.length) s.classes.length) s.gears.length) s.rates.length) (s.tiers.length:Int)<=100)=jYa s:=by
  unfold jYa
  exact decide_eq_decide.2 (by omega)
 rw[<-i]
 refine zn ?_<;>(simp only[go_sem]<;>try rfl)
