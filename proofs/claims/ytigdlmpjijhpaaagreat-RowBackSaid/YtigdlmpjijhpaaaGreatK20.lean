import Derived.Test.YtigdlmpjijhpaaaGreatKA
import Derived.Test.YtigdlmpjijhpaaaGreatK19
set_option linter.all false
namespace Go.Proofs.YtigdlmpjijhpaaaGreat.Ax
open Go Go.Proofs
set_option maxRecDepth 100000
attribute [go_sem] Vga Xxa
structure Spn where
 from_:Int
 to_:Int
abbrev qq(x:Spn):List AV:=[i64 x.from_,i64 x.to_]
attribute [go_sem] Q0a Q2a y5a wja Q3a
def x5a(s:Setup):Bool:=decide (s.ways.length<=100/\s.elements.length<=100/\s.classes.length<=100/\s.gears.length<=100/\s.rates.length<=100/\s.tiers.length<=100)
theorem c25(h:List Ob)(s:Setup)(a:SA)(k:SIn h s a):ACalls Tryz.prog 44 [jm s a] h λr h'=>r=bl (x5a s)/\h'=h:=by
 have i:∀M,zZ (h++M) a.w=_:=λM=>(k.app M).w.rows
 have m:∀M,zZ (h++M) a.e=_:=λM=>(k.app M).e.rows
 have f:∀M,zZ (h++M) a.c=_:=λM=>(k.app M).c.rows
 have l:∀M,zZ (h++M) a.g=_:=λM=>(k.app M).g.rows
 have b:∀M,zZ (h++M) a.r=_:=λM=>(k.app M).r.rows
 have d:∀M,zZ (h++M) a.t=_:=λM=>(k.app M).t.rows
 refine zl Tryz.f44 [.tmp 2] 23 rfl rfl rfl rfl rfl rfl (by decide) (⟨_,_,⟨rfl,rfl⟩,.refl⟩) λB=>?_
 simp only[go_sem,k.w.one,k.e.one,k.c.one,k.g.one,k.r.one,k.t.one,i,m,f,l,b,d,zb,ZW]
 have j:decide (max (max (max (max (max (s.ways.length:Int) s.elements.length) s.classes.length) s.gears.length) s.rates.length) (s.tiers.length:Int)<=100)=x5a s:=by
  unfold x5a
  exact decide_eq_decide.2 (by omega)
 rw[<-j]
 refine zk ?_<;>(simp only[go_sem]<;>try rfl)
