/-
  Joined.
-/
import Derived.Test.YtfmldcilgbbimaaGreatK19
set_option linter.unusedSimpArgs false
set_option linter.unusedVariables false
namespace Go.Proofs.YtfmldcilgbbimaaGreat.Ax
open Go Go.Proofs
set_option maxRecDepth 100000
attribute [go_sem] VBa XEa
structure Spn where
 from_:Int
 to_:Int
abbrev zH (x:Spn):List AV:=[i64 x.from_,i64 x.to_]
set_option maxRecDepth 100000
attribute [go_sem] QNa QPa yoa vHa QQa
def Wh (s:Setup):Bool:=decide (s.ways.length<=100/\s.elements.length<=100/\s.classes.length<=100/\s.gears.length<=100/\s.rates.length<=100/\s.tiers.length<=100)
theorem c25 (h:List Ob) (s:Setup) (a:SA) (k:SIn h s a):ACalls Tryz.prog 37 [z6 s a] h λr h'=>r=bl (Wh s)/\h'=h:=by
 have l:∀M,zq (h++M) a.w=_:=λM=>(k.app M).w.rows
 have i:∀M,zq (h++M) a.e=_:=λM=>(k.app M).e.rows
 have j:∀M,zq (h++M) a.c=_:=λM=>(k.app M).c.rows
 have d:∀M,zq (h++M) a.g=_:=λM=>(k.app M).g.rows
 have m:∀M,zq (h++M) a.r=_:=λM=>(k.app M).r.rows
 have f:∀M,zq (h++M) a.t=_:=λM=>(k.app M).t.rows
 refine zf Tryz.f37 [.tmp 2] 23 rfl rfl rfl rfl rfl rfl (by decide) (⟨_,_,⟨rfl,rfl⟩,.refl⟩) λB=>?_
 simp only[go_sem,k.w.one,k.e.one,k.c.one,k.g.one,k.r.one,k.t.one,l,i,j,d,m,f,List.length_map,Zk]
 have b:decide (max (max (max (max (max (s.ways.length:Int) s.elements.length) s.classes.length) s.gears.length) s.rates.length) (s.tiers.length:Int)<=100)=Wh s:=by
  unfold Wh
  exact decide_eq_decide.2 (by omega)
 rw[<-b]
 (first | refine zd ?_ | refine ze ?_ (by rfl))<;>(simp only[go_sem]<;>try rfl)
end Go.Proofs.YtfmldcilgbbimaaGreat.Ax
