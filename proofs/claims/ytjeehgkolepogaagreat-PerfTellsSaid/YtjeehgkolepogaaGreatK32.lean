import Derived.Test.YtjeehgkolepogaaGreatK31
set_option linter.all false
namespace Go.Proofs.YtjeehgkolepogaaGreat.Ax
open Go Go.RowKit Go.ChangeShapes Go.WideShapes
def kSa{α:Type}:∀ {l:List α},l.length=2->∃a b,l=[a,b]
 | [a,b],_=>⟨a,b,rfl⟩
def InRat(v:Value):Prop:=∃p:zL,v= .agg #[.int .i64 p.1,.int .i64 p.2]/\qp p
section
variable {H:Type} {enc:TypeId × Value->H} {w:World} {base:Nat} {held:Bool}
set_option maxRecDepth 100000 in
def ratV_in{r:Reach}{l:Nat}{v:Value}{d:DataW H}{p:List MemPlace}(g:Value.okWide Tryz.prog w r l 24 v)(h:DataW.Trod enc Tryz.prog w base (λ_=>true) held 24 v d p):InRat v:=by
 simp only[Value.okWide,Tryz.underlying24] at g;obtain⟨i,rfl,_,_⟩:=g;obtain⟨b,a⟩:=h;have a:DataW.trod enc Tryz.prog w base (λ_=>true) held b 24 i.toList=some (d,p):=by simpa [Value.cells] using a
 obtain⟨xs,n,_,_,c,j,q⟩:=DataW.trod_struct Tryz.underlying24 a;have f:Tryz.prog.cellsOf 24=2:=zC;rw[f] at c;obtain⟨L⟩:=i;replace c:L.length=2:=c;replace a:DataW.trod enc Tryz.prog w base (λ_=>true) held b 24 L=some (d,p):=a;obtain⟨v0,v1,e⟩:∃v0 v1,L=[v0,v1]:=kSa c;rw[e] at a⊢;obtain⟨z0,m,rfl,rfl,k,o⟩:=xxa a rfl;exact⟨(z0,m),rfl,k,o⟩
end
def InRat.ar{w:World}{p:zL}:AR (c0 w) (rat p) (.agg #[.int .i64 p.1,.int .i64 p.2]):=⟨_,rfl,_,_,rfl,rfl,_,_,rfl,rfl,rfl⟩
