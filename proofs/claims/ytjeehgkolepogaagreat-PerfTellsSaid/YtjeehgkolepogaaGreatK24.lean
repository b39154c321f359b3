import Derived.Test.YtjeehgkolepogaaGreatK23
import Derived.Scope
import Derived.Shelf.Bits.Mul64
set_option linter.all false
namespace Go.Proofs.YtjeehgkolepogaaGreat.Ax
open Go Go.RowKit
section
variable {P:Program} {N:Nat} {B:Bs} {T:Env} {h:List Ob} {Q:xk}
def Jl(Q:xk):xk:=λe T h=>match e with
 | .goto _=>False
 | e=>Q e T h
def qda:Jl Q .normal T h=Q .normal T h:=id rfl
def qea:Jl Q .ret T h=Q .ret T h:=id rfl
def qfa{i:Nat}:Jl Q (.exit i) T h=Q (.exit i) T h:=id rfl
def Yh{c:Code}(b:okC N c=true)(k:wpC P N B c (Jl Q) T h): @w8 P N B ⟨(.scope c,Q)⟩ T h:=λφ j w g a r=>by
 refine wp_scope_straight (wp_mono (vk c b k φ j w g a r) λe a' w' ⟨f,h',d,i⟩=>?_)
 cases e<;>first
  | exact⟨f,h',d,i⟩
  | exact d.elim
def qga{a:Bool}{p q:Prop}: @kN (.v undef) a ⟨p⟩ ⟨q⟩=q:=id rfl
def kma{a:Bool}{x:Option AV}:jma (.v undef) a x=some (.v undef):=id rfl
end
attribute [go_sem] qda qea qfa qga kma
end Go.Proofs.YtjeehgkolepogaaGreat.Ax
namespace Go.Proofs.YtjeehgkolepogaaGreat.Ax
open Go Go.Proofs Go.Shelf
def YA:Go.Shelf.Ren:=⟨fun|212=>154|263=>169|264=>170|n=>n,fun|46=>164|51=>184|146=>188|53=>186|148=>190|n=>n,fun|n=>n⟩
def vVa:Go.Proofs.Lays.n212 Tryz.prog YA:={
 mixed:=zC
 f212:=Tryz.func154.trans (congrArg some zC)
 f263:=Tryz.func169.trans (congrArg some zC)
 f264:=Tryz.func170.trans (congrArg some zC)
 t46:=Tryz.underlying164
 a46:=Tryz.isAgg164
 z46:=Tryz.sizeOf164
 v46:=Tryz.zeroValue164
 t51:=Tryz.underlying184
 a51:=Tryz.isAgg184
 z51:=Tryz.sizeOf184
 v51:=Tryz.zeroValue184
 t53:=Tryz.underlying186
 a53:=Tryz.isAgg186
 z53:=Tryz.sizeOf186
 v53:=Tryz.zeroValue186
 t146:=Tryz.underlying188
 a146:=Tryz.isAgg188
 z146:=Tryz.sizeOf188
 v146:=Tryz.zeroValue188
 t148:=Tryz.underlying190
 a148:=Tryz.isAgg190
 z148:=Tryz.sizeOf190
 v148:=Tryz.zeroValue190 }
def xpa(x y:Nat)(b:x<18446744073709551616)(c:y<18446744073709551616)(w:World):Calls Tryz.prog 154 #[.int .u64 x,.int .u64 y] w λe w'=>e= .returned (.tuple #[.int .u64 ((x*y / 18446744073709551616:Nat):Int),.int .u64 ((x*y % 18446744073709551616:Nat):Int)])/\w'=w:=by
 have a:=Any.bits_Mul vVa x y b c w;exact a
abbrev u64(n:Int):AV:= .v (.int .u64 n)
def ywa(x y:Nat)(i:x<18446744073709551616)(f:y<18446744073709551616):js Tryz.prog 154 [u64 x,u64 y] (.tup [u64 ((x*y / 18446744073709551616:Nat):Int),u64 ((x*y % 18446744073709551616:Nat):Int)]):=λh=>by
 refine⟨zC,⟨_,_,⟨rfl,rfl⟩,.refl⟩,?_⟩;intro φ n B w g vs j hB a;obtain⟨v1,m,rfl,d,l,k,rfl,c,b⟩:=a;have b:k=[]:=b;subst b;have d:v1= .int .u64 x:=d;have c:l= .int .u64 y:=c;subst d;subst c;refine(xpa x y i f w).mono ?_;rintro e w' ⟨rfl,rfl⟩;exact⟨_,_,_,_,rfl,⟨rfl,rfl⟩,.refl,Good.refl j hB,_,rfl,_,_,rfl,rfl,_,_,rfl,rfl,rfl⟩
