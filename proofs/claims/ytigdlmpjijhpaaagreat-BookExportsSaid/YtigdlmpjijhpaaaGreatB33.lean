import Derived.Test.YtigdlmpjijhpaaaGreatBA
import Derived.Test.YtigdlmpjijhpaaaGreatProg
import Derived.Shelf.RegionOpenPlain
import Derived.WalkKit
import Derived.Deep.LoopGhost
import Derived.Deep.RegionLaw
import Derived.Lib.Walk
import Derived.Sort.WalkB12
import Derived.Lib.SliceRun
import Derived.Lib.SlicesDelete
import Derived.Laws.CopyOwn
set_option linter.all false
namespace Go.Proofs.YtigdlmpjijhpaaaGreat.Ax
open Go Go.Proofs Go.Shelf Go.RowKit Go.Lib Go.Sort
set_option maxRecDepth 1000000
def Jl(cur:Array Value)(o:Nat)(vs:List Value):Array Value:=(cur.toList.take o++vs++cur.toList.drop (o+vs.length)).toArray
theorem W4{cur:Array Value}{o:Nat}{vs:List Value}(h:o+vs.length<=cur.size):(Jl cur o vs).size=cur.size:=by
 simp[Jl]
 omega
theorem WF{P:Program}(w:World)(t ty e:TypeId)(i:TypeInfo)(o:P.underlying t=some (.slice e))(hi:P.info? e=some i)(b:Nat)(T:TypeId)(cur:Array Value)(l:w.heap[b]? =some (.cells cur T (0,0)))
  (n cap:Nat) (A:Addr) (m c:Nat) (news:List Value) (p:news.length=m*i.size) (a:∀j u,news[j]? =some u->w.cell? (A.add j)=some u) (h:∀u∈news,u.oneCell'=true) (d:n+m<=cap) (k:n*i.size+news.length<=cur.size):
  (Builtin.append_ #[t,t] ty #[.slice (some ⟨b,0,none⟩) n cap,.slice (some A) m c]).run P w= .ok (.slice (some ⟨b,0,none⟩) (n+m) cap) (w.setRow b (Jl cur (n*i.size) news)):=by
 have g:=run_firstCells_some (P:=P) w i.size m A m c news p a
 have f:=run_storeCells_at P b (n*i.size) T news 0 cur w l (by omega) h
 simp only[Nat.add_zero] at f
 simp[Builtin.append_,run_underlying o,sizeOf,typeInfo,hi,Builtin.lenOf,d,g,Addr.add_lit,f,Jl]
theorem W5{P:Program}(w:World)(t ty e:TypeId)(z:Value)(l:P.underlying t=some (.slice e))(i:∀w,(zeroValue e).run P w= .ok z w)(b:Nat)(T:TypeId)(cur:Array Value)(j:w.heap[b]? =some (.cells cur T (0,0)))(o c:Nat)
  (h:∀u∈z.cells.toList,u.oneCell'=true) (f:o+z.cells.size<=cur.size):
  (Builtin.clear_ #[t] ty #[.slice (some ⟨b,o,none⟩) 1 c]).run P w= .ok (.tuple #[]) (w.setRow b (Jl cur o z.cells.toList)):=by
 have g:(Builtin.zeroCells z.cells 1).toList=z.cells.toList:=by
  apply List.ext_getElem
  ·simp[Builtin.zeroCells]
  ·intro k h d
   have d:k<z.cells.size:=by simpa using d
   simp[Builtin.zeroCells,Nat.mod_eq_of_lt d,d]
 have a:=run_storeCells_at P b o T z.cells.toList 0 cur w j (by simpa using f) h
 simp only[Nat.add_zero] at a
 simp[Builtin.clear_,run_underlying l,i,g,a,Jl]
theorem Vk{P:Program}{ops:Array Oper}{o:Oper}{a:Act}{w:World}{K:Act->World->Prop}{Q:Exit->Act->World->Prop}{E:Prop}
  (d:o.guard=none) (s x:Operand) (t:TypeId) (c:o.op=Op.call { callee:=Callee.builtin Builtin.append,args:= #[s,x],argTypes:= #[t,t] })
  (v:Value) (w':World) (b:(Builtin.append_ #[t,t] o.type #[a.eval s,a.eval x]).run P w= .ok v w') (f:K (a.put o.dst v) w'):
  if Region.wanted o (yielded ops a.tmps)=true then Oper.wp P o a w K Q else E:=by
 have e:Region.wanted o (yielded ops a.tmps)=true:=by simp[Region.wanted,d]
 rw[if_pos e]
 unfold Oper.wp
 simp[execOp,c,resolve,invoke,builtin,b,Result.andThen]
 exact f
set_option maxHeartbeats 4000000 in
theorem jLb(blk cap i j n:Nat)(cur:Array Value)(w:World)(r:w.heap[blk]? =some (.cells cur 75 (0,0)))(u:n<=cap)(s:cap<=9223372036854775807)(t:cur.size=cap*11)(l:i+1=j)(k:j<=n)
  (A:Addr) (q:(if cap=j then some (⟨blk,0,none⟩:Addr) else some ⟨blk,j*11,none⟩)=some A) (b f:World) (a:(Builtin.append_ #[31,31] 31 #[.slice (some ⟨blk,0,none⟩) i cap,.slice (some A) (n - j) (cap - j)]).run Tryz.prog w.drew= .ok (.slice (some ⟨blk,0,none⟩) (i+(n - j)) cap) b)
  (p:∀ty,(Builtin.clear_ #[31] ty #[.slice (some ⟨blk,(i+(n - j))*11,none⟩) (n - (i+(n - j))) (cap - (i+(n - j)))]).run Tryz.prog b= .ok (.tuple #[]) f):
  Calls Tryz.prog 221 #[.slice (some ⟨blk,0,none⟩) n cap,.int .i64 i,.int .i64 j] w λe w'=>e= .returned (.slice (some ⟨blk,0,none⟩) (i+(n - j)) cap)/\w'=f:=by
 have mixed:Tryz.prog.follows .mixedOrders=true:=by kernel_rfl
 have o:i<=cap:=by omega
 have g:j<=cap:=by omega
 have d:i<=j:=by omega
 have h:¬ i=j:=by omega
 have m:i+(n - j)<=cap:=by omega
 have c:i+(n - j)<=n:=by omega
 go_enter Tryz.func221,Tryz.ntmps221
 go_wp2_with fail
 go_region_law_o (refine Vk rfl (.tmp 22) (.tmp 25) 31 rfl (.slice (some ⟨blk,0,none⟩) (i+(n - j)) cap) b (by simp[Act.eval,Act.put];exact a) ?_)
 go_wp2
 go_ret
 exact⟨rfl,rfl⟩
