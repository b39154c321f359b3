import Derived.Test.YtigdlmpjijhpaaaGreatKA
import Derived.Test.YtigdlmpjijhpaaaGreatProg
import Derived.Shelf.RegionOpenPlain
import Derived.WalkKit
import Derived.Deep.LoopGhost
import Derived.Deep.RegionLaw
import Derived.Lib.Walk
import Derived.Sort.WalkB12
import Derived.Lib.SliceRun
import Derived.Lib.SlicesDelete
import Derived.Laws.CopyOwn
set_option linter.all false
namespace Go.Proofs.YtigdlmpjijhpaaaGreat.Ax
open Go Go.Proofs Go.Shelf Go.RowKit Go.Lib Go.Sort
set_option maxRecDepth 1000000
def JG(cur:Array Value)(o:Nat)(vs:List Value):Array Value:=(cur.toList.take o++vs++cur.toList.drop (o+vs.length)).toArray
theorem Yc{cur:Array Value}{o:Nat}{vs:List Value}(h:o+vs.length<=cur.size):(JG cur o vs).size=cur.size:=by
 simp[JG]
 omega
theorem WP{P:Program}(w:World)(t ty e:TypeId)(i:TypeInfo)(l:P.underlying t=some (.slice e))(hi:P.info? e=some i)(b:Nat)(T:TypeId)(cur:Array Value)(k:w.heap[b]? =some (.cells cur T (0,0)))
  (n cap:Nat) (A:Addr) (m c:Nat) (news:List Value) (o:news.length=m*i.size) (a:∀j u,news[j]? =some u->w.cell? (A.add j)=some u) (p:∀u∈news,u.oneCell'=true) (d:n+m<=cap) (h:n*i.size+news.length<=cur.size):
  (Builtin.append_ #[t,t] ty #[.slice (some ⟨b,0,none⟩) n cap,.slice (some A) m c]).run P w= .ok (.slice (some ⟨b,0,none⟩) (n+m) cap) (w.setRow b (JG cur (n*i.size) news)):=by
 have g:=run_firstCells_some (P:=P) w i.size m A m c news o a
 have f:=run_storeCells_at P b (n*i.size) T news 0 cur w k (by omega) p
 simp only[Nat.add_zero] at f
 simp[Builtin.append_,run_underlying l,sizeOf,typeInfo,hi,Builtin.lenOf,d,g,Addr.add_lit,f,JG]
theorem Yd{P:Program}(w:World)(t ty e:TypeId)(z:Value)(j:P.underlying t=some (.slice e))(l:∀w,(zeroValue e).run P w= .ok z w)(b:Nat)(T:TypeId)(cur:Array Value)(i:w.heap[b]? =some (.cells cur T (0,0)))(o c:Nat)
  (h:∀u∈z.cells.toList,u.oneCell'=true) (f:o+z.cells.size<=cur.size):
  (Builtin.clear_ #[t] ty #[.slice (some ⟨b,o,none⟩) 1 c]).run P w= .ok (.tuple #[]) (w.setRow b (JG cur o z.cells.toList)):=by
 have g:(Builtin.zeroCells z.cells 1).toList=z.cells.toList:=by
  apply List.ext_getElem
  ·simp[Builtin.zeroCells]
  ·intro k h d
   have d:k<z.cells.size:=by simpa using d
   simp[Builtin.zeroCells,Nat.mod_eq_of_lt d,d]
 have a:=run_storeCells_at P b o T z.cells.toList 0 cur w i (by simpa using f) h
 simp only[Nat.add_zero] at a
 simp[Builtin.clear_,run_underlying j,l,g,a,JG]
theorem Vy{P:Program}{ops:Array Oper}{o:Oper}{a:Act}{w:World}{K:Act->World->Prop}{Q:Exit->Act->World->Prop}{E:Prop}
  (f:o.guard=none) (s x:Operand) (t:TypeId) (c:o.op=Op.call { callee:=Callee.builtin Builtin.append,args:= #[s,x],argTypes:= #[t,t] })
  (v:Value) (w':World) (b:(Builtin.append_ #[t,t] o.type #[a.eval s,a.eval x]).run P w= .ok v w') (d:K (a.put o.dst v) w'):
  if Region.wanted o (yielded ops a.tmps)=true then Oper.wp P o a w K Q else E:=by
 have e:Region.wanted o (yielded ops a.tmps)=true:=by simp[Region.wanted,f]
 rw[if_pos e]
 unfold Oper.wp
 simp[execOp,c,resolve,invoke,builtin,b,Result.andThen]
 exact d
set_option maxHeartbeats 4000000 in
theorem xhb(blk cap i j n:Nat)(cur:Array Value)(w:World)(t:w.heap[blk]? =some (.cells cur 75 (0,0)))(r:n<=cap)(q:cap<=9223372036854775807)(s:cur.size=cap*11)(p:i+1=j)(h:j<=n)
  (A:Addr) (u:(if cap=j then some (⟨blk,0,none⟩:Addr) else some ⟨blk,j*11,none⟩)=some A) (b d:World) (a:(Builtin.append_ #[31,31] 31 #[.slice (some ⟨blk,0,none⟩) i cap,.slice (some A) (n - j) (cap - j)]).run Tryz.prog w.drew= .ok (.slice (some ⟨blk,0,none⟩) (i+(n - j)) cap) b)
  (g:∀ty,(Builtin.clear_ #[31] ty #[.slice (some ⟨blk,(i+(n - j))*11,none⟩) (n - (i+(n - j))) (cap - (i+(n - j)))]).run Tryz.prog b= .ok (.tuple #[]) d):
  Calls Tryz.prog 221 #[.slice (some ⟨blk,0,none⟩) n cap,.int .i64 i,.int .i64 j] w λe w'=>e= .returned (.slice (some ⟨blk,0,none⟩) (i+(n - j)) cap)/\w'=d:=by
 have mixed:Tryz.prog.follows .mixedOrders=true:=by kernel_rfl
 have m:i<=cap:=by omega
 have o:j<=cap:=by omega
 have c:i<=j:=by omega
 have k:¬ i=j:=by omega
 have l:i+(n - j)<=cap:=by omega
 have f:i+(n - j)<=n:=by omega
 go_enter Tryz.func221,Tryz.ntmps221
 go_wp2_with fail
 go_region_law_o (refine Vy rfl (.tmp 22) (.tmp 25) 31 rfl (.slice (some ⟨blk,0,none⟩) (i+(n - j)) cap) b (by simp[Act.eval,Act.put];exact a) ?_)
 go_wp2
 go_ret
 exact⟨rfl,rfl⟩
