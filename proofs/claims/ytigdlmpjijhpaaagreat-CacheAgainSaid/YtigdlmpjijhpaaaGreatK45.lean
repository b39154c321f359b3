import Derived.Test.YtigdlmpjijhpaaaGreatKA
import Derived.Test.YtigdlmpjijhpaaaGreatProg
import Derived.Shelf.RegionOpenPlain
import Derived.WalkKit
import Derived.Deep.LoopGhost
import Derived.Deep.RegionLaw
import Derived.Lib.Walk
import Derived.Sort.WalkB12
import Derived.Lib.SliceRun
import Derived.Lib.AppendZeros
import Derived.Lib.AppendZerosOnto
import Derived.Lib.Overlaps
import Derived.Laws.CopyOwn
import Derived.Laws.NewBlocks
set_option linter.all false
namespace Go.Proofs.YtigdlmpjijhpaaaGreat.Ax
open Go Go.Proofs Go.Shelf Go.RowKit Go.Lib Go.Sort
set_option maxRecDepth 1000000
def Qi(cur:Array Value)(o:Nat)(vs:List Value):Array Value:=(cur.toList.take o++vs++cur.toList.drop (o+vs.length)).toArray
theorem Jv{cur:Array Value}{o:Nat}{vs:List Value}(h:o+vs.length<=cur.size):(Qi cur o vs).size=cur.size:=by
 simp[Qi]
 omega
theorem yP{P:Program}(w:World)(t ty e:TypeId)(i:TypeInfo)(g:P.underlying t=some (.slice e))(hi:P.info? e=some i)(b:Nat)(T:TypeId)(cur:Array Value)(f:w.heap[b]? =some (.cells cur T (0,0)))
  (o dl h:Nat) (A:Addr) (sl m n:Nat) (p:Nat.min sl dl=n) (news:List Value) (k:news.length=n*i.size) (a:∀j u,news[j]? =some u->w.cell? (A.add j)=some u) (q:∀u∈news,u.oneCell'=true) (l:o+news.length<=cur.size):
  (Builtin.copy_ #[t,t] ty #[.slice (some ⟨b,o,none⟩) dl h,.slice (some A) sl m]).run P w= .ok (goInt n) (w.setRow b (Qi cur o news)):=by
 have d:=run_loadCells_list (P:=P) w A news a
 have c:=run_storeCells_at P b o T news 0 cur w f (by omega) q
 simp only[Nat.add_zero] at c
 rw[k] at d
 simp[Builtin.copy_,run_underlying g,Builtin.lenOf,Builtin.firstCells,sizeOf,typeInfo,hi,p,d,c,Qi]
theorem Xp{P:Program}{ops:Array Oper}{o:Oper}{a:Act}{w:World}{K:Act->World->Prop}{Q:Exit->Act->World->Prop}{E:Prop}
  (f:o.guard=none) (d s:Operand) (t:TypeId) (c:o.op=Op.call { callee:=Callee.builtin Builtin.copy,args:= #[d,s],argTypes:= #[t,t] })
  (v:Value) (w':World) (b:(Builtin.copy_ #[t,t] o.type #[a.eval d,a.eval s]).run P w= .ok v w') (g:K (a.put o.dst v) w'):
  if Region.wanted o (yielded ops a.tmps)=true then Oper.wp P o a w K Q else E:=by
 have e:Region.wanted o (yielded ops a.tmps)=true:=by simp[Region.wanted,f]
 rw[if_pos e]
 unfold Oper.wp
 simp[execOp,c,resolve,invoke,builtin,b,Result.andThen]
 exact g
theorem QX{P:Program}{w:World}{ops:Array Oper}{rest:List Oper}{o:Oper}{a:Act}{Q:Exit->Act->World->Prop}(b:o.guard=none)(d s:Operand)(t:TypeId)
  (e:o.op= .call { callee:= .builtin .copy,args:= #[d,s],argTypes:= #[t,t] }) (v u:Value) (f:a.eval d=v) (c:a.eval s=u) (v':Value) (w':World)
  (g:(Builtin.copy_ #[t,t] o.type #[v,u]).run P w= .ok v' w') (h:wpList P ops Q rest (a.put o.dst v') w'):wpList P ops Q (o::rest) a w:=
 wpList_plain b λ_ i=>by
  unfold Oper.wp execOp
  simp only[e,resolve,invoke,builtin,Sem.run_bind,Sem.run_pure,Result.andThen_ok,List.map_toArray,List.map_cons,List.map_nil,f,c,g]
  exact i _ _ h
set_option maxHeartbeats 4000000 in
theorem W0a(b n c i a g:Nat)(w:World)(hi:i<n)(l:n+1<=c)(y:c<=9223372036854775807)(r:a≠b)
  (C x:TypeId) (j k:Nat) (p:w.shape? a=some (C,j)) (h:w.shape? b=some (x,k)) (t:k≠0) (u:w.frozen? ⟨a,0,none⟩=false) (o:w.frozen? ⟨a,j,none⟩=false)
  (m A:World)
  (f:∀ty,(Builtin.copy_ #[32,32] ty #[.slice (some ⟨b,(i+1)*27,none⟩) (n - i) (c - (i+1)),.slice (some ⟨b,i*27,none⟩) (n+1 - i) (c - i)]).run Tryz.prog w.drew= .ok (goInt (n - i:Nat)) m)
  (d:∀ty,(Builtin.copy_ #[32,32] ty #[.slice (some ⟨b,i*27,none⟩) (n+1 - i) (c - i),.slice (some ⟨a,0,none⟩) 1 g]).run Tryz.prog m= .ok (goInt (1:Nat)) A):
  Calls Tryz.prog 171 #[.slice (some ⟨b,0,none⟩) n c,.int .i64 i,.slice (some ⟨a,0,none⟩) 1 g] w λe w'=>e= .returned (.slice (some ⟨b,0,none⟩) (n+1) c)/\w'=A:=by
 have mixed:Tryz.prog.follows .mixedOrders=true:=by kernel_rfl
 have N:¬ ((i:Int)=(n:Int)):=by omega
 have E:i<=n:=by omega
 have P:i<=c:=by omega
 have B:i<=n+1:=by omega
 have Q:i+1<=n+1:=by omega
 have O:¬ ((n:Int)+1>(c:Int)):=by omega
 have D:¬ c=i:=by omega
 have z:¬ c=i+1:=by omega
 have H:IntKind.i64.wrap ((n:Int)+1)=(n:Int)+1:=by rw[IntKind.wrap_i64];omega
 have L:IntKind.i64.wrap ((i:Int)+1)=(i:Int)+1:=by rw[IntKind.wrap_i64];omega
 have I:((n:Int)+1).toNat=n+1:=by omega
 have J:((i:Int)+1).toNat=i+1:=by omega
 have R:(0:Int)<=(i:Int)+1:=by omega
 have M:(0:Int)<=(n:Int)+1:=by omega
 have G:(n:Int)+1<=(c:Int):=by omega
 have K:(i:Int)+1<=(n:Int)+1:=by omega
 have F:(i:Int)<=(n:Int)+1:=by omega
 have v:∀q s,(callFunc 225 #[.slice (some ⟨a,0,none⟩) 1 g,.slice (some ⟨b,(i+1)*27,none⟩) q s]).run Tryz.prog w= .ok (.value (.bool false)) w:=λq s=>by
  rw[run_callFunc_extern Tryz.func225 (by kernel_rfl) (by kernel_rfl) (by kernel_rfl) (e:=Extern.SlicesOverlaps.overlaps #[32,32] #[4]) (by kernel_rfl),
   Lib.run_overlaps_apart w 32 4 45 Tryz.underlying32 27 (λw=>by kernel_rfl) ⟨a,0,none⟩ ⟨b,(i+1)*27,none⟩ 1 g q s r C x j k p h t u o]
  rfl
 go_enter Tryz.func171,Tryz.ntmps171
 go_wp2_with (simp only[v])
 go_region_law_o (refine Xp rfl _ _ 32 rfl (goInt (n - i:Nat)) m (by simp[Act.eval,Act.put];exact f _) ?_)
 go_wp2_with (at_builtin;refine QX rfl _ _ 32 rfl _ _ rfl rfl _ _ (d _) ?_)
 go_ret
 exact⟨rfl,rfl⟩
set_option maxHeartbeats 4000000 in
theorem W1a(b n c i p o:Nat)(w:World)(hi:i<n)(A:n<=c)(g:c<n+1)(G:Nat)(H:n+1<=G)(q:G<=9223372036854775807)(j:n<4611686018427387904)
  (k r h:World)
  (d:∀ty,(Builtin.append_ #[32,3] ty #[.slice (some ⟨b,0,none⟩) i c,.int .i64 ((n:Int)+1 - (i:Int))]).run Tryz.prog w= .ok (.slice (some ⟨w.heap.size,0,none⟩) (n+1) G) k)
  (f:∀ty,(Builtin.copy_ #[32,32] ty #[.slice (some ⟨w.heap.size,i*27,none⟩) (n+1 - i) (G - i),.slice (some ⟨p,0,none⟩) 1 o]).run Tryz.prog k= .ok (goInt (1:Nat)) r)
  (a:∀ty,(Builtin.copy_ #[32,32] ty #[.slice (some ⟨w.heap.size,(i+1)*27,none⟩) (n - i) (G - (i+1)),.slice (some ⟨b,i*27,none⟩) (n - i) (c - i)]).run Tryz.prog r.drew= .ok (goInt (n - i:Nat)) h):
  Calls Tryz.prog 171 #[.slice (some ⟨b,0,none⟩) n c,.int .i64 i,.slice (some ⟨p,0,none⟩) 1 o] w λe w'=>e= .returned (.slice (some ⟨w.heap.size,0,none⟩) (n+1) G)/\w'=h:=by
 have mixed:Tryz.prog.follows .mixedOrders=true:=by kernel_rfl
 have C:¬ ((i:Int)=(n:Int)):=by omega
 have u:i<=n:=by omega
 have E:i<=c:=by omega
 have s:i<=n+1:=by omega
 have I:i+1<=n+1:=by omega
 have D:(c:Int)<(n:Int)+1:=by omega
 have t:¬ c=i:=by omega
 have l:¬ G=i:=by omega
 have m:¬ G=i+1:=by omega
 have x:IntKind.i64.wrap ((n:Int)+1)=(n:Int)+1:=by rw[IntKind.wrap_i64];omega
 have B:IntKind.i64.wrap ((i:Int)+1)=(i:Int)+1:=by rw[IntKind.wrap_i64];omega
 have J:IntKind.i64.wrap ((n:Int)+1 - (i:Int))=(n:Int)+1 - (i:Int):=by rw[IntKind.wrap_i64];omega
 have y:((i:Int)+1).toNat=i+1:=by omega
 have K:(0:Int)<=(i:Int)+1:=by omega
 have z:(i:Int)+1<=(n:Int)+1:=by omega
 have v:(i:Int)<=(n:Int)+1:=by omega
 have F:(i:Int)<=(c:Int):=by omega
 go_enter Tryz.func171,Tryz.ntmps171
 go_wp2_with (first
  | (at_builtin;refine Lib.wpList_append_run _ rfl _ _ _ _ rfl _ _ rfl rfl _ _ (d _) ?_)
  | (at_builtin;refine QX rfl _ _ 32 rfl _ _ rfl rfl _ _ (f _) ?_))
 go_region_law_o (refine Xp rfl _ _ 32 rfl (goInt (n - i:Nat)) h (by simp[Act.eval,Act.put];exact a _) ?_)
 go_wp2
 go_ret
 exact⟨rfl,rfl⟩
