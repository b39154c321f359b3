import Derived.Test.YtigdlmpjijhpaaaGreatKA
import Derived.Test.YtigdlmpjijhpaaaGreatProg
import Derived.Shelf.RegionOpenPlain
import Derived.WalkKit
import Derived.Deep.LoopGhost
import Derived.Deep.RegionLaw
import Derived.Lib.Walk
import Derived.Sort.WalkB12
import Derived.Lib.SliceRun
import Derived.Lib.AppendZeros
import Derived.Lib.AppendZerosOnto
import Derived.Lib.Overlaps
import Derived.Laws.CopyOwn
import Derived.Laws.NewBlocks
set_option linter.all false
namespace Go.Proofs.YtigdlmpjijhpaaaGreat.Ax
open Go Go.Proofs Go.Shelf Go.RowKit Go.Lib Go.Sort
set_option maxRecDepth 1000000
def Qg(cur:Array Value)(o:Nat)(vs:List Value):Array Value:=(cur.toList.take o++vs++cur.toList.drop (o+vs.length)).toArray
theorem Ju{cur:Array Value}{o:Nat}{vs:List Value}(h:o+vs.length<=cur.size):(Qg cur o vs).size=cur.size:=by
 simp[Qg]
 omega
theorem yN{P:Program}(w:World)(t ty e:TypeId)(i:TypeInfo)(l:P.underlying t=some (.slice e))(hi:P.info? e=some i)(b:Nat)(T:TypeId)(cur:Array Value)(h:w.heap[b]? =some (.cells cur T (0,0)))
  (o dl k:Nat) (A:Addr) (sl q n:Nat) (g:Nat.min sl dl=n) (news:List Value) (m:news.length=n*i.size) (a:∀j u,news[j]? =some u->w.cell? (A.add j)=some u) (p:∀u∈news,u.oneCell'=true) (f:o+news.length<=cur.size):
  (Builtin.copy_ #[t,t] ty #[.slice (some ⟨b,o,none⟩) dl k,.slice (some A) sl q]).run P w= .ok (goInt n) (w.setRow b (Qg cur o news)):=by
 have d:=run_loadCells_list (P:=P) w A news a
 have c:=run_storeCells_at P b o T news 0 cur w h (by omega) p
 simp only[Nat.add_zero] at c
 rw[m] at d
 simp[Builtin.copy_,run_underlying l,Builtin.lenOf,Builtin.firstCells,sizeOf,typeInfo,hi,g,d,c,Qg]
theorem Xn{P:Program}{ops:Array Oper}{o:Oper}{a:Act}{w:World}{K:Act->World->Prop}{Q:Exit->Act->World->Prop}{E:Prop}
  (g:o.guard=none) (d s:Operand) (t:TypeId) (c:o.op=Op.call { callee:=Callee.builtin Builtin.copy,args:= #[d,s],argTypes:= #[t,t] })
  (v:Value) (w':World) (b:(Builtin.copy_ #[t,t] o.type #[a.eval d,a.eval s]).run P w= .ok v w') (e:K (a.put o.dst v) w'):
  if Region.wanted o (yielded ops a.tmps)=true then Oper.wp P o a w K Q else E:=by
 have f:Region.wanted o (yielded ops a.tmps)=true:=by simp[Region.wanted,g]
 rw[if_pos f]
 unfold Oper.wp
 simp[execOp,c,resolve,invoke,builtin,b,Result.andThen]
 exact e
theorem QV{P:Program}{w:World}{ops:Array Oper}{rest:List Oper}{o:Oper}{a:Act}{Q:Exit->Act->World->Prop}(b:o.guard=none)(d s:Operand)(t:TypeId)
  (i:o.op= .call { callee:= .builtin .copy,args:= #[d,s],argTypes:= #[t,t] }) (v u:Value) (c:a.eval d=v) (e:a.eval s=u) (v':Value) (w':World)
  (f:(Builtin.copy_ #[t,t] o.type #[v,u]).run P w= .ok v' w') (h:wpList P ops Q rest (a.put o.dst v') w'):wpList P ops Q (o::rest) a w:=
 wpList_plain b λ_ g=>by
  unfold Oper.wp execOp
  simp only[i,resolve,invoke,builtin,Sem.run_bind,Sem.run_pure,Result.andThen_ok,List.map_toArray,List.map_cons,List.map_nil,c,e,f]
  exact g _ _ h
set_option maxHeartbeats 4000000 in
theorem WNa(b n c i a g:Nat)(w:World)(hi:i<n)(h:n+1<=c)(B:c<=9223372036854775807)(m:a≠b)
  (y D:TypeId) (q r:Nat) (p:w.shape? a=some (y,q)) (t:w.shape? b=some (D,r)) (u:r≠0) (l:w.frozen? ⟨a,0,none⟩=false) (o:w.frozen? ⟨a,q,none⟩=false)
  (v x:World)
  (f:∀ty,(Builtin.copy_ #[32,32] ty #[.slice (some ⟨b,(i+1)*27,none⟩) (n - i) (c - (i+1)),.slice (some ⟨b,i*27,none⟩) (n+1 - i) (c - i)]).run Tryz.prog w.drew= .ok (goInt (n - i:Nat)) v)
  (d:∀ty,(Builtin.copy_ #[32,32] ty #[.slice (some ⟨b,i*27,none⟩) (n+1 - i) (c - i),.slice (some ⟨a,0,none⟩) 1 g]).run Tryz.prog v= .ok (goInt (1:Nat)) x):
  Calls Tryz.prog 171 #[.slice (some ⟨b,0,none⟩) n c,.int .i64 i,.slice (some ⟨a,0,none⟩) 1 g] w λe w'=>e= .returned (.slice (some ⟨b,0,none⟩) (n+1) c)/\w'=x:=by
 have mixed:Tryz.prog.follows .mixedOrders=true:=by kernel_rfl
 have N:¬ ((i:Int)=(n:Int)):=by omega
 have O:i<=n:=by omega
 have P:i<=c:=by omega
 have z:i<=n+1:=by omega
 have L:i+1<=n+1:=by omega
 have G:¬ ((n:Int)+1>(c:Int)):=by omega
 have C:¬ c=i:=by omega
 have A:¬ c=i+1:=by omega
 have H:IntKind.i64.wrap ((n:Int)+1)=(n:Int)+1:=by rw[IntKind.wrap_i64];omega
 have I:IntKind.i64.wrap ((i:Int)+1)=(i:Int)+1:=by rw[IntKind.wrap_i64];omega
 have Q:((n:Int)+1).toNat=n+1:=by omega
 have R:((i:Int)+1).toNat=i+1:=by omega
 have J:(0:Int)<=(i:Int)+1:=by omega
 have E:(0:Int)<=(n:Int)+1:=by omega
 have K:(n:Int)+1<=(c:Int):=by omega
 have F:(i:Int)+1<=(n:Int)+1:=by omega
 have M:(i:Int)<=(n:Int)+1:=by omega
 have k:∀s j,(callFunc 225 #[.slice (some ⟨a,0,none⟩) 1 g,.slice (some ⟨b,(i+1)*27,none⟩) s j]).run Tryz.prog w= .ok (.value (.bool false)) w:=λs j=>by
  rw[run_callFunc_extern Tryz.func225 (by kernel_rfl) (by kernel_rfl) (by kernel_rfl) (e:=Extern.SlicesOverlaps.overlaps #[32,32] #[4]) (by kernel_rfl),
   Lib.run_overlaps_apart w 32 4 45 Tryz.underlying32 27 (λw=>by kernel_rfl) ⟨a,0,none⟩ ⟨b,(i+1)*27,none⟩ 1 g s j m y D q r p t u l o]
  rfl
 go_enter Tryz.func171,Tryz.ntmps171
 go_wp2_with (simp only[k])
 go_region_law_o (refine Xn rfl _ _ 32 rfl (goInt (n - i:Nat)) v (by simp[Act.eval,Act.put];exact f _) ?_)
 go_wp2_with (at_builtin;refine QV rfl _ _ 32 rfl _ _ rfl rfl _ _ (d _) ?_)
 go_ret
 exact⟨rfl,rfl⟩
set_option maxHeartbeats 4000000 in
theorem WOa(b n c i m s:Nat)(w:World)(hi:i<n)(D:n<=c)(g:c<n+1)(G:Nat)(H:n+1<=G)(p:G<=9223372036854775807)(q:n<4611686018427387904)
  (t j h:World)
  (d:∀ty,(Builtin.append_ #[32,3] ty #[.slice (some ⟨b,0,none⟩) i c,.int .i64 ((n:Int)+1 - (i:Int))]).run Tryz.prog w= .ok (.slice (some ⟨w.heap.size,0,none⟩) (n+1) G) t)
  (f:∀ty,(Builtin.copy_ #[32,32] ty #[.slice (some ⟨w.heap.size,i*27,none⟩) (n+1 - i) (G - i),.slice (some ⟨m,0,none⟩) 1 s]).run Tryz.prog t= .ok (goInt (1:Nat)) j)
  (a:∀ty,(Builtin.copy_ #[32,32] ty #[.slice (some ⟨w.heap.size,(i+1)*27,none⟩) (n - i) (G - (i+1)),.slice (some ⟨b,i*27,none⟩) (n - i) (c - i)]).run Tryz.prog j.drew= .ok (goInt (n - i:Nat)) h):
  Calls Tryz.prog 171 #[.slice (some ⟨b,0,none⟩) n c,.int .i64 i,.slice (some ⟨m,0,none⟩) 1 s] w λe w'=>e= .returned (.slice (some ⟨w.heap.size,0,none⟩) (n+1) G)/\w'=h:=by
 have mixed:Tryz.prog.follows .mixedOrders=true:=by kernel_rfl
 have E:¬ ((i:Int)=(n:Int)):=by omega
 have F:i<=n:=by omega
 have I:i<=c:=by omega
 have k:i<=n+1:=by omega
 have A:i+1<=n+1:=by omega
 have v:(c:Int)<(n:Int)+1:=by omega
 have o:¬ c=i:=by omega
 have l:¬ G=i:=by omega
 have r:¬ G=i+1:=by omega
 have x:IntKind.i64.wrap ((n:Int)+1)=(n:Int)+1:=by rw[IntKind.wrap_i64];omega
 have y:IntKind.i64.wrap ((i:Int)+1)=(i:Int)+1:=by rw[IntKind.wrap_i64];omega
 have J:IntKind.i64.wrap ((n:Int)+1 - (i:Int))=(n:Int)+1 - (i:Int):=by rw[IntKind.wrap_i64];omega
 have K:((i:Int)+1).toNat=i+1:=by omega
 have z:(0:Int)<=(i:Int)+1:=by omega
 have u:(i:Int)+1<=(n:Int)+1:=by omega
 have B:(i:Int)<=(n:Int)+1:=by omega
 have C:(i:Int)<=(c:Int):=by omega
 go_enter Tryz.func171,Tryz.ntmps171
 go_wp2_with (first
  | (at_builtin;refine Lib.wpList_append_run _ rfl _ _ _ _ rfl _ _ rfl rfl _ _ (d _) ?_)
  | (at_builtin;refine QV rfl _ _ 32 rfl _ _ rfl rfl _ _ (f _) ?_))
 go_region_law_o (refine Xn rfl _ _ 32 rfl (goInt (n - i:Nat)) h (by simp[Act.eval,Act.put];exact a _) ?_)
 go_wp2
 go_ret
 exact⟨rfl,rfl⟩
