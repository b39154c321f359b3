/-
  The fixed calls on numbers as bytes answer true.
-/
import Derived.Test.YtjcngipaeoegcaaTakeText
import Derived.Test.YtjcngipaeoegcaaPackRef
namespace Go.Proofs.Ytjcngipaeoegcaa
open Go.RowKit

theorem text_at {w : World} {A : Option Addr} {n c : Nat} {l : List UInt8} (hr : Row w A (l.map B8)) (hn : l.length = n) : (convert 22 9 (.slice A n c)).run Try.prog w = .ok (Str l) w := by
  subst hn
  exact run_text (P := Try.prog) Try.underlying22 Try.underlying5 Try.underlying9 hr

theorem fixed1 : Pack.put [9] [0, 258] = some [9, 0, 2, 1, 2] := by decide +kernel
theorem fixed2 : Pack.put [] [-1] = none := by decide +kernel
theorem fixed3 : Pack.take [2, 1, 2, 7] = some (258, [7]) := by decide +kernel
theorem fixed4 : Pack.take [1, 0] = none := by decide +kernel
theorem fixed5 : Pack.text [] [97, 98] = [1, 2, 97, 98] := by decide +kernel
theorem fixed6 : Pack.takeText [1, 2, 97, 98] = some ([97, 98], []) := by decide +kernel
theorem fixed7 : Pack.need 256 = 2 := by decide +kernel

end Go.Proofs.Ytjcngipaeoegcaa
