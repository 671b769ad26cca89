/- Contracts of the reference implementation of layer 12. -/
import Derived.Test.YthjlkiilkiggiaaStC
namespace Go.Proofs.Ythjlkiilkiggiaa.Rt
open Go.Proofs.Ythjlkiilkiggiaa
open Go.RowKit
set_option linter.unusedVariables false
set_option linter.unusedSimpArgs false

theorem at5 {w : World} {b : Nat} {t : TypeId} {k0 k1 k2 k3 : IntKind} {a b' c d a' b'' c' d' : Int} {x : Bool} (h : At w b t #[.int k0 a, .int k1 b', .int k2 c, .int k3 d, .bool x]) (ea : a = a') (eb : b' = b'') (ec : c = c') (ed : d = d') : At w b t #[.int k0 a', .int k1 b'', .int k2 c', .int k3 d', .bool x] := by subst ea eb ec ed; exact h
end Go.Proofs.Ythjlkiilkiggiaa.Rt
