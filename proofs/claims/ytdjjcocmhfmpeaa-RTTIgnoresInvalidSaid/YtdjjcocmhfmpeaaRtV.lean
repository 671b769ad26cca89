/- One more word for the walks of the laws of chapter 12. -/
import Derived.Test.YtdjjcocmhfmpeaaRtW
namespace Go.Proofs.Ytdjjcocmhfmpeaa
open Go.RowKit
set_option linter.unusedVariables false
theorem probe_any (g : Nat) (S V L M d k : Int) (w : World) (hA : EAt w g S V L M) (hi : RInv S V L M) : Calls Try.prog 21 #[.pointer (some ⟨g, 0, none⟩), .int .i64 d, .int .i64 k] w fun e w' => ∃ z, e = .returned (.int .i64 z) ∧ 1 ≤ z ∧ Only [] w w' :=
  (probe_c g S V L M d k w hA hi).mono fun e w' ⟨h1, h2⟩ => ⟨_, h1, (probeZ_bd hi d k).1, h2⟩
theorem pick_v (c n z : Int) (w : World) (h1 : -9223372036854775808 ≤ c) (h2 : c ≤ 9223372036854775807) (hn : 0 < n) (hz : pickZ c n = z) :
    Calls Try.prog 25 #[.int .i64 c, .int .i64 n] w fun e w' => e = .returned (.int .i64 z) ∧ w = w' := by
  subst hz; exact pick_any c n w h1 h2 hn
end Go.Proofs.Ytdjjcocmhfmpeaa
