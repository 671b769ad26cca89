/- A slice argument of the parameters of generated frames. -/
import Derived.Test.YtmmgmpghkpbgkaaArE
namespace Go.Proofs.Ytmmgmpghkpbgkaa
open Go Go.RowKit Go.ChangeShapes Go.WideShapes Go.Deep
set_option linter.unusedVariables false

/-- Every element can be read. -/
def Fps (w : World) (a : Option Addr) (len : Nat) : Prop := ∀ i, i < len → ∃ (b off : Nat) (ty A B C : Int) (s : ByteArray) (fin : Bool) (sv : Value) (SL : List (Int × Int)), a = some ⟨b, off, none⟩ ∧ b < w.heap.size ∧
  (∀ j, j < 7 → w.cell? ⟨b, off + i * 7 + j, none⟩ = (fpC ty A B C s fin sv)[j]?) ∧ FpOk ty A B C s ∧ RgAt w sv SL
section
variable {H : Type} {enc : TypeId × Value → H} {w : World} {base : Nat} {held : Bool}
theorem fps_of {fuel len cap : Nat} {a : Option Addr} {x : DataW H × List MemPlace} (h : DataW.trod enc Try.prog w base (fun _ => true) held fuel 66 [.slice a len cap] = some x) : Fps w a len := by
  intro i hi
  obtain ⟨b, off, n, cs, y, h1, h2, h3, h4, h5⟩ := elem_of Try.underlying66 (by kernel_rfl : Try.prog.cellsOf 46 = 7) (by omega) h i hi
  obtain ⟨ty, A, B, C, s, fin, sv, SL, rfl, hF, hR⟩ := fp_core h3 h5
  refine ⟨b, off, ty, A, B, C, s, fin, sv, SL, h1, h2, fun j hj => ?_, hF, hR⟩
  rw [h4 j hj, Array.getElem?_toList]
end
end Go.Proofs.Ytmmgmpghkpbgkaa
