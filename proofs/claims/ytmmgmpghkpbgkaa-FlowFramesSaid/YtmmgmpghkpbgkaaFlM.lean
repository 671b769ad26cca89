/- FlowFrames: the walk with the contracts of Encode and Decode. -/
import Derived.Test.YtmmgmpghkpbgkaaFlL
import Derived.Test.YtmmgmpghkpbgkaaFrJ
namespace Go.Proofs.Ytmmgmpghkpbgkaa
open Go.RowKit
set_option linter.unusedVariables false
set_option linter.unusedSimpArgs false

def maxF (m : Int) : Fr := { Fr.zero 16 with mx := m }
/-- The bytes of a MAX_DATA frame. -/
def Mx (m : Int) (bs : ByteArray) : Prop := ∃ s, encF (maxF m) = some s ∧ bs = strB s
theorem maxF_ok (m : Int) (h0 : 0 ≤ m) (h1 : m ≤ 4611686018427387903) (w : World) : FrOk w (maxF m) (.slice none 0 0) :=
  ⟨by constructor <;> simp [maxF, Fr.zero] <;> omega, by simp [maxF, Fr.zero], RgAt.nil w, by simp [maxF, Fr.zero]⟩
theorem encm_c (m : Int) (h0 : 0 ≤ m) (h1 : m ≤ 4611686018427387903) (w : World) :
    Calls Try.prog 17 #[.agg #[.int .i64 16, .int .i64 0, .int .i64 0, .string ⟨#[]⟩, .bool false, .int .i64 m, .int .i64 0, .bool false, .int .i64 0, .slice none 0 0, .int .i64 0, .int .i64 0, .string ⟨#[]⟩]] w fun e w' => ∃ bs, e = .returned (.tuple #[.string bs, .int .i64 0]) ∧ Mx m bs ∧ Only [] w w' := by
  obtain ⟨s, hs⟩ : ∃ s, encF (maxF m) = some s := enc_of (l := [.int mV .mx]) rfl (fun h => by cases h) (puts_cons (putInt (f := maxF m) (x := .mx) h0 (by show m ≤ mV; unfold mV; omega) h1) (puts_nil _)) rfl
  exact (enc_ok (maxF m) (.slice none 0 0) w (maxF_ok m h0 h1 w) hs).mono fun e w' ⟨h, k⟩ => ⟨strB s, h, ⟨s, hs, rfl⟩, k⟩
theorem decm_c (m : Int) (bs : ByteArray) (h : Mx m bs) (w : World) :
    Calls Try.prog 18 #[.string bs, .int .i64 0] w fun e w' => ∃ ra rc, e = .returned (.tuple #[.agg #[.int .i64 16, .int .i64 0, .int .i64 0, .string ⟨#[]⟩, .bool false, .int .i64 m, .int .i64 0, .bool false, .int .i64 0, .slice ra 0 rc, .int .i64 0, .int .i64 0, .string ⟨#[]⟩], .int .i64 bs.size, .int .i64 0]) ∧ Only [] w w' := by
  obtain ⟨s, hs, rfl⟩ := h
  refine (dec_ok0 hs (fun p hp => by cases hp) w).mono fun e w' ⟨rv, h, hk, _, k⟩ => ?_
  obtain ⟨ra, rc, hr, _⟩ := hk.rg
  refine ⟨ra, rc, ?_, k⟩
  rw [h, strB_size, hr]
  rfl
theorem frames_walk (a0 : Int) (a1 : Option Addr) (len1 cap1 : Nat) (Z : Nat → Int) (w : World) (w0 : (Lit.int .u16 a0).wf = true) (w1 : Ints .u16 w a1 len1 Z) :
    Calls Try.prog 12 #[.int .u16 a0, .slice a1 len1 cap1] w fun e w' => e = .returned (.bool true) ∧ Below w.heap.size w w' :=
  frames_walk' Mx (Lib.hid fun m w h0 h1 => encm_c m h0 h1 w) (Lib.hid fun m bs w h => decm_c m bs h w) a0 a1 len1 cap1 Z w w0 w1
end Go.Proofs.Ytmmgmpghkpbgkaa
