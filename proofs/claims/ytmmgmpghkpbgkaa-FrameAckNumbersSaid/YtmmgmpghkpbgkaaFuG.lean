/- Contracts for FrameAckNumbers: contains; ranges that are no frame. -/
import Derived.Test.YtmmgmpghkpbgkaaFrJ
import Derived.Test.YtmmgmpghkpbgkaaFsB
import Derived.Deep.LoopGhost
import Derived.Deep.CutRange
namespace Go.Proofs.Ytmmgmpghkpbgkaa
open Go Go.RowKit
set_option linter.unusedVariables false
set_option linter.unusedSimpArgs false

def ackF (R : List (Int × Int)) : Fr := { Fr.zero 2 with rg := R }
theorem putP_no {f : Fr} (h : f.rg = [] ∨ rngE true 281474976710658 f.rg = none) : putP .ranges f = none := by
  simp only [putP]
  by_cases hR : f.rg = []
  · rw [if_pos hR]
  · rw [if_neg hR, h.resolve_left hR]
    split
    · rename_i h5; cases h5
    · rfl
theorem ackF_bad {R : List (Int × Int)} (h : R = [] ∨ rngE true 281474976710658 R = none) : encF (ackF R) = none := by
  cases he : encF (ackF R) with
  | none => rfl
  | some s =>
    obtain ⟨l, bs, h1, _, h3, _, _⟩ := encF_some he
    have hl : l = [.int mV .dl, .ranges] := Option.some.inj (h1.symm.trans rfl)
    subst hl
    exfalso
    simp only [puts] at h3
    have h4 : putP .ranges (ackF R) = none := putP_no h
    rw [h4] at h3
    revert h3
    cases putP (.int mV .dl) (ackF R) <;> simp
theorem ackF_ok {R : List (Int × Int)} (h0 : R ≠ []) (h1 : R.length ≤ 16) (h2 : RgOk 281474976710658 R) : ∃ s, encF (ackF R) = some s :=
  enc_of (l := [.int mV .dl, .ranges]) rfl (fun h => by cases h) (puts_cons (putInt (f := ackF R) (x := .dl) (by show (0 : Int) ≤ 0; omega) (by show (0 : Int) ≤ mV; unfold mV; omega) (by show (0 : Int) ≤ _; omega)) (puts_cons (putRanges (f := ackF R) h0 h1 h2) (puts_nil _))) rfl
def holds (L : List (Int × Int)) (n : Int) : Bool := L.any fun p => decide (p.1 ≤ n) && decide (n < p.2)
def CoRel (w : World) (L : List (Int × Int)) (n : Int) (gk : Nat) (ix : Value) (wr : World) : Prop := ∃ k : Nat, gk = L.length - k ∧ k ≤ L.length ∧ ix = .int .i64 k ∧ Hid (holds L n = holds (L.drop k) n) ∧ Hid (Only [] w wr)
set_option maxRecDepth 100000 in
set_option maxHeartbeats 4000000 in
theorem contains9 (v : Value) (L : List (Int × Int)) (n : Int) (w : World) (hL : RgAt w v L) (hsz : L.length ≤ 4611686018427387903) :
    Calls Try.prog 32 #[v, .int .i64 n] w fun e w' => e = .returned (.bool (holds L n)) ∧ Only [] w w' := by
  obtain ⟨a, cap, rfl, hcs⟩ := hL
  obtain ⟨R, hR⟩ : ∃ R, holds L n = R := ⟨_, rfl⟩
  rw [hR]
  have hor := Lib.hid (Only.refl [] w)
  have HR : Hid (holds L n = holds (L.drop 0) n) := Lib.hid rfl
  have HRR := Lib.hid hR
  clear hR
  go_enter Try.func32, Try.ntmps32
  go_wp2_with fail
  go_loopg [5] L.length (fun gk ix wr => CoRel w L n gk ix wr)
  case atStart => exact ⟨0, by simp, by omega, rfl, HR, hor⟩
  case round =>
    obtain ⟨k, rfl, hk, rfl, hD, hO⟩ := hrel
    clear hor HR
    by_cases hlt : k < L.length
    · have hlt' : (k : Int) < L.length := by omega
      obtain ⟨g, off, rfl, hg, q1, q2, r1, r2⟩ := hcs k hlt
      obtain ⟨F, hF⟩ : ∃ F, (L[k]'hlt).1 = F := ⟨_, rfl⟩
      obtain ⟨T, hT⟩ : ∃ T, (L[k]'hlt).2 = T := ⟨_, rfl⟩
      have HDr : Hid (holds (L.drop k) n = ((decide (F ≤ n) && decide (n < T)) || holds (L.drop (k + 1)) n)) := Lib.hid (by
        rw [List.drop_eq_getElem_cons hlt]
        simp only [holds, List.any_cons, hF, hT])
      rw [hF] at q1
      rw [hT] at q2
      have p1 := (hO.out.cell (p := ⟨g, off + k * 2, none⟩) hg (by simp)).trans q1
      have p2 := (hO.out.cell (p := ⟨g, off + k * 2 + 1, none⟩) hg (by simp)).trans q2
      have f9 : IntKind.i64.wrap ((k : Int) + 1) = ((k + 1 : Nat) : Int) := by rw [show (k : Int) + 1 = ((k + 1 : Nat) : Int) by omega]; exact IntWalk.i64_in _ (by omega)
      clear q1 q2 r1 r2 hcs hF hT
      by_cases h1 : F ≤ n
      · by_cases h2 : n < T
        · have HE : Hid (R = true) := Lib.hid (by rw [← HRR.out, hD.out, HDr.out, decide_eq_true h1, decide_eq_true h2]; rfl)
          go_wp2_with fail
          go_ret
          exact ⟨by rw [HE.out]; rfl, hO.out⟩
        · have HE : Hid (holds L n = holds (L.drop (k + 1)) n) := Lib.hid (by rw [hD.out, HDr.out, decide_eq_false h2]; simp)
          go_wp2_with fail
          go_roundg (L.length - (k + 1))
          case measure => omega
          case rel => exact ⟨k + 1, rfl, by omega, by simp <;> omega, HE, hO⟩
      · have HE : Hid (holds L n = holds (L.drop (k + 1)) n) := Lib.hid (by rw [hD.out, HDr.out, decide_eq_false h1]; simp)
        go_wp2_with fail
        go_roundg (L.length - (k + 1))
        case measure => omega
        case rel => exact ⟨k + 1, rfl, by omega, by simp <;> omega, HE, hO⟩
    · obtain rfl : k = L.length := by omega
      have hlt' : ¬ (L.length : Int) < L.length := by omega
      have HE : Hid (R = false) := Lib.hid (by rw [← HRR.out, hD.out, List.drop_length]; rfl)
      clear hcs
      go_wp2_with fail
      go_ret
      exact ⟨by rw [HE.out]; rfl, hO.out⟩
end Go.Proofs.Ytmmgmpghkpbgkaa
