/- Contracts of package frame: equality of ranges and of frames. -/
import Derived.Test.YtmmgmpghkpbgkaaFrY
namespace Go.Proofs.Ytmmgmpghkpbgkaa
open Go Go.RowKit
set_option linter.unusedVariables false
set_option linter.unusedSimpArgs false

def EqRel (w : World) (L M : List (Int × Int)) (gk : Nat) (ix : Value) (wr : World) : Prop := ∃ k : Nat, gk = L.length - k ∧ k ≤ L.length ∧ ix = .int .i64 k ∧ L.take k = M.take k ∧ Only [] w wr
set_option maxRecDepth 100000 in
set_option maxHeartbeats 2000000 in
theorem equal_c (rv sv : Value) (L M : List (Int × Int)) (w : World) (hL : RgAt w rv L) (hM : RgAt w sv M) (hsz : L.length ≤ 4611686018427387903) (hsz2 : M.length ≤ 4611686018427387903) :
    Calls Try.prog 62 #[rv, sv] w fun e w' => e = .returned (.bool (decide (L = M))) ∧ Only [] w w' := by
  obtain ⟨a, cap, rfl, hcs⟩ := hL
  obtain ⟨a', cap', rfl, hcs'⟩ := hM
  obtain ⟨z, hz⟩ : ∃ z, decide (L = M) = z := ⟨_, rfl⟩
  rw [hz]
  have HZ := Lib.hid hz
  clear hz
  by_cases hlen : L.length = M.length
  · have hl : ((L.length : Int) != (M.length : Int)) = false := by simp [hlen]
    have HL := Lib.hid hlen
    clear hlen
    have ho := Lib.hid (Only.refl [] w)
    go_enter Try.func62, Try.ntmps62
    go_wp2_with fail
    go_loopg [13] L.length (fun gk ix wr => EqRel w L M gk ix wr)
    case atStart => exact ⟨0, by simp, by omega, rfl, by simp, ho.out⟩
    case round =>
      obtain ⟨k, rfl, hk, rfl, htk, hO⟩ := hrel
      clear ho
      by_cases hlt : k < L.length
      · have hlt' : (k : Int) < L.length := by omega
        have hlt2 : k < M.length := by have := HL.out; omega
        have hlt2' : (k : Int) < M.length := by omega
        obtain ⟨g, off, rfl, hg, q1, q2, r1, r2⟩ := hcs k hlt
        obtain ⟨g', off', rfl, hg', q1', q2', r1', r2'⟩ := hcs' k hlt2
        obtain ⟨F, hF⟩ : ∃ F, (L[k]'hlt).1 = F := ⟨_, rfl⟩
        obtain ⟨T, hT⟩ : ∃ T, (L[k]'hlt).2 = T := ⟨_, rfl⟩
        obtain ⟨F', hF'⟩ : ∃ F, (M[k]'hlt2).1 = F := ⟨_, rfl⟩
        obtain ⟨T', hT'⟩ : ∃ T, (M[k]'hlt2).2 = T := ⟨_, rfl⟩
        have e1 : L[k]'hlt = (F, T) := by rw [← hF, ← hT]
        have e2 : M[k]'hlt2 = (F', T') := by rw [← hF', ← hT']
        rw [hF] at q1
        rw [hT] at q2
        rw [hF'] at q1'
        rw [hT'] at q2'
        have p1 : wr.drew.cell? ⟨g, off + k * 2, none⟩ = some (.int .i64 F) := (hO.cell (p := ⟨g, off + k * 2, none⟩) hg (by simp)).trans q1
        have p2 : wr.drew.cell? ⟨g, off + k * 2 + 1, none⟩ = some (.int .i64 T) := (hO.cell (p := ⟨g, off + k * 2 + 1, none⟩) hg (by simp)).trans q2
        have p3 : wr.drew.cell? ⟨g', off' + k * 2, none⟩ = some (.int .i64 F') := (hO.cell (p := ⟨g', off' + k * 2, none⟩) hg' (by simp)).trans q1'
        have p4 : wr.drew.cell? ⟨g', off' + k * 2 + 1, none⟩ = some (.int .i64 T') := (hO.cell (p := ⟨g', off' + k * 2 + 1, none⟩) hg' (by simp)).trans q2'
        have f9 : IntKind.i64.wrap ((k : Int) + 1) = ((k + 1 : Nat) : Int) := by rw [show (k : Int) + 1 = ((k + 1 : Nat) : Int) by omega]; exact IntWalk.i64_in _ (by omega)
        have HD := Lib.hid e1
        have HD' := Lib.hid e2
        have HT := Lib.hid htk
        have HO := Lib.hid hO
        clear hF hT hF' hT' q1 q2 q1' q2' r1 r2 r1' r2' hcs hcs' e1 e2 htk hO
        by_cases hq : F = F' ∧ T = T'
        · obtain ⟨rfl, rfl⟩ := hq
          go_wp2_with fail
          go_still (by kernel_rfl)
          go_wp2_with fail
          go_roundg (L.length - (k + 1))
          case measure => omega
          case rel =>
           refine ⟨k + 1, rfl, by omega, by simp <;> omega, ?_, HO.out.drew⟩
           have h1 := HD.out
           have h2 := HD'.out
           rw [List.take_succ_eq_append_getElem hlt, List.take_succ_eq_append_getElem hlt2, HT.out, h1, h2]
        · have hcmp : (F == F' && T == T') = false := by
            rw [Bool.and_eq_false_iff]
            by_cases h : F = F'
            · exact .inr (beq_eq_false_iff_ne.2 (fun e => hq ⟨h, e⟩))
            · exact .inl (beq_eq_false_iff_ne.2 h)
          have hz : z = false := by
            rw [← HZ.out]
            refine decide_eq_false (fun e => hq ?_)
            have h1 := HD.out
            have h2 := HD'.out
            subst e
            rw [h1] at h2
            exact ⟨congrArg Prod.fst h2, congrArg Prod.snd h2⟩
          subst hz
          have hrun : ∀ w, (binOp .neq 43 (.agg #[.int .i64 F, .int .i64 T]) (.agg #[.int .i64 F', .int .i64 T'])).run Try.prog w = .ok (.bool true) w := by
            intro w
            simp [go_sem, hcmp]
            exact fun e1 e2 => hq ⟨e1, e2⟩
          go_wp2_with fail
          go_still (by kernel_rfl)
          go_wp2_with fail
          go_ret
          exact ⟨rfl, HO.out.drew⟩
      · obtain rfl : k = L.length := by omega
        have hlt' : ¬ ((L.length : Int) < L.length) := by omega
        have hz : z = true := by
          rw [← HZ.out]
          refine decide_eq_true ?_
          have h1 := HL.out
          rw [List.take_length, h1, List.take_length] at htk
          exact htk
        subst hz
        have HO := Lib.hid hO
        clear htk hO hcs hcs'
        go_wp2_with fail
        go_ret
        exact ⟨rfl, HO.out⟩
  · have hl : ((L.length : Int) != (M.length : Int)) = true := by simp; omega
    have hz : z = false := by
      rw [← HZ.out]
      exact decide_eq_false (fun e => hlen (by rw [e]))
    subst hz
    have ho := Lib.hid (Only.refl [] w)
    clear hcs hcs' hlen HZ
    go_enter Try.func62, Try.ntmps62
    go_wp2_with fail
    go_ret
    exact ⟨rfl, ho.out⟩
end Go.Proofs.Ytmmgmpghkpbgkaa
