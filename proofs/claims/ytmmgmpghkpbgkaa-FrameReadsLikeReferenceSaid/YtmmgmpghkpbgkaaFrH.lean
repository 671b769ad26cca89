/- Contracts of the reference of frames: equality. -/
import Derived.Test.YtmmgmpghkpbgkaaFrZa
import Derived.Deep.LoopGhost
import Derived.Deep.CutRange
namespace Go.Proofs.Ytmmgmpghkpbgkaa
open Go Go.RowKit
set_option linter.unusedVariables false
set_option linter.unusedSimpArgs false

theorem fr_ext {f g : Fr} (h0 : f.ty = g.ty) (h1 : f.st = g.st) (h2 : f.off = g.off) (h3 : f.S = g.S) (h4 : f.fin = g.fin) (h5 : f.mx = g.mx) (h6 : f.cd = g.cd) (h7 : f.uni = g.uni) (h8 : f.dl = g.dl) (h10 : f.sq = g.sq) (h11 : f.rt = g.rt) (h12 : f.cid = g.cid) (h9 : f.rg = g.rg) : f = g := by
  cases f; cases g
  simp only at *
  subst h0 h1 h2 h3 h4 h5 h6 h7 h8 h9 h10 h11 h12
  rfl
def SmRel (w : World) (L M : List (Int × Int)) (gk : Nat) (ix : Value) (wr : World) : Prop := ∃ k : Nat, gk = L.length - k ∧ k ≤ L.length ∧ ix = .int .i64 k ∧ L.take k = M.take k ∧ Only [] w wr
/-- What an equality answers. -/
def SameQ (f g : Fr) (w : World) (e : Ending) (w' : World) : Prop := ∃ z : Bool, e = .returned (.bool z) ∧ (z = true ↔ f = g) ∧ Only [] w w'
set_option maxRecDepth 100000 in
set_option maxHeartbeats 16000000 in
theorem rsame_c (f g : Fr) (rv sv : Value) (w : World) (hL : RgAt w rv f.rg) (hM : RgAt w sv g.rg) (hsz : f.rg.length ≤ 4611686018427387903) (hsz2 : g.rg.length ≤ 4611686018427387903) :
    Calls Try.prog 30 #[.agg (frC f rv), .agg (frC g sv)] w (SameQ f g w) := by
  obtain ⟨L, hL0⟩ : ∃ L, f.rg = L := ⟨_, rfl⟩
  obtain ⟨M, hM0⟩ : ∃ M, g.rg = M := ⟨_, rfl⟩
  rw [hL0] at hL hsz
  rw [hM0] at hM hsz2
  have HL0 := Lib.hid hL0
  have HM0 := Lib.hid hM0
  clear hL0 hM0
  have HRL := Lib.hid hL
  have HRM := Lib.hid hM
  obtain ⟨a, cap, rfl, hcs⟩ := hL
  obtain ⟨a', cap', rfl, hcs'⟩ := hM
  go_enter Try.func30, Try.ntmps30
  go_upto_region 1 with fail
  have hsz1 : (w.alloc (.cells (frC f (.slice a L.length cap)) 33)).heap.size = w.heap.size + 1 := by simp
  have hA := (At.new w 33 (frC f (.slice a L.length cap))).alloc (.cells (frC g (.slice a' M.length cap')) 33)
  have hB := At.new (w.alloc (.cells (frC f (.slice a L.length cap)) 33)) 33 (frC g (.slice a' M.length cap'))
  have hO := ((Only.refl [] w).alloc (.cells (frC f (.slice a L.length cap)) 33)).alloc (.cells (frC g (.slice a' M.length cap')) 33)
  rw [hsz1] at hB
  generalize (w.alloc (.cells (frC f (.slice a L.length cap)) 33)).alloc (.cells (frC g (.slice a' M.length cap')) 33) = w2 at hA hB hO ⊢
  generalize w.heap.size + 1 = b2 at hB ⊢
  generalize w.heap.size = b1 at hA ⊢
  have c9 : w2.cell? ⟨b1, 9, none⟩ = some (.slice a L.length cap) := hA.cell 9 rfl
  have d9 : w2.cell? ⟨b2, 9, none⟩ = some (.slice a' M.length cap') := hB.cell 9 rfl
  have HA := Lib.hid hA
  have HB := Lib.hid hB
  have HO2 := Lib.hid hO
  clear hA hB hO hsz1
  by_cases hlen : L.length = M.length
  · have hl : ((L.length : Int) != (M.length : Int)) = false := by simp [hlen]
    have HL := Lib.hid hlen
    clear hlen
    have hor := Lib.hid (Only.refl [] w2)
    go_wp2_with fail
    go_loopg [5] L.length (fun gk ix wr => SmRel w2 L M gk ix wr)
    case atStart => exact ⟨0, by simp, by omega, rfl, by simp, hor.out⟩
    case round =>
      obtain ⟨k, rfl, hk, rfl, htk, hO⟩ := hrel
      have x9 : wr.cell? ⟨b1, 9, none⟩ = some (.slice a L.length cap) := (HA.out.keep hO (by simp)).cell 9 rfl
      have y9 : wr.cell? ⟨b2, 9, none⟩ = some (.slice a' M.length cap') := (HB.out.keep hO (by simp)).cell 9 rfl
      clear hor c9 d9
      by_cases hlt : k < L.length
      · have hlt' : (k : Int) < L.length := by omega
        have hlt2 : k < M.length := by have := HL.out; omega
        have hlt2' : (k : Int) < M.length := by omega
        obtain ⟨g1, off, rfl, hg, q1, q2, r1, r2⟩ := hcs k hlt
        obtain ⟨g', off', rfl, hg', q1', q2', r1', r2'⟩ := hcs' k hlt2
        obtain ⟨F, hF⟩ : ∃ F, (L[k]'hlt).1 = F := ⟨_, rfl⟩
        obtain ⟨T, hT⟩ : ∃ T, (L[k]'hlt).2 = T := ⟨_, rfl⟩
        obtain ⟨F', hF'⟩ : ∃ F, (M[k]'hlt2).1 = F := ⟨_, rfl⟩
        obtain ⟨T', hT'⟩ : ∃ T, (M[k]'hlt2).2 = T := ⟨_, rfl⟩
        have e1 : L[k]'hlt = (F, T) := by rw [← hF, ← hT]
        have e2 : M[k]'hlt2 = (F', T') := by rw [← hF', ← hT']
        rw [hF] at q1
        rw [hT] at q2
        rw [hF'] at q1'
        rw [hT'] at q2'
        have hOw := HO2.out.trans hO
        have p1 : wr.drew.cell? ⟨g1, off + k * 2, none⟩ = some (.int .i64 F) := (hOw.cell (p := ⟨g1, off + k * 2, none⟩) hg (by simp)).trans q1
        have p2 : wr.drew.cell? ⟨g1, off + k * 2 + 1, none⟩ = some (.int .i64 T) := (hOw.cell (p := ⟨g1, off + k * 2 + 1, none⟩) hg (by simp)).trans q2
        have p3 : wr.drew.cell? ⟨g', off' + k * 2, none⟩ = some (.int .i64 F') := (hOw.cell (p := ⟨g', off' + k * 2, none⟩) hg' (by simp)).trans q1'
        have p4 : wr.drew.cell? ⟨g', off' + k * 2 + 1, none⟩ = some (.int .i64 T') := (hOw.cell (p := ⟨g', off' + k * 2 + 1, none⟩) hg' (by simp)).trans q2'
        have x9d : wr.drew.cell? ⟨b1, 9, none⟩ = some (.slice (some ⟨g1, off, none⟩) L.length cap) := x9
        have y9d : wr.drew.cell? ⟨b2, 9, none⟩ = some (.slice (some ⟨g', off', none⟩) M.length cap') := y9
        have f9 : IntKind.i64.wrap ((k : Int) + 1) = ((k + 1 : Nat) : Int) := by rw [show (k : Int) + 1 = ((k + 1 : Nat) : Int) by omega]; exact IntWalk.i64_in _ (by omega)
        have HD := Lib.hid e1
        have HD' := Lib.hid e2
        have HT := Lib.hid htk
        have HO := Lib.hid hO
        clear hF hT hF' hT' q1 q2 q1' q2' r1 r2 r1' r2' hcs hcs' e1 e2 htk hO hOw
        by_cases hq : F = F' ∧ T = T'
        · obtain ⟨rfl, rfl⟩ := hq
          go_wp2_with fail
          go_still (by kernel_rfl)
          go_wp2_with fail
          go_roundg (L.length - (k + 1))
          case measure => omega
          case rel =>
           refine ⟨k + 1, rfl, by omega, by simp <;> omega, ?_, HO.out.drew⟩
           have h1 := HD.out
           have h2 := HD'.out
           rw [List.take_succ_eq_append_getElem hlt, List.take_succ_eq_append_getElem hlt2, HT.out, h1, h2]
        · have hcmp : (F == F' && T == T') = false := by
            rw [Bool.and_eq_false_iff]
            by_cases h : F = F'
            · exact .inr (beq_eq_false_iff_ne.2 (fun e => hq ⟨h, e⟩))
            · exact .inl (beq_eq_false_iff_ne.2 h)
          have HN : Hid (¬ f = g) := Lib.hid (fun e => hq (by
            have h1 := HD.out
            have h2 := HD'.out
            have h3 : L = M := by rw [← HL0.out, ← HM0.out, e]
            subst h3
            rw [h1] at h2
            exact ⟨congrArg Prod.fst h2, congrArg Prod.snd h2⟩))
          have hrun : ∀ w, (binOp .neq 43 (.agg #[.int .i64 F, .int .i64 T]) (.agg #[.int .i64 F', .int .i64 T'])).run Try.prog w = .ok (.bool true) w := by
            intro w
            simp [go_sem, hcmp]
            exact fun e1 e2 => hq ⟨e1, e2⟩
          go_wp2_with fail
          go_still (by kernel_rfl)
          go_wp2_with fail
          go_ret
          exact ⟨false, rfl, ⟨fun h => (by cases h), fun h => absurd h HN.out⟩, HO2.out.trans HO.out.drew⟩
      · obtain rfl : k = L.length := by omega
        have hlt' : ¬ ((L.length : Int) < L.length) := by omega
        have HLM : Hid (f.rg = g.rg) := Lib.hid (by
          have h1 := HL.out
          rw [List.take_length, h1, List.take_length] at htk
          rw [HL0.out, HM0.out]; exact htk)
        have HO := Lib.hid (HO2.out.trans hO)
        have c0 : wr.cell? ⟨b1, 0, none⟩ = some (.int .i64 f.ty) := (HA.out.keep hO (by simp)).cell 0 rfl
        have d0 : wr.cell? ⟨b2, 0, none⟩ = some (.int .i64 g.ty) := (HB.out.keep hO (by simp)).cell 0 rfl
        have c1 : wr.cell? ⟨b1, 1, none⟩ = some (.int .i64 f.st) := (HA.out.keep hO (by simp)).cell 1 rfl
        have d1 : wr.cell? ⟨b2, 1, none⟩ = some (.int .i64 g.st) := (HB.out.keep hO (by simp)).cell 1 rfl
        have c2 : wr.cell? ⟨b1, 2, none⟩ = some (.int .i64 f.off) := (HA.out.keep hO (by simp)).cell 2 rfl
        have d2 : wr.cell? ⟨b2, 2, none⟩ = some (.int .i64 g.off) := (HB.out.keep hO (by simp)).cell 2 rfl
        have c3 : wr.cell? ⟨b1, 3, none⟩ = some (.string (strB f.S)) := (HA.out.keep hO (by simp)).cell 3 rfl
        have d3 : wr.cell? ⟨b2, 3, none⟩ = some (.string (strB g.S)) := (HB.out.keep hO (by simp)).cell 3 rfl
        have c4 : wr.cell? ⟨b1, 4, none⟩ = some (.bool f.fin) := (HA.out.keep hO (by simp)).cell 4 rfl
        have d4 : wr.cell? ⟨b2, 4, none⟩ = some (.bool g.fin) := (HB.out.keep hO (by simp)).cell 4 rfl
        have c5 : wr.cell? ⟨b1, 5, none⟩ = some (.int .i64 f.mx) := (HA.out.keep hO (by simp)).cell 5 rfl
        have d5 : wr.cell? ⟨b2, 5, none⟩ = some (.int .i64 g.mx) := (HB.out.keep hO (by simp)).cell 5 rfl
        have c6 : wr.cell? ⟨b1, 6, none⟩ = some (.int .i64 f.cd) := (HA.out.keep hO (by simp)).cell 6 rfl
        have d6 : wr.cell? ⟨b2, 6, none⟩ = some (.int .i64 g.cd) := (HB.out.keep hO (by simp)).cell 6 rfl
        have c7 : wr.cell? ⟨b1, 7, none⟩ = some (.bool f.uni) := (HA.out.keep hO (by simp)).cell 7 rfl
        have d7 : wr.cell? ⟨b2, 7, none⟩ = some (.bool g.uni) := (HB.out.keep hO (by simp)).cell 7 rfl
        have c8 : wr.cell? ⟨b1, 8, none⟩ = some (.int .i64 f.dl) := (HA.out.keep hO (by simp)).cell 8 rfl
        have d8 : wr.cell? ⟨b2, 8, none⟩ = some (.int .i64 g.dl) := (HB.out.keep hO (by simp)).cell 8 rfl
        have c10 : wr.cell? ⟨b1, 10, none⟩ = some (.int .i64 f.sq) := (HA.out.keep hO (by simp)).cell 10 rfl
        have d10 : wr.cell? ⟨b2, 10, none⟩ = some (.int .i64 g.sq) := (HB.out.keep hO (by simp)).cell 10 rfl
        have c11 : wr.cell? ⟨b1, 11, none⟩ = some (.int .i64 f.rt) := (HA.out.keep hO (by simp)).cell 11 rfl
        have d11 : wr.cell? ⟨b2, 11, none⟩ = some (.int .i64 g.rt) := (HB.out.keep hO (by simp)).cell 11 rfl
        have c12 : wr.cell? ⟨b1, 12, none⟩ = some (.string (strB f.cid)) := (HA.out.keep hO (by simp)).cell 12 rfl
        have d12 : wr.cell? ⟨b2, 12, none⟩ = some (.string (strB g.cid)) := (HB.out.keep hO (by simp)).cell 12 rfl
        clear htk hO hcs hcs'
        by_cases e0 : f.ty = g.ty
        rotate_left
        · have h1 : (f.ty == g.ty) = false := beq_eq_false_iff_ne.2 e0
          have HN : Hid (¬ f = g) := Lib.hid (fun e => e0 (by rw [e]))
          clear e0
          as_aux_lemma =>
            go_wp2_with fail
            go_ret
            exact ⟨false, rfl, ⟨fun h => (by cases h), fun h => absurd h HN.out⟩, HO.out⟩
        have HE0 := Lib.hid e0
        rw [← e0] at d0
        clear e0
        by_cases e1 : f.st = g.st
        rotate_left
        · have h1 : (f.st == g.st) = false := beq_eq_false_iff_ne.2 e1
          have HN : Hid (¬ f = g) := Lib.hid (fun e => e1 (by rw [e]))
          clear e1
          as_aux_lemma =>
            go_wp2_with fail
            go_ret
            exact ⟨false, rfl, ⟨fun h => (by cases h), fun h => absurd h HN.out⟩, HO.out⟩
        have HE1 := Lib.hid e1
        rw [← e1] at d1
        clear e1
        by_cases e2 : f.off = g.off
        rotate_left
        · have h1 : (f.off == g.off) = false := beq_eq_false_iff_ne.2 e2
          have HN : Hid (¬ f = g) := Lib.hid (fun e => e2 (by rw [e]))
          clear e2
          as_aux_lemma =>
            go_wp2_with fail
            go_ret
            exact ⟨false, rfl, ⟨fun h => (by cases h), fun h => absurd h HN.out⟩, HO.out⟩
        have HE2 := Lib.hid e2
        rw [← e2] at d2
        clear e2
        by_cases e3 : f.S = g.S
        rotate_left
        · have h1 : ((strB f.S).toList == (strB g.S).toList) = false := beq_eq_false_iff_ne.2 (fun e => e3 (strB_inj (toList_inj e)))
          have h2 : ¬ (strB f.S).toList = (strB g.S).toList := fun e => e3 (strB_inj (toList_inj e))
          have HN : Hid (¬ f = g) := Lib.hid (fun e => e3 (by rw [e]))
          clear e3
          as_aux_lemma =>
            go_wp2_with fail
            go_ret
            exact ⟨false, rfl, ⟨fun h => (by cases h), fun h => absurd h HN.out⟩, HO.out⟩
        have HE3 := Lib.hid e3
        rw [← e3] at d3
        clear e3
        by_cases e4 : f.fin = g.fin
        rotate_left
        · have h1 : (f.fin == g.fin) = false := beq_eq_false_iff_ne.2 e4
          have HN : Hid (¬ f = g) := Lib.hid (fun e => e4 (by rw [e]))
          clear e4
          as_aux_lemma =>
            go_wp2_with fail
            go_ret
            exact ⟨false, rfl, ⟨fun h => (by cases h), fun h => absurd h HN.out⟩, HO.out⟩
        have HE4 := Lib.hid e4
        rw [← e4] at d4
        clear e4
        by_cases e5 : f.mx = g.mx
        rotate_left
        · have h1 : (f.mx == g.mx) = false := beq_eq_false_iff_ne.2 e5
          have HN : Hid (¬ f = g) := Lib.hid (fun e => e5 (by rw [e]))
          clear e5
          as_aux_lemma =>
            go_wp2_with fail
            go_ret
            exact ⟨false, rfl, ⟨fun h => (by cases h), fun h => absurd h HN.out⟩, HO.out⟩
        have HE5 := Lib.hid e5
        rw [← e5] at d5
        clear e5
        by_cases e6 : f.cd = g.cd
        rotate_left
        · have h1 : (f.cd == g.cd) = false := beq_eq_false_iff_ne.2 e6
          have HN : Hid (¬ f = g) := Lib.hid (fun e => e6 (by rw [e]))
          clear e6
          as_aux_lemma =>
            go_wp2_with fail
            go_ret
            exact ⟨false, rfl, ⟨fun h => (by cases h), fun h => absurd h HN.out⟩, HO.out⟩
        have HE6 := Lib.hid e6
        rw [← e6] at d6
        clear e6
        by_cases e7 : f.uni = g.uni
        rotate_left
        · have h1 : (f.uni == g.uni) = false := beq_eq_false_iff_ne.2 e7
          have HN : Hid (¬ f = g) := Lib.hid (fun e => e7 (by rw [e]))
          clear e7
          as_aux_lemma =>
            go_wp2_with fail
            go_ret
            exact ⟨false, rfl, ⟨fun h => (by cases h), fun h => absurd h HN.out⟩, HO.out⟩
        have HE7 := Lib.hid e7
        rw [← e7] at d7
        clear e7
        by_cases e8 : f.dl = g.dl
        rotate_left
        · have h1 : (f.dl == g.dl) = false := beq_eq_false_iff_ne.2 e8
          have HN : Hid (¬ f = g) := Lib.hid (fun e => e8 (by rw [e]))
          clear e8
          as_aux_lemma =>
            go_wp2_with fail
            go_ret
            exact ⟨false, rfl, ⟨fun h => (by cases h), fun h => absurd h HN.out⟩, HO.out⟩
        have HE8 := Lib.hid e8
        rw [← e8] at d8
        clear e8
        by_cases e10 : f.sq = g.sq
        rotate_left
        · have h1 : (f.sq == g.sq) = false := beq_eq_false_iff_ne.2 e10
          have HN : Hid (¬ f = g) := Lib.hid (fun e => e10 (by rw [e]))
          clear e10
          as_aux_lemma =>
            go_wp2_with fail
            go_ret
            exact ⟨false, rfl, ⟨fun h => (by cases h), fun h => absurd h HN.out⟩, HO.out⟩
        have HE10 := Lib.hid e10
        rw [← e10] at d10
        clear e10
        by_cases e11 : f.rt = g.rt
        rotate_left
        · have h1 : (f.rt == g.rt) = false := beq_eq_false_iff_ne.2 e11
          have HN : Hid (¬ f = g) := Lib.hid (fun e => e11 (by rw [e]))
          clear e11
          as_aux_lemma =>
            go_wp2_with fail
            go_ret
            exact ⟨false, rfl, ⟨fun h => (by cases h), fun h => absurd h HN.out⟩, HO.out⟩
        have HE11 := Lib.hid e11
        rw [← e11] at d11
        clear e11
        by_cases e12 : f.cid = g.cid
        rotate_left
        · have h1 : ((strB f.cid).toList == (strB g.cid).toList) = false := beq_eq_false_iff_ne.2 (fun e => e12 (strB_inj (toList_inj e)))
          have h2 : ¬ (strB f.cid).toList = (strB g.cid).toList := fun e => e12 (strB_inj (toList_inj e))
          have HN : Hid (¬ f = g) := Lib.hid (fun e => e12 (by rw [e]))
          clear e12
          as_aux_lemma =>
            go_wp2_with fail
            go_ret
            exact ⟨false, rfl, ⟨fun h => (by cases h), fun h => absurd h HN.out⟩, HO.out⟩
        have HE12 := Lib.hid e12
        rw [← e12] at d12
        clear e12
        as_aux_lemma =>
          go_wp2_with fail
          go_ret
          exact ⟨true, rfl, ⟨fun _ => fr_ext HE0.out HE1.out HE2.out HE3.out HE4.out HE5.out HE6.out HE7.out HE8.out HE10.out HE11.out HE12.out HLM.out, fun _ => rfl⟩, HO.out⟩
  · have hl : ((L.length : Int) != (M.length : Int)) = true := by simp; omega
    have HN : Hid (¬ f = g) := Lib.hid (fun e => hlen (by rw [← HL0.out, ← HM0.out, e]))
    clear hcs hcs' hlen
    go_wp2_with fail
    go_ret
    exact ⟨false, rfl, ⟨fun h => (by cases h), fun h => absurd h HN.out⟩, HO2.out⟩
end Go.Proofs.Ytmmgmpghkpbgkaa
