/- The fixed calls of the law's package (sane). -/
import Derived.Test.YtmmgmpghkpbgkaaFtB
import Derived.Test.YtmmgmpghkpbgkaaFrH
import Derived.Test.YtmmgmpghkpbgkaaFrI
namespace Go.Proofs.Ytmmgmpghkpbgkaa
open Go Go.RowKit
set_option linter.unusedVariables false
set_option linter.unusedSimpArgs false

def frA : Fr := { Fr.zero 8 with st := 4, S := [104, 105], fin := true }
def frB : Fr := { Fr.zero 2 with dl := 1, rg := [(5, 8), (0, 2)] }
def frP : Fr := { Fr.zero 1 with mx := 1 }
theorem encF_no1 {f : Fr} {l : List Pt} (ht : tab f.ty = some l) (hc : clrs l { f with fin := false } ≠ Fr.zero f.ty) : encF f = none := by
  cases h : encF f with
  | none => rfl
  | some s =>
    obtain ⟨l', bs, h1, _, _, h4, _⟩ := encF_some h
    rw [ht] at h1
    cases h1
    exact absurd h4 hc
theorem encF_no2 {f : Fr} (ht : tab f.ty = none) : encF f = none := by
  cases h : encF f with
  | none => rfl
  | some s =>
    obtain ⟨l', bs, h1, _⟩ := encF_some h
    rw [ht] at h1
    cases h1
theorem putsA : puts [.int mV .st, .int mO .off, .text 0 1024] frA = some [4, 0, 2, 104, 105] := by kernel_rfl
theorem putsB : puts [.int mV .dl, .ranges] frB = some [1, 2, 7, 2, 2, 1] := by kernel_rfl
theorem encA : encF frA = some [9, 4, 0, 2, 104, 105] := encF_mk (f := frA) (l := [.int mV .st, .int mO .off, .text 0 1024]) rfl (fun h => h.2 rfl) putsA rfl
theorem encB : encF frB = some [2, 1, 2, 7, 2, 2, 1] := encF_mk (f := frB) (l := [.int mV .dl, .ranges]) rfl (fun h => by cases h.1) putsB rfl
theorem enc0 : encF (Fr.zero 0) = some [0] := encF_mk (f := Fr.zero 0) (l := []) rfl (fun h => by cases h.1) rfl rfl
theorem enc1 : encF (Fr.zero 1) = some [1] := encF_mk (f := Fr.zero 1) (l := []) rfl (fun h => by cases h.1) rfl rfl
theorem encP : encF frP = none := encF_no1 (f := frP) (l := []) rfl (fun h => by have := congrArg Fr.mx h; simp [clrs, frP, Fr.zero] at this)
theorem dec3 : decF [3] = none := by
  have h : encF (headF 3) = none := encF_no2 (f := headF 3) rfl
  show (match gets ((tab (headF 3).ty).getD []) (headF 3) [] with
      | none => none
      | some (f, l1) => match encF f with
          | none => none
          | some _ => some (f, l1)) = none
  rw [show gets ((tab (headF 3).ty).getD []) (headF 3) [] = some (headF 3, []) from rfl]
  simp only [h]
theorem daf01 : daF 3 [0, 1] = some [Fr.zero 0, Fr.zero 1] := by
  have h0 : decF [0, 1] = some (Fr.zero 0, [1]) := dec_enc enc0 (fun p hp => by cases hp) [1]
  have h1 : decF [1] = some (Fr.zero 1, []) := dec_enc enc1 (fun p hp => by cases hp) []
  simp only [daF, h0, h1]
  simp
theorem okZ (w : World) (f : Fr) (h : FrWf f) (ht : -9223372036854775808 ≤ f.ty ∧ f.ty ≤ 9223372036854775807) (hr : f.rg = []) : FrOk w f (.slice none 0 0) := ⟨h, ht, by rw [hr]; exact RgAt.nil w, by rw [hr]; simp⟩
theorem okA (w : World) : FrOk w frA (.slice none 0 0) := okZ w frA (by constructor <;> simp [frA, Fr.zero]) (by simp [frA, Fr.zero]) rfl
theorem okP (w : World) : FrOk w frP (.slice none 0 0) := okZ w frP (by constructor <;> simp [frP, Fr.zero]) (by simp [frP, Fr.zero]) rfl
theorem okB (w : World) (rv : Value) (h : RgAt w rv [(5, 8), (0, 2)]) : FrOk w frB rv := ⟨by constructor <;> simp [frB, Fr.zero], by simp [frB, Fr.zero], h, by simp [frB, Fr.zero]⟩
theorem sEncA (w : World) : Calls Try.prog 17 #[.agg #[.int .i64 8, .int .i64 4, .int .i64 0, .string ⟨#[104, 105]⟩, .bool true, .int .i64 0, .int .i64 0, .bool false, .int .i64 0, .slice none 0 0, .int .i64 0, .int .i64 0, .string ⟨#[]⟩]] w fun e w' => e = .returned (.tuple #[.string ⟨#[9, 4, 0, 2, 104, 105]⟩, .int .i64 0]) ∧ Only [] w w' := enc_ok frA _ w (okA w) encA
theorem sEncB (w : World) (rv : Value) (h : RgAt w rv [(5, 8), (0, 2)]) : Calls Try.prog 17 #[.agg #[.int .i64 2, .int .i64 0, .int .i64 0, .string ⟨#[]⟩, .bool false, .int .i64 0, .int .i64 0, .bool false, .int .i64 1, rv, .int .i64 0, .int .i64 0, .string ⟨#[]⟩]] w fun e w' => e = .returned (.tuple #[.string ⟨#[2, 1, 2, 7, 2, 2, 1]⟩, .int .i64 0]) ∧ Only [] w w' := enc_ok frB _ w (okB w rv h) encB
theorem sEncP (w : World) : Calls Try.prog 17 #[.agg #[.int .i64 1, .int .i64 0, .int .i64 0, .string ⟨#[]⟩, .bool false, .int .i64 1, .int .i64 0, .bool false, .int .i64 0, .slice none 0 0, .int .i64 0, .int .i64 0, .string ⟨#[]⟩]] w fun e w' => e = .returned (.tuple #[.string ⟨#[]⟩, .int .i64 90]) ∧ Only [] w w' := enc_no frP _ w (okP w) encP
theorem sDecB (w : World) : Calls Try.prog 18 #[.string ⟨#[0, 2, 1, 2, 7, 2, 2, 1]⟩, .int .i64 1] w fun e w' => ∃ ra rc, e = .returned (.tuple #[.agg #[.int .i64 2, .int .i64 0, .int .i64 0, .string ⟨#[]⟩, .bool false, .int .i64 0, .int .i64 0, .bool false, .int .i64 1, .slice ra 2 rc, .int .i64 0, .int .i64 0, .string ⟨#[]⟩], .int .i64 8, .int .i64 0]) ∧ RgAt w' (.slice ra 2 rc) [(5, 8), (0, 2)] ∧ Only [] w w' := by
  refine (dec_ok (p := [0]) (r := []) encB (by intro p hp; simp only [frB, List.mem_cons, List.not_mem_nil, or_false] at hp; rcases hp with rfl | rfl <;> simp) (by simp) (by simp) w).mono fun e w' ⟨rv, h1, h2, _, h3⟩ => ?_
  obtain ⟨ra, rc, hv, _⟩ := h2.rg
  have hr := h2.rg
  subst hv
  exact ⟨ra, rc, h1, hr, h3⟩
theorem sDec3 (w : World) : Calls Try.prog 18 #[.string ⟨#[3]⟩, .int .i64 0] w fun e w' => e = .returned (.tuple #[.agg #[.int .i64 0, .int .i64 0, .int .i64 0, .string ⟨#[]⟩, .bool false, .int .i64 0, .int .i64 0, .bool false, .int .i64 0, .slice none 0 0, .int .i64 0, .int .i64 0, .string ⟨#[]⟩], .int .i64 0, .int .i64 90]) ∧ Only [] w w' := by
  refine (dec_any ⟨#[3]⟩ (by decide) w).mono fun e w' ⟨h1, h2⟩ => ?_
  rw [show (⟨#[3]⟩ : ByteArray).data.toList = [3] from rfl, dec3] at h2
  exact ⟨h2, h1⟩
theorem sDecAll (w : World) : Calls Try.prog 26 #[.string ⟨#[0, 1]⟩] w fun e w' => ∃ g cap, e = .returned (.tuple #[.slice (some ⟨g, 0, none⟩) 2 cap, .int .i64 0]) ∧ g < w'.heap.size ∧ w'.cell? ⟨g, 0, none⟩ = some (.int .i64 0) ∧ w'.cell? ⟨g, 13, none⟩ = some (.int .i64 1) ∧ Only [] w w' := by
  refine (decAll_c ⟨#[0, 1]⟩ (by decide) w).mono fun e w' ⟨h1, h2⟩ => ?_
  rw [show (⟨#[0, 1]⟩ : ByteArray).data.toList = [0, 1] from rfl, show (⟨#[0, 1]⟩ : ByteArray).size + 1 = 3 from rfl, daf01] at h2
  obtain ⟨v, xs, rfl, hR, hm⟩ := h2
  match xs, hm with
  | [(f0, v0), (f1, v1)], hm =>
    simp only [List.map_cons, List.map_nil, List.cons.injEq, and_true] at hm
    obtain ⟨rfl, rfl⟩ := hm
    obtain ⟨g, cap, rfl, _, hg, _, hc⟩ := hR.form (by simp)
    exact ⟨g, cap, rfl, hg, hc 0 (by simp) 0 (by omega), hc 1 (by simp) 0 (by omega), h1⟩
theorem sRef (w : World) (ra rc : _) (g : Value) (h1 : RgAt w (.slice ra 2 rc) [(5, 8), (0, 2)]) (h2 : RgAt w g [(5, 8), (0, 2)]) : Calls Try.prog 30 #[.agg #[.int .i64 2, .int .i64 0, .int .i64 0, .string ⟨#[]⟩, .bool false, .int .i64 0, .int .i64 0, .bool false, .int .i64 1, .slice ra 2 rc, .int .i64 0, .int .i64 0, .string ⟨#[]⟩], .agg #[.int .i64 2, .int .i64 0, .int .i64 0, .string ⟨#[]⟩, .bool false, .int .i64 0, .int .i64 0, .bool false, .int .i64 1, g, .int .i64 0, .int .i64 0, .string ⟨#[]⟩]] w fun e w' => e = .returned (.bool true) ∧ Only [] w w' :=
  (rsame_c frB frB _ g w h1 h2 (by simp [frB, Fr.zero]) (by simp [frB, Fr.zero])).mono fun e w' ⟨z, h1, h2, h3⟩ => ⟨by rw [h1, h2.2 rfl], h3⟩
theorem sVal (w : World) : Calls Try.prog 19 #[.agg #[.int .i64 8, .int .i64 4, .int .i64 0, .string ⟨#[104, 105]⟩, .bool true, .int .i64 0, .int .i64 0, .bool false, .int .i64 0, .slice none 0 0, .int .i64 0, .int .i64 0, .string ⟨#[]⟩]] w fun e w' => e = .returned (.bool true) ∧ Only [] w w' := val_ok frA _ w (okA w) encA
theorem sSameT (w : World) : Calls Try.prog 20 #[.agg #[.int .i64 8, .int .i64 4, .int .i64 0, .string ⟨#[104, 105]⟩, .bool true, .int .i64 0, .int .i64 0, .bool false, .int .i64 0, .slice none 0 0, .int .i64 0, .int .i64 0, .string ⟨#[]⟩], .agg #[.int .i64 8, .int .i64 4, .int .i64 0, .string ⟨#[104, 105]⟩, .bool true, .int .i64 0, .int .i64 0, .bool false, .int .i64 0, .slice none 0 0, .int .i64 0, .int .i64 0, .string ⟨#[]⟩]] w fun e w' => e = .returned (.bool true) ∧ Only [] w w' :=
  (same_c frA frA _ _ w (okA w).rg (okA w).rg (by simp [frA, Fr.zero]) (by simp [frA, Fr.zero])).mono fun e w' ⟨z, h1, h2, h3⟩ => ⟨by rw [h1, h2.2 rfl], h3⟩
theorem sSameF (w : World) (g : Value) (hg : RgAt w g [(5, 8), (0, 2)]) : Calls Try.prog 20 #[.agg #[.int .i64 8, .int .i64 4, .int .i64 0, .string ⟨#[104, 105]⟩, .bool true, .int .i64 0, .int .i64 0, .bool false, .int .i64 0, .slice none 0 0, .int .i64 0, .int .i64 0, .string ⟨#[]⟩], .agg #[.int .i64 2, .int .i64 0, .int .i64 0, .string ⟨#[]⟩, .bool false, .int .i64 0, .int .i64 0, .bool false, .int .i64 1, g, .int .i64 0, .int .i64 0, .string ⟨#[]⟩]] w fun e w' => e = .returned (.bool false) ∧ Only [] w w' :=
  (same_c frA frB _ g w (okA w).rg hg (by simp [frA, Fr.zero]) (by simp [frB, Fr.zero])).mono fun e w' ⟨z, h1, h2, h3⟩ => ⟨by
    have : z = false := by
      cases z
      · rfl
      · have := congrArg Fr.ty (h2.1 rfl)
        simp [frA, frB, Fr.zero] at this
    rw [h1, this], h3⟩
theorem sElA (w : World) : Calls Try.prog 21 #[.agg #[.int .i64 8, .int .i64 4, .int .i64 0, .string ⟨#[104, 105]⟩, .bool true, .int .i64 0, .int .i64 0, .bool false, .int .i64 0, .slice none 0 0, .int .i64 0, .int .i64 0, .string ⟨#[]⟩]] w fun e w' => e = .returned (.bool true) ∧ Only [] w w' := elic_c frA (.slice none 0 0) w
theorem sElB (w : World) (g : Value) : Calls Try.prog 21 #[.agg #[.int .i64 2, .int .i64 0, .int .i64 0, .string ⟨#[]⟩, .bool false, .int .i64 0, .int .i64 0, .bool false, .int .i64 1, g, .int .i64 0, .int .i64 0, .string ⟨#[]⟩]] w fun e w' => e = .returned (.bool false) ∧ Only [] w w' := elic_c frB g w
theorem sAl4 (w : World) : Calls Try.prog 33 #[.int .i64 4, .agg #[.int .i64 8, .int .i64 4, .int .i64 0, .string ⟨#[104, 105]⟩, .bool true, .int .i64 0, .int .i64 0, .bool false, .int .i64 0, .slice none 0 0, .int .i64 0, .int .i64 0, .string ⟨#[]⟩]] w fun e w' => e = .returned (.bool true) ∧ Only [] w w' := allow_c 4 frA (.slice none 0 0) w
theorem sAl0 (w : World) : Calls Try.prog 33 #[.int .i64 0, .agg #[.int .i64 8, .int .i64 4, .int .i64 0, .string ⟨#[104, 105]⟩, .bool true, .int .i64 0, .int .i64 0, .bool false, .int .i64 0, .slice none 0 0, .int .i64 0, .int .i64 0, .string ⟨#[]⟩]] w fun e w' => e = .returned (.bool false) ∧ Only [] w w' := allow_c 0 frA (.slice none 0 0) w
set_option maxRecDepth 100000 in
set_option maxHeartbeats 8000000 in
theorem sane9 (w : World) : Calls Try.prog 22 #[] w fun e w' => e = .returned (.bool true) ∧ Only [] w w' := by
  have eC : (⟨#[0]⟩ : ByteArray) ++ ⟨#[2, 1, 2, 7, 2, 2, 1]⟩ = ⟨#[0, 2, 1, 2, 7, 2, 2, 1]⟩ := rfl
  have eS : ¬ 9223372036854775807 < (⟨#[0]⟩ : ByteArray).size + (⟨#[2, 1, 2, 7, 2, 2, 1]⟩ : ByteArray).size := by decide
  go_enter Try.func22, Try.ntmps22
  go_upto_region 2 with fail
  have hA := At.new w 33 #[.int .i64 8, .int .i64 4, .int .i64 0, .string ⟨#[104, 105]⟩, .bool true, .int .i64 0, .int .i64 0, .bool false, .int .i64 0, .slice none 0 0, .int .i64 0, .int .i64 0, .string ⟨#[]⟩]
  have hO := (Only.refl [] w).alloc (.cells #[.int .i64 8, .int .i64 4, .int .i64 0, .string ⟨#[104, 105]⟩, .bool true, .int .i64 0, .int .i64 0, .bool false, .int .i64 0, .slice none 0 0, .int .i64 0, .int .i64 0, .string ⟨#[]⟩] 33)
  generalize w.alloc (.cells #[.int .i64 8, .int .i64 4, .int .i64 0, .string ⟨#[104, 105]⟩, .bool true, .int .i64 0, .int .i64 0, .bool false, .int .i64 0, .slice none 0 0, .int .i64 0, .int .i64 0, .string ⟨#[]⟩] 33) = w1 at hA hO ⊢
  generalize w.heap.size = pa at hA ⊢
  go_upto_region 3 with fail
  have hG := (At.new w1 43 #[.int .i64 5, .int .i64 8, .int .i64 0, .int .i64 2]).alloc (.cells #[.int .i64 2, .int .i64 0, .int .i64 0, .string ⟨#[]⟩, .bool false, .int .i64 0, .int .i64 0, .bool false, .int .i64 1, .slice (some ⟨w1.heap.size, 0, none⟩) 2 2, .int .i64 0, .int .i64 0, .string ⟨#[]⟩] 33)
  have hB := At.new (w1.alloc (.cells #[.int .i64 5, .int .i64 8, .int .i64 0, .int .i64 2] 43)) 33 #[.int .i64 2, .int .i64 0, .int .i64 0, .string ⟨#[]⟩, .bool false, .int .i64 0, .int .i64 0, .bool false, .int .i64 1, .slice (some ⟨w1.heap.size, 0, none⟩) 2 2, .int .i64 0, .int .i64 0, .string ⟨#[]⟩]
  rw [World.size_alloc] at hB
  have hA2 := (hA.alloc (.cells #[.int .i64 5, .int .i64 8, .int .i64 0, .int .i64 2] 43)).alloc (.cells #[.int .i64 2, .int .i64 0, .int .i64 0, .string ⟨#[]⟩, .bool false, .int .i64 0, .int .i64 0, .bool false, .int .i64 1, .slice (some ⟨w1.heap.size, 0, none⟩) 2 2, .int .i64 0, .int .i64 0, .string ⟨#[]⟩] 33)
  have hO2 := (hO.alloc (.cells #[.int .i64 5, .int .i64 8, .int .i64 0, .int .i64 2] 43)).alloc (.cells #[.int .i64 2, .int .i64 0, .int .i64 0, .string ⟨#[]⟩, .bool false, .int .i64 0, .int .i64 0, .bool false, .int .i64 1, .slice (some ⟨w1.heap.size, 0, none⟩) 2 2, .int .i64 0, .int .i64 0, .string ⟨#[]⟩] 33)
  clear hA hO
  generalize (w1.alloc (.cells #[.int .i64 5, .int .i64 8, .int .i64 0, .int .i64 2] 43)).alloc (.cells #[.int .i64 2, .int .i64 0, .int .i64 0, .string ⟨#[]⟩, .bool false, .int .i64 0, .int .i64 0, .bool false, .int .i64 1, .slice (some ⟨w1.heap.size, 0, none⟩) 2 2, .int .i64 0, .int .i64 0, .string ⟨#[]⟩] 33) = w2 at hG hB hA2 hO2 ⊢
  generalize w1.heap.size = pg at hG hB ⊢
  have hgl := hG.lt
  have hRG : RgAt w2 (.slice (some ⟨pg, 0, none⟩) 2 2) [(5, 8), (0, 2)] := by
    refine ⟨some ⟨pg, 0, none⟩, 2, rfl, fun i hi => ?_⟩
    refine ⟨pg, 0, rfl, hgl, ?_⟩
    rcases i with _ | _ | i
    · exact ⟨hG.cell 0 rfl, hG.cell 1 rfl, by simp, by simp⟩
    · exact ⟨hG.cell 2 rfl, hG.cell 3 rfl, by simp, by simp⟩
    · exact absurd (show i + 1 + 1 < 2 from hi) (by omega)
  have HA := Lib.hid hA2
  have HB := Lib.hid hB
  have HR := Lib.hid hRG
  have HO := Lib.hid hO2
  have H2 := Lib.hid (Only.refl [] w2)
  clear hA2 hB hRG hO2 hG hgl
  generalize hpb : pg + 1 = pb at HB ⊢
  clear hpb
  have a0 : w2.cell? ⟨pa, 0, none⟩ = some (.int .i64 8) := (HA.out.keep H2.out (by simp)).cell 0 rfl
  have a1 : w2.cell? ⟨pa, 1, none⟩ = some (.int .i64 4) := (HA.out.keep H2.out (by simp)).cell 1 rfl
  have a2 : w2.cell? ⟨pa, 2, none⟩ = some (.int .i64 0) := (HA.out.keep H2.out (by simp)).cell 2 rfl
  have a3 : w2.cell? ⟨pa, 3, none⟩ = some (.string ⟨#[104, 105]⟩) := (HA.out.keep H2.out (by simp)).cell 3 rfl
  have a4 : w2.cell? ⟨pa, 4, none⟩ = some (.bool true) := (HA.out.keep H2.out (by simp)).cell 4 rfl
  have a5 : w2.cell? ⟨pa, 5, none⟩ = some (.int .i64 0) := (HA.out.keep H2.out (by simp)).cell 5 rfl
  have a6 : w2.cell? ⟨pa, 6, none⟩ = some (.int .i64 0) := (HA.out.keep H2.out (by simp)).cell 6 rfl
  have a7 : w2.cell? ⟨pa, 7, none⟩ = some (.bool false) := (HA.out.keep H2.out (by simp)).cell 7 rfl
  have a8 : w2.cell? ⟨pa, 8, none⟩ = some (.int .i64 0) := (HA.out.keep H2.out (by simp)).cell 8 rfl
  have a9 : w2.cell? ⟨pa, 9, none⟩ = some (.slice none 0 0) := (HA.out.keep H2.out (by simp)).cell 9 rfl
  have a10 : w2.cell? ⟨pa, 10, none⟩ = some (.int .i64 0) := (HA.out.keep H2.out (by simp)).cell 10 rfl
  have a11 : w2.cell? ⟨pa, 11, none⟩ = some (.int .i64 0) := (HA.out.keep H2.out (by simp)).cell 11 rfl
  have a12 : w2.cell? ⟨pa, 12, none⟩ = some (.string ⟨#[]⟩) := (HA.out.keep H2.out (by simp)).cell 12 rfl
  go_wp2_with fail
  refine (sEncA _).mono ?_
  rintro e w3 ⟨rfl, ho⟩
  clear a0 a1 a2 a3 a4 a5 a6 a7 a8 a9 a10 a11 a12
  replace H2 := Lib.hid ((H2.out).trans ho)
  replace HO := Lib.hid ((HO.out).trans ho)
  clear ho
  have b0 : w3.cell? ⟨pb, 0, none⟩ = some (.int .i64 2) := (HB.out.keep H2.out (by simp)).cell 0 rfl
  have b1 : w3.cell? ⟨pb, 1, none⟩ = some (.int .i64 0) := (HB.out.keep H2.out (by simp)).cell 1 rfl
  have b2 : w3.cell? ⟨pb, 2, none⟩ = some (.int .i64 0) := (HB.out.keep H2.out (by simp)).cell 2 rfl
  have b3 : w3.cell? ⟨pb, 3, none⟩ = some (.string ⟨#[]⟩) := (HB.out.keep H2.out (by simp)).cell 3 rfl
  have b4 : w3.cell? ⟨pb, 4, none⟩ = some (.bool false) := (HB.out.keep H2.out (by simp)).cell 4 rfl
  have b5 : w3.cell? ⟨pb, 5, none⟩ = some (.int .i64 0) := (HB.out.keep H2.out (by simp)).cell 5 rfl
  have b6 : w3.cell? ⟨pb, 6, none⟩ = some (.int .i64 0) := (HB.out.keep H2.out (by simp)).cell 6 rfl
  have b7 : w3.cell? ⟨pb, 7, none⟩ = some (.bool false) := (HB.out.keep H2.out (by simp)).cell 7 rfl
  have b8 : w3.cell? ⟨pb, 8, none⟩ = some (.int .i64 1) := (HB.out.keep H2.out (by simp)).cell 8 rfl
  have b9 : w3.cell? ⟨pb, 9, none⟩ = some (.slice (some ⟨pg, 0, none⟩) 2 2) := (HB.out.keep H2.out (by simp)).cell 9 rfl
  have b10 : w3.cell? ⟨pb, 10, none⟩ = some (.int .i64 0) := (HB.out.keep H2.out (by simp)).cell 10 rfl
  have b11 : w3.cell? ⟨pb, 11, none⟩ = some (.int .i64 0) := (HB.out.keep H2.out (by simp)).cell 11 rfl
  have b12 : w3.cell? ⟨pb, 12, none⟩ = some (.string ⟨#[]⟩) := (HB.out.keep H2.out (by simp)).cell 12 rfl
  go_wp2_with fail
  refine (sEncB _ _ (HR.out.keep H2.out)).mono ?_
  rintro e w4 ⟨rfl, ho⟩
  clear b0 b1 b2 b3 b4 b5 b6 b7 b8 b9 b10 b11 b12
  replace H2 := Lib.hid ((H2.out).trans ho)
  replace HO := Lib.hid ((HO.out).trans ho)
  clear ho
  go_wp2_with fail
  refine (sDecB _).mono ?_
  rintro e w5 ⟨ra, rc, rfl, hrc, ho⟩
  replace H2 := Lib.hid ((H2.out).trans ho)
  replace HO := Lib.hid ((HO.out).trans ho)
  clear ho
  go_upto_region 6 with fail
  have hC := At.new w5 33 #[.int .i64 2, .int .i64 0, .int .i64 0, .string ⟨#[]⟩, .bool false, .int .i64 0, .int .i64 0, .bool false, .int .i64 1, .slice ra 2 rc, .int .i64 0, .int .i64 0, .string ⟨#[]⟩]
  have hRC := hrc.keep ((Only.refl [] w5).alloc (.cells #[.int .i64 2, .int .i64 0, .int .i64 0, .string ⟨#[]⟩, .bool false, .int .i64 0, .int .i64 0, .bool false, .int .i64 1, .slice ra 2 rc, .int .i64 0, .int .i64 0, .string ⟨#[]⟩] 33))
  replace H2 := Lib.hid (H2.out.alloc (.cells #[.int .i64 2, .int .i64 0, .int .i64 0, .string ⟨#[]⟩, .bool false, .int .i64 0, .int .i64 0, .bool false, .int .i64 1, .slice ra 2 rc, .int .i64 0, .int .i64 0, .string ⟨#[]⟩] 33))
  replace HO := Lib.hid (HO.out.alloc (.cells #[.int .i64 2, .int .i64 0, .int .i64 0, .string ⟨#[]⟩, .bool false, .int .i64 0, .int .i64 0, .bool false, .int .i64 1, .slice ra 2 rc, .int .i64 0, .int .i64 0, .string ⟨#[]⟩] 33))
  clear hrc
  generalize w5.alloc (.cells #[.int .i64 2, .int .i64 0, .int .i64 0, .string ⟨#[]⟩, .bool false, .int .i64 0, .int .i64 0, .bool false, .int .i64 1, .slice ra 2 rc, .int .i64 0, .int .i64 0, .string ⟨#[]⟩] 33) = w6 at hC hRC H2 HO ⊢
  generalize w5.heap.size = pc at hC ⊢
  have HC := Lib.hid hC
  have HRC := Lib.hid hRC
  clear hC hRC
  have H5 := Lib.hid (Only.refl [] w6)
  go_wp2_with fail
  refine (sDecAll _).mono ?_
  rintro e w7 ⟨gd, dc, rfl, hgd, hd0, hd1, ho⟩
  replace H2 := Lib.hid ((H2.out).trans ho)
  replace H5 := Lib.hid ((H5.out).trans ho)
  replace HO := Lib.hid ((HO.out).trans ho)
  clear ho
  have HD := Lib.hid (And.intro hgd (And.intro hd0 hd1))
  clear hgd hd0 hd1
  have H6 := Lib.hid (Only.refl [] w7)
  go_wp2_with fail
  refine (sDec3 _).mono ?_
  rintro e w8 ⟨rfl, ho⟩
  replace H2 := Lib.hid ((H2.out).trans ho)
  replace H5 := Lib.hid ((H5.out).trans ho)
  replace H6 := Lib.hid ((H6.out).trans ho)
  replace HO := Lib.hid ((HO.out).trans ho)
  clear ho
  go_upto_region 8 with fail
  replace H2 := Lib.hid (H2.out.alloc (.cells #[.int .i64 0, .int .i64 0, .int .i64 0, .string ⟨#[]⟩, .bool false, .int .i64 0, .int .i64 0, .bool false, .int .i64 0, .slice none 0 0, .int .i64 0, .int .i64 0, .string ⟨#[]⟩] 33))
  replace H5 := Lib.hid (H5.out.alloc (.cells #[.int .i64 0, .int .i64 0, .int .i64 0, .string ⟨#[]⟩, .bool false, .int .i64 0, .int .i64 0, .bool false, .int .i64 0, .slice none 0 0, .int .i64 0, .int .i64 0, .string ⟨#[]⟩] 33))
  replace H6 := Lib.hid (H6.out.alloc (.cells #[.int .i64 0, .int .i64 0, .int .i64 0, .string ⟨#[]⟩, .bool false, .int .i64 0, .int .i64 0, .bool false, .int .i64 0, .slice none 0 0, .int .i64 0, .int .i64 0, .string ⟨#[]⟩] 33))
  replace HO := Lib.hid (HO.out.alloc (.cells #[.int .i64 0, .int .i64 0, .int .i64 0, .string ⟨#[]⟩, .bool false, .int .i64 0, .int .i64 0, .bool false, .int .i64 0, .slice none 0 0, .int .i64 0, .int .i64 0, .string ⟨#[]⟩] 33))
  generalize w8.alloc (.cells #[.int .i64 0, .int .i64 0, .int .i64 0, .string ⟨#[]⟩, .bool false, .int .i64 0, .int .i64 0, .bool false, .int .i64 0, .slice none 0 0, .int .i64 0, .int .i64 0, .string ⟨#[]⟩] 33) = w9 at H2 H5 H6 HO ⊢
  go_wp2_with fail
  refine (sEncP _).mono ?_
  rintro e w10 ⟨rfl, ho⟩
  replace H2 := Lib.hid ((H2.out).trans ho)
  replace H5 := Lib.hid ((H5.out).trans ho)
  replace H6 := Lib.hid ((H6.out).trans ho)
  replace HO := Lib.hid ((HO.out).trans ho)
  clear ho
  have c0 : w10.cell? ⟨pc, 0, none⟩ = some (.int .i64 2) := (HC.out.keep H5.out (by simp)).cell 0 rfl
  have c1 : w10.cell? ⟨pc, 1, none⟩ = some (.int .i64 0) := (HC.out.keep H5.out (by simp)).cell 1 rfl
  have c2 : w10.cell? ⟨pc, 2, none⟩ = some (.int .i64 0) := (HC.out.keep H5.out (by simp)).cell 2 rfl
  have c3 : w10.cell? ⟨pc, 3, none⟩ = some (.string ⟨#[]⟩) := (HC.out.keep H5.out (by simp)).cell 3 rfl
  have c4 : w10.cell? ⟨pc, 4, none⟩ = some (.bool false) := (HC.out.keep H5.out (by simp)).cell 4 rfl
  have c5 : w10.cell? ⟨pc, 5, none⟩ = some (.int .i64 0) := (HC.out.keep H5.out (by simp)).cell 5 rfl
  have c6 : w10.cell? ⟨pc, 6, none⟩ = some (.int .i64 0) := (HC.out.keep H5.out (by simp)).cell 6 rfl
  have c7 : w10.cell? ⟨pc, 7, none⟩ = some (.bool false) := (HC.out.keep H5.out (by simp)).cell 7 rfl
  have c8 : w10.cell? ⟨pc, 8, none⟩ = some (.int .i64 1) := (HC.out.keep H5.out (by simp)).cell 8 rfl
  have c9 : w10.cell? ⟨pc, 9, none⟩ = some (.slice ra 2 rc) := (HC.out.keep H5.out (by simp)).cell 9 rfl
  have c10 : w10.cell? ⟨pc, 10, none⟩ = some (.int .i64 0) := (HC.out.keep H5.out (by simp)).cell 10 rfl
  have c11 : w10.cell? ⟨pc, 11, none⟩ = some (.int .i64 0) := (HC.out.keep H5.out (by simp)).cell 11 rfl
  have c12 : w10.cell? ⟨pc, 12, none⟩ = some (.string ⟨#[]⟩) := (HC.out.keep H5.out (by simp)).cell 12 rfl
  have b0 : w10.cell? ⟨pb, 0, none⟩ = some (.int .i64 2) := (HB.out.keep H2.out (by simp)).cell 0 rfl
  have b1 : w10.cell? ⟨pb, 1, none⟩ = some (.int .i64 0) := (HB.out.keep H2.out (by simp)).cell 1 rfl
  have b2 : w10.cell? ⟨pb, 2, none⟩ = some (.int .i64 0) := (HB.out.keep H2.out (by simp)).cell 2 rfl
  have b3 : w10.cell? ⟨pb, 3, none⟩ = some (.string ⟨#[]⟩) := (HB.out.keep H2.out (by simp)).cell 3 rfl
  have b4 : w10.cell? ⟨pb, 4, none⟩ = some (.bool false) := (HB.out.keep H2.out (by simp)).cell 4 rfl
  have b5 : w10.cell? ⟨pb, 5, none⟩ = some (.int .i64 0) := (HB.out.keep H2.out (by simp)).cell 5 rfl
  have b6 : w10.cell? ⟨pb, 6, none⟩ = some (.int .i64 0) := (HB.out.keep H2.out (by simp)).cell 6 rfl
  have b7 : w10.cell? ⟨pb, 7, none⟩ = some (.bool false) := (HB.out.keep H2.out (by simp)).cell 7 rfl
  have b8 : w10.cell? ⟨pb, 8, none⟩ = some (.int .i64 1) := (HB.out.keep H2.out (by simp)).cell 8 rfl
  have b9 : w10.cell? ⟨pb, 9, none⟩ = some (.slice (some ⟨pg, 0, none⟩) 2 2) := (HB.out.keep H2.out (by simp)).cell 9 rfl
  have b10 : w10.cell? ⟨pb, 10, none⟩ = some (.int .i64 0) := (HB.out.keep H2.out (by simp)).cell 10 rfl
  have b11 : w10.cell? ⟨pb, 11, none⟩ = some (.int .i64 0) := (HB.out.keep H2.out (by simp)).cell 11 rfl
  have b12 : w10.cell? ⟨pb, 12, none⟩ = some (.string ⟨#[]⟩) := (HB.out.keep H2.out (by simp)).cell 12 rfl
  go_wp2_with fail
  refine (sRef _ ra rc _ (HRC.out.keep H5.out) (HR.out.keep H2.out)).mono ?_
  rintro e w11 ⟨rfl, ho⟩
  clear c0 c1 c2 c3 c4 c5 c6 c7 c8 c9 c10 c11 c12 b0 b1 b2 b3 b4 b5 b6 b7 b8 b9 b10 b11 b12
  replace H2 := Lib.hid ((H2.out).trans ho)
  replace H5 := Lib.hid ((H5.out).trans ho)
  replace H6 := Lib.hid ((H6.out).trans ho)
  replace HO := Lib.hid ((HO.out).trans ho)
  clear ho
  have a0 : w11.cell? ⟨pa, 0, none⟩ = some (.int .i64 8) := (HA.out.keep H2.out (by simp)).cell 0 rfl
  have a1 : w11.cell? ⟨pa, 1, none⟩ = some (.int .i64 4) := (HA.out.keep H2.out (by simp)).cell 1 rfl
  have a2 : w11.cell? ⟨pa, 2, none⟩ = some (.int .i64 0) := (HA.out.keep H2.out (by simp)).cell 2 rfl
  have a3 : w11.cell? ⟨pa, 3, none⟩ = some (.string ⟨#[104, 105]⟩) := (HA.out.keep H2.out (by simp)).cell 3 rfl
  have a4 : w11.cell? ⟨pa, 4, none⟩ = some (.bool true) := (HA.out.keep H2.out (by simp)).cell 4 rfl
  have a5 : w11.cell? ⟨pa, 5, none⟩ = some (.int .i64 0) := (HA.out.keep H2.out (by simp)).cell 5 rfl
  have a6 : w11.cell? ⟨pa, 6, none⟩ = some (.int .i64 0) := (HA.out.keep H2.out (by simp)).cell 6 rfl
  have a7 : w11.cell? ⟨pa, 7, none⟩ = some (.bool false) := (HA.out.keep H2.out (by simp)).cell 7 rfl
  have a8 : w11.cell? ⟨pa, 8, none⟩ = some (.int .i64 0) := (HA.out.keep H2.out (by simp)).cell 8 rfl
  have a9 : w11.cell? ⟨pa, 9, none⟩ = some (.slice none 0 0) := (HA.out.keep H2.out (by simp)).cell 9 rfl
  have a10 : w11.cell? ⟨pa, 10, none⟩ = some (.int .i64 0) := (HA.out.keep H2.out (by simp)).cell 10 rfl
  have a11 : w11.cell? ⟨pa, 11, none⟩ = some (.int .i64 0) := (HA.out.keep H2.out (by simp)).cell 11 rfl
  have a12 : w11.cell? ⟨pa, 12, none⟩ = some (.string ⟨#[]⟩) := (HA.out.keep H2.out (by simp)).cell 12 rfl
  have q0 : w11.cell? ⟨gd, 0, none⟩ = some (.int .i64 0) := (H6.out.cell (p := ⟨gd, 0, none⟩) HD.out.1 (by simp)).trans HD.out.2.1
  have q1 : w11.cell? ⟨gd, 13, none⟩ = some (.int .i64 1) := (H6.out.cell (p := ⟨gd, 13, none⟩) HD.out.1 (by simp)).trans HD.out.2.2
  go_wp2_with fail
  refine (sVal _).mono ?_
  rintro e w12 ⟨rfl, ho⟩
  clear a0 a1 a2 a3 a4 a5 a6 a7 a8 a9 a10 a11 a12
  replace H2 := Lib.hid ((H2.out).trans ho)
  replace H5 := Lib.hid ((H5.out).trans ho)
  replace H6 := Lib.hid ((H6.out).trans ho)
  replace HO := Lib.hid ((HO.out).trans ho)
  clear ho
  clear q0 q1
  have a0 : w12.cell? ⟨pa, 0, none⟩ = some (.int .i64 8) := (HA.out.keep H2.out (by simp)).cell 0 rfl
  have a1 : w12.cell? ⟨pa, 1, none⟩ = some (.int .i64 4) := (HA.out.keep H2.out (by simp)).cell 1 rfl
  have a2 : w12.cell? ⟨pa, 2, none⟩ = some (.int .i64 0) := (HA.out.keep H2.out (by simp)).cell 2 rfl
  have a3 : w12.cell? ⟨pa, 3, none⟩ = some (.string ⟨#[104, 105]⟩) := (HA.out.keep H2.out (by simp)).cell 3 rfl
  have a4 : w12.cell? ⟨pa, 4, none⟩ = some (.bool true) := (HA.out.keep H2.out (by simp)).cell 4 rfl
  have a5 : w12.cell? ⟨pa, 5, none⟩ = some (.int .i64 0) := (HA.out.keep H2.out (by simp)).cell 5 rfl
  have a6 : w12.cell? ⟨pa, 6, none⟩ = some (.int .i64 0) := (HA.out.keep H2.out (by simp)).cell 6 rfl
  have a7 : w12.cell? ⟨pa, 7, none⟩ = some (.bool false) := (HA.out.keep H2.out (by simp)).cell 7 rfl
  have a8 : w12.cell? ⟨pa, 8, none⟩ = some (.int .i64 0) := (HA.out.keep H2.out (by simp)).cell 8 rfl
  have a9 : w12.cell? ⟨pa, 9, none⟩ = some (.slice none 0 0) := (HA.out.keep H2.out (by simp)).cell 9 rfl
  have a10 : w12.cell? ⟨pa, 10, none⟩ = some (.int .i64 0) := (HA.out.keep H2.out (by simp)).cell 10 rfl
  have a11 : w12.cell? ⟨pa, 11, none⟩ = some (.int .i64 0) := (HA.out.keep H2.out (by simp)).cell 11 rfl
  have a12 : w12.cell? ⟨pa, 12, none⟩ = some (.string ⟨#[]⟩) := (HA.out.keep H2.out (by simp)).cell 12 rfl
  go_wp2_with fail
  refine (sSameT _).mono ?_
  rintro e w13 ⟨rfl, ho⟩
  clear a0 a1 a2 a3 a4 a5 a6 a7 a8 a9 a10 a11 a12
  replace H2 := Lib.hid ((H2.out).trans ho)
  replace H5 := Lib.hid ((H5.out).trans ho)
  replace H6 := Lib.hid ((H6.out).trans ho)
  replace HO := Lib.hid ((HO.out).trans ho)
  clear ho
  have a0 : w13.cell? ⟨pa, 0, none⟩ = some (.int .i64 8) := (HA.out.keep H2.out (by simp)).cell 0 rfl
  have a1 : w13.cell? ⟨pa, 1, none⟩ = some (.int .i64 4) := (HA.out.keep H2.out (by simp)).cell 1 rfl
  have a2 : w13.cell? ⟨pa, 2, none⟩ = some (.int .i64 0) := (HA.out.keep H2.out (by simp)).cell 2 rfl
  have a3 : w13.cell? ⟨pa, 3, none⟩ = some (.string ⟨#[104, 105]⟩) := (HA.out.keep H2.out (by simp)).cell 3 rfl
  have a4 : w13.cell? ⟨pa, 4, none⟩ = some (.bool true) := (HA.out.keep H2.out (by simp)).cell 4 rfl
  have a5 : w13.cell? ⟨pa, 5, none⟩ = some (.int .i64 0) := (HA.out.keep H2.out (by simp)).cell 5 rfl
  have a6 : w13.cell? ⟨pa, 6, none⟩ = some (.int .i64 0) := (HA.out.keep H2.out (by simp)).cell 6 rfl
  have a7 : w13.cell? ⟨pa, 7, none⟩ = some (.bool false) := (HA.out.keep H2.out (by simp)).cell 7 rfl
  have a8 : w13.cell? ⟨pa, 8, none⟩ = some (.int .i64 0) := (HA.out.keep H2.out (by simp)).cell 8 rfl
  have a9 : w13.cell? ⟨pa, 9, none⟩ = some (.slice none 0 0) := (HA.out.keep H2.out (by simp)).cell 9 rfl
  have a10 : w13.cell? ⟨pa, 10, none⟩ = some (.int .i64 0) := (HA.out.keep H2.out (by simp)).cell 10 rfl
  have a11 : w13.cell? ⟨pa, 11, none⟩ = some (.int .i64 0) := (HA.out.keep H2.out (by simp)).cell 11 rfl
  have a12 : w13.cell? ⟨pa, 12, none⟩ = some (.string ⟨#[]⟩) := (HA.out.keep H2.out (by simp)).cell 12 rfl
  have b0 : w13.cell? ⟨pb, 0, none⟩ = some (.int .i64 2) := (HB.out.keep H2.out (by simp)).cell 0 rfl
  have b1 : w13.cell? ⟨pb, 1, none⟩ = some (.int .i64 0) := (HB.out.keep H2.out (by simp)).cell 1 rfl
  have b2 : w13.cell? ⟨pb, 2, none⟩ = some (.int .i64 0) := (HB.out.keep H2.out (by simp)).cell 2 rfl
  have b3 : w13.cell? ⟨pb, 3, none⟩ = some (.string ⟨#[]⟩) := (HB.out.keep H2.out (by simp)).cell 3 rfl
  have b4 : w13.cell? ⟨pb, 4, none⟩ = some (.bool false) := (HB.out.keep H2.out (by simp)).cell 4 rfl
  have b5 : w13.cell? ⟨pb, 5, none⟩ = some (.int .i64 0) := (HB.out.keep H2.out (by simp)).cell 5 rfl
  have b6 : w13.cell? ⟨pb, 6, none⟩ = some (.int .i64 0) := (HB.out.keep H2.out (by simp)).cell 6 rfl
  have b7 : w13.cell? ⟨pb, 7, none⟩ = some (.bool false) := (HB.out.keep H2.out (by simp)).cell 7 rfl
  have b8 : w13.cell? ⟨pb, 8, none⟩ = some (.int .i64 1) := (HB.out.keep H2.out (by simp)).cell 8 rfl
  have b9 : w13.cell? ⟨pb, 9, none⟩ = some (.slice (some ⟨pg, 0, none⟩) 2 2) := (HB.out.keep H2.out (by simp)).cell 9 rfl
  have b10 : w13.cell? ⟨pb, 10, none⟩ = some (.int .i64 0) := (HB.out.keep H2.out (by simp)).cell 10 rfl
  have b11 : w13.cell? ⟨pb, 11, none⟩ = some (.int .i64 0) := (HB.out.keep H2.out (by simp)).cell 11 rfl
  have b12 : w13.cell? ⟨pb, 12, none⟩ = some (.string ⟨#[]⟩) := (HB.out.keep H2.out (by simp)).cell 12 rfl
  go_wp2_with fail
  refine (sSameF _ _ (HR.out.keep H2.out)).mono ?_
  rintro e w14 ⟨rfl, ho⟩
  clear a0 a1 a2 a3 a4 a5 a6 a7 a8 a9 a10 a11 a12 b0 b1 b2 b3 b4 b5 b6 b7 b8 b9 b10 b11 b12
  replace H2 := Lib.hid ((H2.out).trans ho)
  replace H5 := Lib.hid ((H5.out).trans ho)
  replace H6 := Lib.hid ((H6.out).trans ho)
  replace HO := Lib.hid ((HO.out).trans ho)
  clear ho
  have a0 : w14.cell? ⟨pa, 0, none⟩ = some (.int .i64 8) := (HA.out.keep H2.out (by simp)).cell 0 rfl
  have a1 : w14.cell? ⟨pa, 1, none⟩ = some (.int .i64 4) := (HA.out.keep H2.out (by simp)).cell 1 rfl
  have a2 : w14.cell? ⟨pa, 2, none⟩ = some (.int .i64 0) := (HA.out.keep H2.out (by simp)).cell 2 rfl
  have a3 : w14.cell? ⟨pa, 3, none⟩ = some (.string ⟨#[104, 105]⟩) := (HA.out.keep H2.out (by simp)).cell 3 rfl
  have a4 : w14.cell? ⟨pa, 4, none⟩ = some (.bool true) := (HA.out.keep H2.out (by simp)).cell 4 rfl
  have a5 : w14.cell? ⟨pa, 5, none⟩ = some (.int .i64 0) := (HA.out.keep H2.out (by simp)).cell 5 rfl
  have a6 : w14.cell? ⟨pa, 6, none⟩ = some (.int .i64 0) := (HA.out.keep H2.out (by simp)).cell 6 rfl
  have a7 : w14.cell? ⟨pa, 7, none⟩ = some (.bool false) := (HA.out.keep H2.out (by simp)).cell 7 rfl
  have a8 : w14.cell? ⟨pa, 8, none⟩ = some (.int .i64 0) := (HA.out.keep H2.out (by simp)).cell 8 rfl
  have a9 : w14.cell? ⟨pa, 9, none⟩ = some (.slice none 0 0) := (HA.out.keep H2.out (by simp)).cell 9 rfl
  have a10 : w14.cell? ⟨pa, 10, none⟩ = some (.int .i64 0) := (HA.out.keep H2.out (by simp)).cell 10 rfl
  have a11 : w14.cell? ⟨pa, 11, none⟩ = some (.int .i64 0) := (HA.out.keep H2.out (by simp)).cell 11 rfl
  have a12 : w14.cell? ⟨pa, 12, none⟩ = some (.string ⟨#[]⟩) := (HA.out.keep H2.out (by simp)).cell 12 rfl
  go_wp2_with fail
  refine (sElA _).mono ?_
  rintro e w15 ⟨rfl, ho⟩
  clear a0 a1 a2 a3 a4 a5 a6 a7 a8 a9 a10 a11 a12
  replace H2 := Lib.hid ((H2.out).trans ho)
  replace H5 := Lib.hid ((H5.out).trans ho)
  replace H6 := Lib.hid ((H6.out).trans ho)
  replace HO := Lib.hid ((HO.out).trans ho)
  clear ho
  have b0 : w15.cell? ⟨pb, 0, none⟩ = some (.int .i64 2) := (HB.out.keep H2.out (by simp)).cell 0 rfl
  have b1 : w15.cell? ⟨pb, 1, none⟩ = some (.int .i64 0) := (HB.out.keep H2.out (by simp)).cell 1 rfl
  have b2 : w15.cell? ⟨pb, 2, none⟩ = some (.int .i64 0) := (HB.out.keep H2.out (by simp)).cell 2 rfl
  have b3 : w15.cell? ⟨pb, 3, none⟩ = some (.string ⟨#[]⟩) := (HB.out.keep H2.out (by simp)).cell 3 rfl
  have b4 : w15.cell? ⟨pb, 4, none⟩ = some (.bool false) := (HB.out.keep H2.out (by simp)).cell 4 rfl
  have b5 : w15.cell? ⟨pb, 5, none⟩ = some (.int .i64 0) := (HB.out.keep H2.out (by simp)).cell 5 rfl
  have b6 : w15.cell? ⟨pb, 6, none⟩ = some (.int .i64 0) := (HB.out.keep H2.out (by simp)).cell 6 rfl
  have b7 : w15.cell? ⟨pb, 7, none⟩ = some (.bool false) := (HB.out.keep H2.out (by simp)).cell 7 rfl
  have b8 : w15.cell? ⟨pb, 8, none⟩ = some (.int .i64 1) := (HB.out.keep H2.out (by simp)).cell 8 rfl
  have b9 : w15.cell? ⟨pb, 9, none⟩ = some (.slice (some ⟨pg, 0, none⟩) 2 2) := (HB.out.keep H2.out (by simp)).cell 9 rfl
  have b10 : w15.cell? ⟨pb, 10, none⟩ = some (.int .i64 0) := (HB.out.keep H2.out (by simp)).cell 10 rfl
  have b11 : w15.cell? ⟨pb, 11, none⟩ = some (.int .i64 0) := (HB.out.keep H2.out (by simp)).cell 11 rfl
  have b12 : w15.cell? ⟨pb, 12, none⟩ = some (.string ⟨#[]⟩) := (HB.out.keep H2.out (by simp)).cell 12 rfl
  go_wp2_with fail
  refine (sElB _ _).mono ?_
  rintro e w16 ⟨rfl, ho⟩
  clear b0 b1 b2 b3 b4 b5 b6 b7 b8 b9 b10 b11 b12
  replace H2 := Lib.hid ((H2.out).trans ho)
  replace H5 := Lib.hid ((H5.out).trans ho)
  replace H6 := Lib.hid ((H6.out).trans ho)
  replace HO := Lib.hid ((HO.out).trans ho)
  clear ho
  have a0 : w16.cell? ⟨pa, 0, none⟩ = some (.int .i64 8) := (HA.out.keep H2.out (by simp)).cell 0 rfl
  have a1 : w16.cell? ⟨pa, 1, none⟩ = some (.int .i64 4) := (HA.out.keep H2.out (by simp)).cell 1 rfl
  have a2 : w16.cell? ⟨pa, 2, none⟩ = some (.int .i64 0) := (HA.out.keep H2.out (by simp)).cell 2 rfl
  have a3 : w16.cell? ⟨pa, 3, none⟩ = some (.string ⟨#[104, 105]⟩) := (HA.out.keep H2.out (by simp)).cell 3 rfl
  have a4 : w16.cell? ⟨pa, 4, none⟩ = some (.bool true) := (HA.out.keep H2.out (by simp)).cell 4 rfl
  have a5 : w16.cell? ⟨pa, 5, none⟩ = some (.int .i64 0) := (HA.out.keep H2.out (by simp)).cell 5 rfl
  have a6 : w16.cell? ⟨pa, 6, none⟩ = some (.int .i64 0) := (HA.out.keep H2.out (by simp)).cell 6 rfl
  have a7 : w16.cell? ⟨pa, 7, none⟩ = some (.bool false) := (HA.out.keep H2.out (by simp)).cell 7 rfl
  have a8 : w16.cell? ⟨pa, 8, none⟩ = some (.int .i64 0) := (HA.out.keep H2.out (by simp)).cell 8 rfl
  have a9 : w16.cell? ⟨pa, 9, none⟩ = some (.slice none 0 0) := (HA.out.keep H2.out (by simp)).cell 9 rfl
  have a10 : w16.cell? ⟨pa, 10, none⟩ = some (.int .i64 0) := (HA.out.keep H2.out (by simp)).cell 10 rfl
  have a11 : w16.cell? ⟨pa, 11, none⟩ = some (.int .i64 0) := (HA.out.keep H2.out (by simp)).cell 11 rfl
  have a12 : w16.cell? ⟨pa, 12, none⟩ = some (.string ⟨#[]⟩) := (HA.out.keep H2.out (by simp)).cell 12 rfl
  go_wp2_with fail
  refine (sAl4 _).mono ?_
  rintro e w17 ⟨rfl, ho⟩
  clear a0 a1 a2 a3 a4 a5 a6 a7 a8 a9 a10 a11 a12
  replace H2 := Lib.hid ((H2.out).trans ho)
  replace H5 := Lib.hid ((H5.out).trans ho)
  replace H6 := Lib.hid ((H6.out).trans ho)
  replace HO := Lib.hid ((HO.out).trans ho)
  clear ho
  have a0 : w17.cell? ⟨pa, 0, none⟩ = some (.int .i64 8) := (HA.out.keep H2.out (by simp)).cell 0 rfl
  have a1 : w17.cell? ⟨pa, 1, none⟩ = some (.int .i64 4) := (HA.out.keep H2.out (by simp)).cell 1 rfl
  have a2 : w17.cell? ⟨pa, 2, none⟩ = some (.int .i64 0) := (HA.out.keep H2.out (by simp)).cell 2 rfl
  have a3 : w17.cell? ⟨pa, 3, none⟩ = some (.string ⟨#[104, 105]⟩) := (HA.out.keep H2.out (by simp)).cell 3 rfl
  have a4 : w17.cell? ⟨pa, 4, none⟩ = some (.bool true) := (HA.out.keep H2.out (by simp)).cell 4 rfl
  have a5 : w17.cell? ⟨pa, 5, none⟩ = some (.int .i64 0) := (HA.out.keep H2.out (by simp)).cell 5 rfl
  have a6 : w17.cell? ⟨pa, 6, none⟩ = some (.int .i64 0) := (HA.out.keep H2.out (by simp)).cell 6 rfl
  have a7 : w17.cell? ⟨pa, 7, none⟩ = some (.bool false) := (HA.out.keep H2.out (by simp)).cell 7 rfl
  have a8 : w17.cell? ⟨pa, 8, none⟩ = some (.int .i64 0) := (HA.out.keep H2.out (by simp)).cell 8 rfl
  have a9 : w17.cell? ⟨pa, 9, none⟩ = some (.slice none 0 0) := (HA.out.keep H2.out (by simp)).cell 9 rfl
  have a10 : w17.cell? ⟨pa, 10, none⟩ = some (.int .i64 0) := (HA.out.keep H2.out (by simp)).cell 10 rfl
  have a11 : w17.cell? ⟨pa, 11, none⟩ = some (.int .i64 0) := (HA.out.keep H2.out (by simp)).cell 11 rfl
  have a12 : w17.cell? ⟨pa, 12, none⟩ = some (.string ⟨#[]⟩) := (HA.out.keep H2.out (by simp)).cell 12 rfl
  go_wp2_with fail
  refine (sAl0 _).mono ?_
  rintro e w18 ⟨rfl, ho⟩
  clear a0 a1 a2 a3 a4 a5 a6 a7 a8 a9 a10 a11 a12
  replace H2 := Lib.hid ((H2.out).trans ho)
  replace H5 := Lib.hid ((H5.out).trans ho)
  replace H6 := Lib.hid ((H6.out).trans ho)
  replace HO := Lib.hid ((HO.out).trans ho)
  clear ho
  go_wp2_with fail
  go_ret
  exact ⟨rfl, HO.out⟩
end Go.Proofs.Ytmmgmpghkpbgkaa
