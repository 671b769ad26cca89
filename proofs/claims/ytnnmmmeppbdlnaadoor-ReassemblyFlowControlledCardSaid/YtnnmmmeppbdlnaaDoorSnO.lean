/- Contracts of package reassembly: Read and Put. -/
import Derived.Test.YtnnmmmeppbdlnaaDoorSnJ
import Derived.Test.YtnnmmmeppbdlnaaDoorSnH
namespace Go.Proofs.YtnnmmmeppbdlnaaDoor
open Go Go.RowKit
set_option linter.unusedVariables false
set_option linter.unusedSectionVars false
set_option linter.unusedSimpArgs false

/-- Does Read answer that the end is reached, where c bytes are taken? -/
def Bf.last (x : Bf) (c : Nat) : Bool := x.kn && (x.pos + c == x.fin)
set_option maxRecDepth 100000 in
set_option maxHeartbeats 4000000 in
theorem read_c (b g1 g2 : Nat) (x : Bf) (w : World) (hA : BufAt w b g1 g2 x) (m : Int) (hp : x.pos + x.many m ≤ 1099511627776) :
    Calls Tryd.prog 14 #[.pointer (some ⟨b, 0, none⟩), .int .i64 m] w fun e w' => e = .returned (.tuple #[.string (strB (x.out (x.many m))), .bool (x.last (x.many m))]) ∧ BufAt w' b g1 g2 (x.read (x.many m)) ∧ Only [b, g1, g2] w w' := by
  have hle := x.ready_le
  have hml := (x.many_le m).1
  obtain ⟨z, hz⟩ : ∃ z, (if (x.ready : Int) < m then (x.ready : Int) else m) = z := ⟨_, rfl⟩
  obtain ⟨c, hc⟩ : ∃ c, x.many m = c := ⟨_, rfl⟩
  rw [hc] at hp hml ⊢
  have hy : (if z < 0 then 0 else z) = (c : Int) := by
    rw [← hc, ← hz]; unfold Bf.many; split <;> split <;> split <;> omega
  have hz2 : (if m < (x.ready : Int) then m else (x.ready : Int)) = z := by rw [← hz]; split <;> split <;> omega
  have HA := Lib.hid hA; clear hA
  have HZ := Lib.hid (And.intro hle hml); clear hle hml hc
  unfold Bf.last
  go_enter Tryd.func14, Tryd.ntmps14
  go_wp2_with fail
  go_region_with (first | (go_at_call 35; refine (wready_c b g1 g2 x _ (HA.out.keep (S := []) (Only.refl _ _).drew (by simp) (by simp) (by simp))).mono ?_; rintro e w' ⟨rfl, rfl⟩) | (go_at_call 34; refine (take_c b g1 g2 x _ (HA.out.keep (S := []) (Only.refl _ _).drew (by simp) (by simp) (by simp)) c (by have := HZ.out; omega) hp).mono ?_; rintro e w1 ⟨rfl, hA1, ho1⟩))
  simp only [List.getElem_toArray, List.getElem_cons_succ, List.getElem_cons_zero, Act.put, List.setIfInBounds_toArray, List.set_cons_zero, List.set_cons_succ]
  have c0 : w1.cell? ⟨b, 0, none⟩ = some (.int .i64 (x.pos + c)) := hA1.c0
  have c4 : w1.cell? ⟨b, 4, none⟩ = some (.int .i64 x.fin) := hA1.c4
  have c5 : w1.cell? ⟨b, 5, none⟩ = some (.bool x.kn) := hA1.c5
  have HO : Hid (Only [b, g1, g2] w w1) := Lib.hid (((Only.refl _ w).drew).trans ho1)
  have HA1 := Lib.hid hA1
  clear hA1 ho1 hz hy hz2
  cases hk : x.kn with
  | false =>
    rw [hk] at c5
    have HK := Lib.hid hk
    clear hk
    go_wp2_with fail
    go_quiet (fail)
    go_wp2_with fail
    go_ret2
    exact ⟨by rw [HK.out]; rfl, HA1.out.drewN _, HO.out.drewN _⟩
  | true =>
    rw [hk] at c5
    have HK := Lib.hid hk
    clear hk
    go_wp2_with fail
    go_quiet (fail)
    go_wp2_with fail
    go_ret2
    exact ⟨by rw [HK.out]; rfl, HA1.out.drewN _, HO.out.drewN _⟩

section
variable (b g1 g2 B : Nat) (x : Bf) (c f r g : Addr) (off : Int) (s : ByteArray) (fl : Bool) (w : World) (hA : BufAt w b g1 g2 x) (hS : Snt B c f r g w) (hB : B ≤ w.heap.size)
include hA hS hB
theorem Put_of (v : Value) (k : Int) (y : Bf) (h : Calls Tryd.prog 37 #[.pointer (some ⟨b, 0, none⟩), .agg #[.int .i64 off, .string s, .bool fl]] w fun e w' => e = .returned v ∧ BufAt w' b g1 g2 y ∧ Only [b, g1, g2] w w')
    (h2 : ∀ w', Only [b, g1, g2] w w' → Calls Tryd.prog 36 #[v] w' fun e w'' => e = .returned (.int .i64 k) ∧ w' = w'') :
    Calls Tryd.prog 16 #[.pointer (some ⟨b, 0, none⟩), .int .i64 off, .string s, .bool fl] w fun e w' => e = .returned (.int .i64 k) ∧ BufAt w' b g1 g2 y ∧ Only [b, g1, g2] w w' := by
  clear hA hS hB
  go_enter Tryd.func16, Tryd.ntmps16
  go_wp2_with fail
  refine h.mono ?_
  rintro e w1 ⟨rfl, hA1, ho1⟩
  go_wp2_with fail
  refine (h2 w1 ho1).mono ?_
  rintro e w2 ⟨rfl, rfl⟩
  go_wp2_with fail
  go_ret
  exact ⟨rfl, hA1, ho1⟩
/-- What Put does, whatever the piece. -/
theorem Put_c (hb : b ≥ B) (hg1 : g1 ≥ B) (hg2 : g2 ≥ B) :
    Calls Tryd.prog 16 #[.pointer (some ⟨b, 0, none⟩), .int .i64 off, .string s, .bool fl] w fun e w' => e = .returned (.int .i64 (x.putC off s.data.toList fl)) ∧ BufAt w' b g1 g2 (bif x.putC off s.data.toList fl == 0 then x.hold off s.data.toList fl else x) ∧ Only [b, g1, g2] w w' := by
  have hl : s.data.toList.length = s.size := by simp
  have hbe : ∀ w', Only [b, g1, g2] w w' → Snt B c f r g w' := fun w' ho => hS.below (ho.below (by simp; omega) hB)
  have keep : ∀ v, (Calls Tryd.prog 37 #[.pointer (some ⟨b, 0, none⟩), .agg #[.int .i64 off, .string s, .bool fl]] w fun e w' => e = .returned v ∧ Only [] w w') → Calls Tryd.prog 37 #[.pointer (some ⟨b, 0, none⟩), .agg #[.int .i64 off, .string s, .bool fl]] w fun e w' => e = .returned v ∧ BufAt w' b g1 g2 x ∧ Only [b, g1, g2] w w' :=
    fun v h => h.mono fun e w' ⟨h1, h2⟩ => ⟨h1, hA.keep h2 (by simp) (by simp) (by simp), h2.mono (by simp)⟩
  cases h0 : Bf.argB off s.size with
  | false =>
    rw [show x.putC off s.data.toList fl = 2 by simp [Bf.putC, hl, h0]]
    exact Put_of b g1 g2 B x c f r g off s fl w hA hS hB _ _ _ (keep _ (put_g b g1 g2 B x c f r g off s fl w hA hS hB h0)) (fun w' ho => errno_g w' (hbe w' ho))
  | true =>
    cases h1 : x.agrB off s.data.toList with
    | false =>
      rw [show x.putC off s.data.toList fl = 160 by simp [Bf.putC, hl, h0, h1]]
      exact Put_of b g1 g2 B x c f r g off s fl w hA hS hB _ _ _ (keep _ (put_c b g1 g2 B x c f r g off s fl w hA hS hB h0 h1)) (fun w' ho => errno_c w' (hbe w' ho))
    | true =>
      cases h2 : x.finB (off + s.size) fl with
      | false =>
        rw [show x.putC off s.data.toList fl = 161 by simp [Bf.putC, hl, h0, h1, h2]]
        exact Put_of b g1 g2 B x c f r g off s fl w hA hS hB _ _ _ (keep _ (put_f b g1 g2 B x c f r g off s fl w hA hS hB h0 h1 h2)) (fun w' ho => errno_f w' (hbe w' ho))
      | true =>
        cases h3 : decide (off + (s.size : Int) ≤ x.pos + x.n) with
        | false =>
          rw [show x.putC off s.data.toList fl = 162 by unfold Bf.putC; rw [hl, h0, h1, h2, h3]; rfl]
          exact Put_of b g1 g2 B x c f r g off s fl w hA hS hB _ _ _ (keep _ (put_r b g1 g2 B x c f r g off s fl w hA hS hB h0 h1 h2 h3)) (fun w' ho => errno_r w' (hbe w' ho))
        | true =>
          rw [show x.putC off s.data.toList fl = 0 by unfold Bf.putC; rw [hl, h0, h1, h2, h3]; rfl]
          cases fl with
          | true => exact Put_of b g1 g2 B x c f r g off s true w hA hS hB _ _ _ (put_ok_true b g1 g2 B x c f r g off s w hA hS hB h0 h1 h2 h3) (fun w' ho => errno_nil w')
          | false => exact Put_of b g1 g2 B x c f r g off s false w hA hS hB _ _ _ (put_ok_false b g1 g2 B x c f r g off s w hA hS hB h0 h1 h2 h3) (fun w' ho => errno_nil w')
end
end Go.Proofs.YtnnmmmeppbdlnaaDoor
