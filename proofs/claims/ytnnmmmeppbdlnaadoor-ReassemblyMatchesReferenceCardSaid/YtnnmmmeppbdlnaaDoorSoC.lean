/- Contract of the reference implementation's Put. -/
import Derived.Test.YtnnmmmeppbdlnaaDoorSoB
import Derived.StillTailTactics
namespace Go.Proofs.YtnnmmmeppbdlnaaDoor
open Go Go.RowKit
set_option linter.unusedVariables false
set_option linter.unusedSectionVars false
set_option linter.unusedSimpArgs false

/-- The bytes i' < i of the piece agree with what is held. -/
def Agr (x : Bf) (off : Int) (s : ByteArray) (i : Nat) : Prop := ∀ j k : Nat, j < i → off + j = x.pos + k → k < x.n → x.H k = true → x.B k = sb s j
theorem Agr.all {x : Bf} {off : Int} {s : ByteArray} (h : Agr x off s s.size) : x.agrB off s.data.toList = true := by
  rw [Bf.agrB_iff]
  intro i k hi he hk hH
  exact h i k (by simpa using hi) he hk hH
theorem Agr.no {x : Bf} {off : Int} {s : ByteArray} {i k : Nat} (hi : i < s.size) (he : off + i = x.pos + k) (hk : k < x.n) (hH : x.H k = true) (hB : x.B k ≠ sb s i) : x.agrB off s.data.toList = false :=
  Bool.eq_false_iff.2 (fun h => hB (((x.agrB_iff off _).1 h) i k (by simpa using hi) he hk hH))
theorem Agr.succ {x : Bf} {off : Int} {s : ByteArray} {i : Nat} (h : Agr x off s i) (hs : ∀ k : Nat, off + i = x.pos + k → k < x.n → x.H k = true → x.B k = sb s i) : Agr x off s (i + 1) := by
  intro j k hj he hk hH
  by_cases e : j = i
  · subst e; exact hs k he hk hH
  · exact h j k (by omega) he hk hH
theorem idx_s (s : ByteArray) (i : Nat) (h : i < s.size) (w : World) : (Instr.index 9 (.string s) (.int .i64 i)).run Tryd.prog w = .ok (.int .u8 (sb s i).toNat) w := by
  rw [run_index_string w 9 _ _ _ Tryd.underlying9, dif_pos (by omega)]
  have := sb_get s i h
  simp only [Int.toNat_natCast, this]
/-- The buffer while the first i bytes of the piece are laid. -/
def hpB (x : Bf) (off : Int) (s : ByteArray) (i k : Nat) : UInt8 := if off ≤ x.pos + k ∧ x.pos + k < off + (i : Int) then sb s (x.pos + k - off).toNat else x.B k
def hpH (x : Bf) (off : Int) (i k : Nat) : Bool := if off ≤ x.pos + k ∧ x.pos + k < off + (i : Int) then true else x.H k
def hp (x : Bf) (off : Int) (s : ByteArray) (i : Nat) : Bf := { x with B := hpB x off s i, H := hpH x off i }
theorem XBuf.congr {w : World} {b g1 g2 c1 c2 : Nat} {x : Bf} (h : XBuf w b g1 g2 c1 c2 x) {B' : Nat → UInt8} {H' : Nat → Bool} (eB : ∀ k, k < x.n → x.B k = B' k) (eH : ∀ k, k < x.n → x.H k = H' k) : XBuf w b g1 g2 c1 c2 { x with B := B', H := H' } := by
  obtain ⟨a, hB, hH, r1, r2, r3, r4, r5, r6, r7, r8, r9, r10, r11, r12, r13⟩ := h
  exact ⟨a, hB.congr eB, hH.congr eH, r1, r2, r3, r4, r5, r6, r7, r8, r9, r10, r11, r12, r13⟩
theorem hp_start {w : World} {b g1 g2 c1 c2 : Nat} {x : Bf} (off : Int) (s : ByteArray) (h : XBuf w b g1 g2 c1 c2 x) : XBuf w b g1 g2 c1 c2 (hp x off s 0) :=
  h.congr (fun k hk => by unfold hpB; rw [if_neg (by omega)]) (fun k hk => by unfold hpH; rw [if_neg (by omega)])
theorem hp_skip {w : World} {b g1 g2 c1 c2 : Nat} {x : Bf} {off : Int} {s : ByteArray} {i : Nat} (h : XBuf w b g1 g2 c1 c2 (hp x off s i)) (hn : off + i - x.pos < 0) : XBuf w b g1 g2 c1 c2 (hp x off s (i + 1)) :=
  h.congr (B' := hpB x off s (i + 1)) (H' := hpH x off (i + 1)) (fun k hk => by
    show hpB x off s i k = _
    unfold hpB
    by_cases c : off ≤ x.pos + k ∧ x.pos + k < off + (i : Int)
    · rw [if_pos c, if_pos (by omega)]
    · rw [if_neg c, if_neg (by omega)]) (fun k hk => by
    show hpH x off i k = _
    unfold hpH
    by_cases c : off ≤ x.pos + k ∧ x.pos + k < off + (i : Int)
    · rw [if_pos c, if_pos (by omega)]
    · rw [if_neg c, if_neg (by omega)])
theorem hp_put {w : World} {b g1 g2 c1 c2 : Nat} {x : Bf} {off : Int} {s : ByteArray} {i kv : Nat} (h : XBuf w b g1 g2 c1 c2 (hp x off s i)) (he : off + i - x.pos = kv) : XBuf ((w.setCell ⟨g1, kv, none⟩ (.int .u8 (sb s i).toNat)).setCell ⟨g2, kv, none⟩ (.bool true)) b g1 g2 c1 c2 (hp x off s (i + 1)) := by
  obtain ⟨a, hB, hH, r1, r2, r3, r4, r5, r6, r7, r8, r9, r10, r11, r12, r13⟩ := h
  refine ⟨a.keep (S := [g1, g2]) (((Only.refl _ _).put (by simp) _).put (by simp) _) (by simp; exact ⟨r1, r2⟩), ((hB.put kv (sb s i)).far (p := ⟨g2, kv, none⟩) r3 (.bool true)).congr (fun k hk => ?_), ((hH.far (p := ⟨g1, kv, none⟩) (fun e => r3 e.symm) (.int .u8 (sb s i).toNat)).put kv true).congr (fun k hk => ?_), r1, r2, r3, r4, r5, r6, r7, r8, r9, r10, r11, r12, r13⟩
  · show (if k = kv then sb s i else hpB x off s i k) = hpB x off s (i + 1) k
    unfold hpB
    by_cases c : k = kv
    · rw [if_pos c, if_pos (by omega)]
      congr 1; omega
    · rw [if_neg c]
      by_cases c2 : off ≤ x.pos + k ∧ x.pos + k < off + (i : Int)
      · rw [if_pos c2, if_pos (by omega)]
      · rw [if_neg c2, if_neg (by omega)]
  · show (if k = kv then true else hpH x off i k) = hpH x off (i + 1) k
    unfold hpH
    by_cases c : k = kv
    · rw [if_pos c, if_pos (by omega)]
    · rw [if_neg c]
      by_cases c2 : off ≤ x.pos + k ∧ x.pos + k < off + (i : Int)
      · rw [if_pos c2, if_pos (by omega)]
      · rw [if_neg c2, if_neg (by omega)]
theorem hp_hi {w : World} {b g1 g2 c1 c2 : Nat} {y : Bf} (h : XBuf w b g1 g2 c1 c2 y) (v : Int) (v0 : 0 ≤ v) (v1 : v ≤ 1099511627776) : XBuf (w.setCell ⟨b, 4, none⟩ (.int .i64 v)) b g1 g2 c1 c2 { y with hi := v } := by
  obtain ⟨a, hB, hH, r1, r2, r3, r4, r5, r6, r7, r8, r9, r10, r11, r12, r13⟩ := h
  exact ⟨a.set 4 _ rfl, hB.far (fun e => r1 e.symm) _, hH.far (fun e => r2 e.symm) _, r1, r2, r3, r4, r5, r6, r7, r8, r9, v0, v1, r12, r13⟩
theorem hp_fin {w : World} {b g1 g2 c1 c2 : Nat} {y : Bf} (h : XBuf w b g1 g2 c1 c2 y) (v : Int) (v0 : 0 ≤ v) (v1 : v ≤ 1099511627776) : XBuf (w.setCell ⟨b, 5, none⟩ (.int .i64 v)) b g1 g2 c1 c2 { y with fin := v, kn := true } := by
  obtain ⟨a, hB, hH, r1, r2, r3, r4, r5, r6, r7, r8, r9, r10, r11, r12, r13⟩ := h
  exact ⟨a.set 5 _ rfl, hB.far (fun e => r1 e.symm) _, hH.far (fun e => r2 e.symm) _, r1, r2, r3, r4, r5, r6, r7, r8, r9, r10, r11, v0, v1⟩
theorem hp_end {w : World} {b g1 g2 c1 c2 : Nat} {x : Bf} {off : Int} {s : ByteArray} (fl : Bool) (h : XBuf w b g1 g2 c1 c2 (hp x off s s.size)) : XBuf w b g1 g2 c1 c2 { x with B := (x.hold off s.data.toList fl).B, H := (x.hold off s.data.toList fl).H } := by
  have hl : s.data.toList.length = s.size := by simp
  refine h.congr (fun k hk => ?_) (fun k hk => ?_)
  · show hpB x off s s.size k = _
    simp only [hpB, Bf.hold, hl, sb]
  · show hpH x off s.size k = _
    simp only [hpH, Bf.hold, hl]
def X2Rel (x : Bf) (off : Int) (s : ByteArray) (w : World) (b g1 g2 c1 c2 : Nat) (i : Value) (wr : World) : Prop := ∃ k : Nat, i = .int .i64 k ∧ k ≤ s.size ∧ XBuf wr b g1 g2 c1 c2 (hp x off s k) ∧ Only [b, g1, g2] w wr
section
variable (b g1 g2 c1 c2 : Nat) (x : Bf) (off : Int) (s : ByteArray) (fl : Bool) (w : World) (hA : XBuf w b g1 g2 c1 c2 x)
include hA
set_option maxRecDepth 100000 in
set_option maxHeartbeats 2000000 in
theorem xput_arg (h : Bf.argB off s.size = false) (hw : -9223372036854775808 ≤ off ∧ off ≤ 9223372036854775807) : Calls Tryd.prog 17 #[.pointer (some ⟨b, 0, none⟩), .int .i64 off, .string s, .bool fl] w fun e w' => e = .returned (.int .i64 2) ∧ w = w' := by
  clear hA
  by_cases h1 : off < 0
  · go_enter Tryd.func17, Tryd.ntmps17
    go_wp2
    go_ret
    exact ⟨rfl, rfl⟩
  by_cases h2 : 1099511627776 < off
  · go_enter Tryd.func17, Tryd.ntmps17
    go_wp2
    go_ret
    exact ⟨rfl, rfl⟩
  by_cases h3 : 8192 < (s.size : Int)
  · go_enter Tryd.func17, Tryd.ntmps17
    go_wp2
    go_ret
    exact ⟨rfl, rfl⟩
  have h4 : 1099511627776 < off + (s.size : Int) := by
    rcases Int.lt_or_le 1099511627776 (off + (s.size : Int)) with c | c
    · exact c
    · rw [(Bf.argB_iff off s.size).2 ⟨by omega, by omega, by omega, c⟩] at h; cases h
  have e1 : IntKind.i64.wrap (off + (s.size : Int)) = off + s.size := IntWalk.i64_in _ (by omega)
  clear h
  go_enter Tryd.func17, Tryd.ntmps17
  go_wp2
  go_ret
  exact ⟨rfl, rfl⟩
def X1Rel (x : Bf) (off : Int) (s : ByteArray) (w : World) (b g1 g2 c1 c2 : Nat) (i : Value) (wr : World) : Prop := ∃ k : Nat, i = .int .i64 k ∧ k ≤ s.size ∧ Agr x off s k ∧ XBuf wr b g1 g2 c1 c2 x ∧ Only [] w wr
set_option maxRecDepth 100000 in
set_option maxHeartbeats 4000000 in
theorem xput_ok (h : Bf.argB off s.size = true) : Calls Tryd.prog 17 #[.pointer (some ⟨b, 0, none⟩), .int .i64 off, .string s, .bool fl] w fun e w' => e = .returned (.int .i64 (x.putC off s.data.toList fl)) ∧ XBuf w' b g1 g2 c1 c2 (bif x.putC off s.data.toList fl == 0 then x.hold off s.data.toList fl else x) ∧ Only [b, g1, g2] w w' := by
  have hr := (Bf.argB_iff off s.size).1 h
  obtain ⟨q0, q1, hs, q2⟩ := hr
  have e1 : IntKind.i64.wrap (off + (s.size : Int)) = off + s.size := IntWalk.i64_in _ (by omega)
  have HA := Lib.hid hA; clear hA
  have u1 : ¬ off < 0 := by omega
  have u2 : ¬ 1099511627776 < off := by omega
  have u3 : ¬ 8192 < (s.size : Int) := by omega
  have u4 : ¬ 1099511627776 < off + (s.size : Int) := by omega
  go_enter Tryd.func17, Tryd.ntmps17
  go_wp2
  go_loopw [10] (fun i wr => X1Rel x off s w b g1 g2 c1 c2 i wr) (fun i _ => s.size - (intOf i).toNat)
  case atStart => exact ⟨0, rfl, by omega, fun j k hj => by omega, HA.out, Only.refl _ _⟩
  case round =>
    obtain ⟨i, rfl, hi, hag, hA, hO⟩ := hrel
    have HA1 := Lib.hid hA
    have HG := Lib.hid hag
    have HO := Lib.hid hO
    have k0 := HA1.out.q0
    have k1 := HA1.out.q1
    have k2 := HA1.out.q2
    have k3 := HA1.out.q3
    have n1 := HA1.out.n1
    have p0 := HA1.out.p0
    have p1 := HA1.out.p1
    clear hA hag hO HA
    by_cases hlt : i < s.size
    · have hlt' : (i : Int) < s.size := by omega
      have hix := idx_s s i hlt
      obtain ⟨kz, hkz⟩ : ∃ kz, off + (i : Int) - x.pos = kz := ⟨_, rfl⟩
      have f1 : IntKind.i64.wrap (off + (i : Int)) = off + i := IntWalk.i64_in _ (by omega)
      have f2 : IntKind.i64.wrap (off + (i : Int) - x.pos) = kz := by rw [hkz]; exact IntWalk.i64_in _ (by omega)
      have f3 : IntKind.i64.wrap ((i : Int) + 1) = i + 1 := IntWalk.i64_in _ (by omega)
      by_cases c1' : kz < 0
      · have d1 : decide (0 ≤ kz) = false := decide_eq_false (by omega)
        have HS := Lib.hid (HG.out.succ (fun k he hk hH => by omega))
        clear hkz c1'
        go_wp2_with fail
        go_quiet (fail)
        go_wp2_with fail
        exact ⟨⟨i + 1, by simp, by omega, HS.out, HA1.out.keep (S := []) ((Only.refl _ _).drewN _) (by simp) (by simp) (by simp), HO.out.drewN _⟩, by simp [intOf]; omega⟩
      · by_cases c2' : kz < x.n
        · obtain ⟨kv, rfl⟩ : ∃ kv : Nat, kz = kv := ⟨kz.toNat, by omega⟩
          have hkv : kv < x.n := by omega
          have d1 : decide ((0 : Int) ≤ kv) = true := decide_eq_true (by omega)
          have d2 : decide ((kv : Int) < x.n) = true := decide_eq_true c2'
          have j1 : (0 : Int) ≤ kv := by omega
          have j2 : (0 : Int) ≤ i := by omega
          have ch := HA1.out.ch kv hkv
          have cb := HA1.out.cb kv hkv
          cases hH : x.H kv with
          | false =>
            rw [hH] at ch
            have HS := Lib.hid (HG.out.succ (fun k he hk hH2 => by
              obtain rfl : k = kv := by omega
              rw [hH] at hH2; cases hH2))
            clear hkz c1' hH
            go_wp2_with fail
            go_quiet (fail)
            go_wp2_with fail
            exact ⟨⟨i + 1, by simp, by omega, HS.out, HA1.out.keep (S := []) ((Only.refl _ _).drewN _) (by simp) (by simp) (by simp), HO.out.drewN _⟩, by simp [intOf]; omega⟩
          | true =>
            rw [hH] at ch
            by_cases hB : x.B kv = sb s i
            · have hB4 : ((((x.B kv).toNat : Int)) != ((sb s i).toNat : Int)) = false := by rw [hB]; simp
              have HS := Lib.hid (HG.out.succ (fun k he hk hH2 => by
                obtain rfl : k = kv := by omega
                exact hB))
              clear hkz c1' hH hB
              go_wp2_with fail
              go_quiet (fail)
              go_wp2_with fail
              exact ⟨⟨i + 1, by simp, by omega, HS.out, HA1.out.keep (S := []) ((Only.refl _ _).drewN _) (by simp) (by simp) (by simp), HO.out.drewN _⟩, by simp [intOf]; omega⟩
            · have hB3 : ¬ (((x.B kv).toNat : Int) = (sb s i).toNat) := fun h => hB (UInt8.toNat_inj.1 (by omega))
              have hB4 : ((((x.B kv).toNat : Int)) != ((sb s i).toNat : Int)) = true := by simpa using hB3
              have hno : x.agrB off s.data.toList = false := Agr.no hlt (by omega) hkv hH hB
              have HP : Hid (x.putC off s.data.toList fl = 160) := Lib.hid (by unfold Bf.putC; rw [show s.data.toList.length = s.size by simp, h, hno]; rfl)
              clear hkz c1' hH hB hB3 hno
              go_wp2_with fail
              go_quiet (fail)
              go_wp2_with fail
              go_ret
              rw [HP.out]
              exact ⟨rfl, HA1.out.keep (S := []) ((Only.refl _ _).drewN _) (by simp) (by simp) (by simp), (HO.out.drewN _).mono (by simp)⟩
        · have d1 : decide (0 ≤ kz) = true := decide_eq_true (by omega)
          have d2 : decide (kz < (x.n : Int)) = false := decide_eq_false c2'
          have HS := Lib.hid (HG.out.succ (fun k he hk hH => by omega))
          clear hkz c1' c2'
          go_wp2_with fail
          go_quiet (fail)
          go_wp2_with fail
          exact ⟨⟨i + 1, by simp, by omega, HS.out, HA1.out.keep (S := []) ((Only.refl _ _).drewN _) (by simp) (by simp) (by simp), HO.out.drewN _⟩, by simp [intOf]; omega⟩
    · obtain rfl : i = s.size := by omega
      have HAG := Lib.hid HG.out.all
      have k4 := HA1.out.q4
      have k5 := HA1.out.q5
      have hlt' : ¬ (s.size : Int) < s.size := by omega
      clear HG
      have HL : Hid (s.data.toList.length = s.size) := Lib.hid (by simp)
      have HPF : Hid (∀ fl, x.putC off s.data.toList fl = bif x.finB (off + s.size) fl then (bif decide (off + (s.size : Int) ≤ x.pos + x.n) then 0 else 162) else 161) := Lib.hid (fun fl => by unfold Bf.putC; rw [HL.out, h, HAG.out]; rfl)
      have e3 : IntKind.i64.wrap (x.pos + (x.n : Int)) = x.pos + x.n := IntWalk.i64_in _ (by omega)
      have ff0 := HA1.out.f0
      cases hk : x.kn with
      | true =>
        have k5' : wr.cell? ⟨b, 5, none⟩ = some (.int .i64 x.fin) := by rw [hk] at k5; exact k5
        clear k5
        by_cases ha : x.fin < off + (s.size : Int)
        · cases fl with
          | true =>
            have HV : Hid (x.putC off s.data.toList true = 161) := Lib.hid (by rw [HPF.out _, show x.finB (off + s.size) true = false from Bool.eq_false_iff.2 (fun hh => by have hf := (x.finB_iff _ _).1 hh; rcases hf.2 with h1 | h1 | h1 <;> first | (rw [hk] at h1; cases h1; done) | omega)]; rfl)
            clear hk
            go_wp2_with fail
            go_ret
            rw [HV.out]
            exact ⟨rfl, HA1.out, HO.out.mono (by simp)⟩
          | false =>
            have HV : Hid (x.putC off s.data.toList false = 161) := Lib.hid (by rw [HPF.out _, show x.finB (off + s.size) false = false from Bool.eq_false_iff.2 (fun hh => by have hf := (x.finB_iff _ _).1 hh; rcases hf.2 with h1 | h1 | h1 <;> first | (rw [hk] at h1; cases h1; done) | omega)]; rfl)
            clear hk
            go_wp2_with fail
            go_ret
            rw [HV.out]
            exact ⟨rfl, HA1.out, HO.out.mono (by simp)⟩
        · cases fl with
          | true =>
            by_cases he : off + (s.size : Int) = x.fin
            · have q1 : ((off + (s.size : Int)) == x.fin) = true := beq_iff_eq.2 he
              have q2' : ((off + (s.size : Int)) != x.fin) = false := by simp [he]
              by_cases hb : off + (s.size : Int) < x.hi
              ·
                have HV : Hid (x.putC off s.data.toList true = 161) := Lib.hid (by rw [HPF.out _, show x.finB (off + s.size) true = false from Bool.eq_false_iff.2 (fun hh => by have hf := (x.finB_iff _ _).1 hh; exact hf.1 ⟨rfl, hb⟩)]; rfl)
                clear hk he
                go_wp2_with fail
                go_ret
                rw [HV.out]
                exact ⟨rfl, HA1.out, HO.out.mono (by simp)⟩
              ·
                have HV : Hid (x.putC off s.data.toList true = bif decide (off + (s.size : Int) ≤ x.pos + x.n) then 0 else 162) := Lib.hid (by rw [HPF.out _, (x.finB_iff _ _).2 ⟨fun hh => hb hh.2, .inr (.inl he)⟩]; rfl)
                clear hk he
                by_cases hroom : off + (s.size : Int) ≤ x.pos + x.n
                · have d1 : decide (x.pos + (x.n : Int) < off + s.size) = false := decide_eq_false (by omega)
                  have HV2 : Hid (x.putC off s.data.toList true = 0) := Lib.hid (by rw [HV.out, decide_eq_true hroom]; rfl)
                  have HX : Hid (XBuf (wr.drewN 1) b g1 g2 c1 c2 (hp x off s 0)) := Lib.hid (hp_start off s (HA1.out.keep (S := []) ((Only.refl _ _).drewN _) (by simp) (by simp) (by simp)))
                  clear HV HX
                  go_wp2_with fail
                  go_quiet (fail)
                  go_wp2_with fail
                  have HX : Hid (XBuf (wr.drewN nq) b g1 g2 c1 c2 (hp x off s 0)) := Lib.hid (hp_start off s (HA1.out.keep (S := []) ((Only.refl _ _).drewN _) (by simp) (by simp) (by simp)))
                  have HO2 : Hid (Only [b, g1, g2] w (wr.drewN nq)) := Lib.hid ((HO.out.drewN _).mono (by simp))
                  clear k0 k1 k2 k3 k4 k5' d1 HO HA1
                  go_loopw [12] (fun i wr => X2Rel x off s w b g1 g2 c1 c2 i wr) (fun i _ => s.size - (intOf i).toNat)
                  case atStart => exact ⟨0, rfl, by omega, HX.out, HO2.out⟩
                  case round =>
                    clear HX HO2
                    obtain ⟨i, rfl, hi, hA, hO⟩ := hrel
                    have HA2 := Lib.hid hA
                    have HO3 := Lib.hid hO
                    clear hA hO
                    have k1 : wr.cell? ⟨b, 1, none⟩ = some (.int .i64 x.pos) := HA2.out.q1
                    by_cases hlt : i < s.size
                    · have hlt2 : (i : Int) < s.size := by omega
                      have hix := idx_s s i hlt
                      obtain ⟨kz, hkz⟩ : ∃ kz, off + (i : Int) - x.pos = kz := ⟨_, rfl⟩
                      have f1 : IntKind.i64.wrap (off + (i : Int)) = off + i := IntWalk.i64_in _ (by omega)
                      have f2 : IntKind.i64.wrap (off + (i : Int) - x.pos) = kz := by rw [hkz]; exact IntWalk.i64_in _ (by omega)
                      have f3 : IntKind.i64.wrap ((i : Int) + 1) = i + 1 := IntWalk.i64_in _ (by omega)
                      by_cases c1' : kz < 0
                      · have HS := Lib.hid (hp_skip HA2.out (by omega))
                        have c1'' : ¬ (0 : Int) ≤ kz := by omega
                        clear hkz
                        go_wp2_with fail
                        exact ⟨⟨i + 1, by simp, by omega, HS.out, HO3.out⟩, by simp [intOf]; omega⟩
                      · obtain ⟨kv, rfl⟩ : ∃ kv : Nat, kz = kv := ⟨kz.toNat, by omega⟩
                        have hkv : kv < x.n := by omega
                        have j1 : (0 : Int) ≤ kv := by omega
                        have j2 : (kv : Int) < x.n := by omega
                        have k2 : wr.cell? ⟨b, 2, none⟩ = some (.slice (some ⟨g1, 0, none⟩) x.n c1) := HA2.out.q2
                        have k3 : wr.cell? ⟨b, 3, none⟩ = some (.slice (some ⟨g2, 0, none⟩) x.n c2) := HA2.out.q3
                        obtain ⟨u1, cb⟩ : ∃ u, wr.cell? ⟨g1, kv, none⟩ = some u := ⟨_, HA2.out.cb kv hkv⟩
                        obtain ⟨u2, ch⟩ : ∃ u, wr.cell? ⟨g2, kv, none⟩ = some u := ⟨_, HA2.out.ch kv hkv⟩
                        have fb : wr.frozen? ⟨g1, kv, none⟩ = false := HA2.out.rb.free _
                        have fh : wr.frozen? ⟨g2, kv, none⟩ = false := HA2.out.rh.free _
                        have n1' : ¬ b = g1 := HA2.out.d1
                        have n2' : ¬ b = g2 := HA2.out.d2
                        have n3' : ¬ g1 = g2 := HA2.out.d3
                        have n4' : ¬ g1 = b := fun e => n1' e.symm
                        have n5' : ¬ g2 = b := fun e => n2' e.symm
                        have n6' : ¬ g2 = g1 := fun e => n3' e.symm
                        have HS := Lib.hid (hp_put HA2.out hkz)
                        clear hkz c1'
                        go_wp2_with fail
                        go_still_tail 8, (by kernel_rfl)
                        go_wp2_with fail
                        exact ⟨⟨i + 1, by simp, by omega, HS.out.keep (S := []) (Only.refl _ _).drew (by simp) (by simp) (by simp), ((HO3.out.put (by simp) _).put (by simp) _).drew⟩, by simp [intOf]; omega⟩
                    · obtain rfl : i = s.size := by omega
                      have HE := Lib.hid (hp_end true HA2.out)
                      have k4 : wr.cell? ⟨b, 4, none⟩ = some (.int .i64 x.hi) := HE.out.q4
                      have f4 : wr.frozen? ⟨b, 4, none⟩ = false := HE.out.at_.free 4
                      obtain ⟨u5, k5⟩ : ∃ u, wr.cell? ⟨b, 5, none⟩ = some u := ⟨_, HE.out.q5⟩
                      have f5 : wr.frozen? ⟨b, 5, none⟩ = false := HE.out.at_.free 5
                      obtain ⟨R, hR⟩ : ∃ R, (if x.hi < off + (s.size : Int) then off + (s.size : Int) else x.hi) = R := ⟨_, rfl⟩
                      have hh0 := HE.out.h0
                      have hh1 := HE.out.h1
                      have HR : Hid ((0 ≤ R ∧ R ≤ 1099511627776) ∧ x.hold off s.data.toList true = { x with B := (x.hold off s.data.toList true).B, H := (x.hold off s.data.toList true).H, hi := R, fin := off + s.size, kn := true }) := Lib.hid ⟨by
                        simp only at hh0 hh1
                        rw [← hR]; split <;> omega, by simp only [Bf.hold, HL.out, hR]; rfl⟩
                      clear hh0 hh1 HA2
                      go_wp2_with fail
                      go_ret
                      rw [HV2.out]
                      refine ⟨rfl, ?_, (HO3.out.put (by simp) _).put (by simp) _⟩
                      show XBuf _ b g1 g2 c1 c2 (x.hold off s.data.toList true)
                      rw [HR.out.2]
                      exact hp_fin (hp_hi HE.out R HR.out.1.1 HR.out.1.2) _ (by omega) (by omega)
                · have d1 : decide (x.pos + (x.n : Int) < off + s.size) = true := decide_eq_true (by omega)
                  have HV2 : Hid (x.putC off s.data.toList true = 162) := Lib.hid (by rw [HV.out, decide_eq_false hroom]; rfl)
                  clear HV
                  go_wp2_with fail
                  go_quiet (fail)
                  go_wp2_with fail
                  go_ret
                  rw [HV2.out]
                  exact ⟨rfl, HA1.out.keep (S := []) ((Only.refl _ _).drewN _) (by simp) (by simp) (by simp), (HO.out.drewN _).mono (by simp)⟩
            · have q1 : ((off + (s.size : Int)) == x.fin) = false := Bool.eq_false_iff.2 (fun h => he (beq_iff_eq.1 h))
              have q2' : ((off + (s.size : Int)) != x.fin) = true := by simp [he]
              have HV : Hid (x.putC off s.data.toList true = 161) := Lib.hid (by rw [HPF.out _, show x.finB (off + s.size) true = false from Bool.eq_false_iff.2 (fun hh => by have hf := (x.finB_iff _ _).1 hh; rcases hf.2 with h1 | h1 | h1 <;> first | (rw [hk] at h1; cases h1; done) | omega | (cases h1.2; done))]; rfl)
              clear hk he
              go_wp2_with fail
              go_ret
              rw [HV.out]
              exact ⟨rfl, HA1.out, HO.out.mono (by simp)⟩
          | false =>
            have HV : Hid (x.putC off s.data.toList false = bif decide (off + (s.size : Int) ≤ x.pos + x.n) then 0 else 162) := Lib.hid (by rw [HPF.out _, (x.finB_iff _ _).2 ⟨fun hh => (by cases hh.1), (Classical.em (off + (s.size : Int) = x.fin)).elim (fun e => .inr (.inl e)) (fun e => .inr (.inr ⟨by omega, rfl⟩))⟩]; rfl)
            clear hk
            by_cases hroom : off + (s.size : Int) ≤ x.pos + x.n
            · have d1 : decide (x.pos + (x.n : Int) < off + s.size) = false := decide_eq_false (by omega)
              have HV2 : Hid (x.putC off s.data.toList false = 0) := Lib.hid (by rw [HV.out, decide_eq_true hroom]; rfl)
              have HX : Hid (XBuf (wr.drewN 1) b g1 g2 c1 c2 (hp x off s 0)) := Lib.hid (hp_start off s (HA1.out.keep (S := []) ((Only.refl _ _).drewN _) (by simp) (by simp) (by simp)))
              clear HV HX
              go_wp2_with fail
              go_quiet (fail)
              go_wp2_with fail
              have HX : Hid (XBuf (wr.drewN nq) b g1 g2 c1 c2 (hp x off s 0)) := Lib.hid (hp_start off s (HA1.out.keep (S := []) ((Only.refl _ _).drewN _) (by simp) (by simp) (by simp)))
              have HO2 : Hid (Only [b, g1, g2] w (wr.drewN nq)) := Lib.hid ((HO.out.drewN _).mono (by simp))
              clear k0 k1 k2 k3 k4 k5' d1 HO HA1
              go_loopw [12] (fun i wr => X2Rel x off s w b g1 g2 c1 c2 i wr) (fun i _ => s.size - (intOf i).toNat)
              case atStart => exact ⟨0, rfl, by omega, HX.out, HO2.out⟩
              case round =>
                clear HX HO2
                obtain ⟨i, rfl, hi, hA, hO⟩ := hrel
                have HA2 := Lib.hid hA
                have HO3 := Lib.hid hO
                clear hA hO
                have k1 : wr.cell? ⟨b, 1, none⟩ = some (.int .i64 x.pos) := HA2.out.q1
                by_cases hlt : i < s.size
                · have hlt2 : (i : Int) < s.size := by omega
                  have hix := idx_s s i hlt
                  obtain ⟨kz, hkz⟩ : ∃ kz, off + (i : Int) - x.pos = kz := ⟨_, rfl⟩
                  have f1 : IntKind.i64.wrap (off + (i : Int)) = off + i := IntWalk.i64_in _ (by omega)
                  have f2 : IntKind.i64.wrap (off + (i : Int) - x.pos) = kz := by rw [hkz]; exact IntWalk.i64_in _ (by omega)
                  have f3 : IntKind.i64.wrap ((i : Int) + 1) = i + 1 := IntWalk.i64_in _ (by omega)
                  by_cases c1' : kz < 0
                  · have HS := Lib.hid (hp_skip HA2.out (by omega))
                    have c1'' : ¬ (0 : Int) ≤ kz := by omega
                    clear hkz
                    go_wp2_with fail
                    exact ⟨⟨i + 1, by simp, by omega, HS.out, HO3.out⟩, by simp [intOf]; omega⟩
                  · obtain ⟨kv, rfl⟩ : ∃ kv : Nat, kz = kv := ⟨kz.toNat, by omega⟩
                    have hkv : kv < x.n := by omega
                    have j1 : (0 : Int) ≤ kv := by omega
                    have j2 : (kv : Int) < x.n := by omega
                    have k2 : wr.cell? ⟨b, 2, none⟩ = some (.slice (some ⟨g1, 0, none⟩) x.n c1) := HA2.out.q2
                    have k3 : wr.cell? ⟨b, 3, none⟩ = some (.slice (some ⟨g2, 0, none⟩) x.n c2) := HA2.out.q3
                    obtain ⟨u1, cb⟩ : ∃ u, wr.cell? ⟨g1, kv, none⟩ = some u := ⟨_, HA2.out.cb kv hkv⟩
                    obtain ⟨u2, ch⟩ : ∃ u, wr.cell? ⟨g2, kv, none⟩ = some u := ⟨_, HA2.out.ch kv hkv⟩
                    have fb : wr.frozen? ⟨g1, kv, none⟩ = false := HA2.out.rb.free _
                    have fh : wr.frozen? ⟨g2, kv, none⟩ = false := HA2.out.rh.free _
                    have n1' : ¬ b = g1 := HA2.out.d1
                    have n2' : ¬ b = g2 := HA2.out.d2
                    have n3' : ¬ g1 = g2 := HA2.out.d3
                    have n4' : ¬ g1 = b := fun e => n1' e.symm
                    have n5' : ¬ g2 = b := fun e => n2' e.symm
                    have n6' : ¬ g2 = g1 := fun e => n3' e.symm
                    have HS := Lib.hid (hp_put HA2.out hkz)
                    clear hkz c1'
                    go_wp2_with fail
                    go_still_tail 8, (by kernel_rfl)
                    go_wp2_with fail
                    exact ⟨⟨i + 1, by simp, by omega, HS.out.keep (S := []) (Only.refl _ _).drew (by simp) (by simp) (by simp), ((HO3.out.put (by simp) _).put (by simp) _).drew⟩, by simp [intOf]; omega⟩
                · obtain rfl : i = s.size := by omega
                  have HE := Lib.hid (hp_end false HA2.out)
                  have k4 : wr.cell? ⟨b, 4, none⟩ = some (.int .i64 x.hi) := HE.out.q4
                  have f4 : wr.frozen? ⟨b, 4, none⟩ = false := HE.out.at_.free 4
                  obtain ⟨u5, k5⟩ : ∃ u, wr.cell? ⟨b, 5, none⟩ = some u := ⟨_, HE.out.q5⟩
                  have f5 : wr.frozen? ⟨b, 5, none⟩ = false := HE.out.at_.free 5
                  obtain ⟨R, hR⟩ : ∃ R, (if x.hi < off + (s.size : Int) then off + (s.size : Int) else x.hi) = R := ⟨_, rfl⟩
                  have hh0 := HE.out.h0
                  have hh1 := HE.out.h1
                  have HR : Hid ((0 ≤ R ∧ R ≤ 1099511627776) ∧ x.hold off s.data.toList false = { x with B := (x.hold off s.data.toList false).B, H := (x.hold off s.data.toList false).H, hi := R, fin := x.fin, kn := x.kn }) := Lib.hid ⟨by
                    simp only at hh0 hh1
                    rw [← hR]; split <;> omega, by simp only [Bf.hold, HL.out, hR]; rfl⟩
                  clear hh0 hh1 HA2
                  go_wp2_with fail
                  go_ret
                  rw [HV2.out]
                  refine ⟨rfl, ?_, HO3.out.put (by simp) _⟩
                  show XBuf _ b g1 g2 c1 c2 (x.hold off s.data.toList false)
                  rw [HR.out.2]
                  exact hp_hi HE.out R HR.out.1.1 HR.out.1.2
            · have d1 : decide (x.pos + (x.n : Int) < off + s.size) = true := decide_eq_true (by omega)
              have HV2 : Hid (x.putC off s.data.toList false = 162) := Lib.hid (by rw [HV.out, decide_eq_false hroom]; rfl)
              clear HV
              go_wp2_with fail
              go_quiet (fail)
              go_wp2_with fail
              go_ret
              rw [HV2.out]
              exact ⟨rfl, HA1.out.keep (S := []) ((Only.refl _ _).drewN _) (by simp) (by simp) (by simp), (HO.out.drewN _).mono (by simp)⟩
      | false =>
        have k5' : wr.cell? ⟨b, 5, none⟩ = some (.int .i64 (-1)) := by rw [hk] at k5; exact k5
        clear k5
        cases fl with
        | true =>
          by_cases hb : off + (s.size : Int) < x.hi
          ·
            have HV : Hid (x.putC off s.data.toList true = 161) := Lib.hid (by rw [HPF.out _, show x.finB (off + s.size) true = false from Bool.eq_false_iff.2 (fun hh => by have hf := (x.finB_iff _ _).1 hh; exact hf.1 ⟨rfl, hb⟩)]; rfl)
            clear hk
            go_wp2_with fail
            go_ret
            rw [HV.out]
            exact ⟨rfl, HA1.out, HO.out.mono (by simp)⟩
          ·
            have HV : Hid (x.putC off s.data.toList true = bif decide (off + (s.size : Int) ≤ x.pos + x.n) then 0 else 162) := Lib.hid (by rw [HPF.out _, (x.finB_iff _ _).2 ⟨fun hh => hb hh.2, .inl hk⟩]; rfl)
            clear hk
            by_cases hroom : off + (s.size : Int) ≤ x.pos + x.n
            · have d1 : decide (x.pos + (x.n : Int) < off + s.size) = false := decide_eq_false (by omega)
              have HV2 : Hid (x.putC off s.data.toList true = 0) := Lib.hid (by rw [HV.out, decide_eq_true hroom]; rfl)
              have HX : Hid (XBuf (wr.drewN 1) b g1 g2 c1 c2 (hp x off s 0)) := Lib.hid (hp_start off s (HA1.out.keep (S := []) ((Only.refl _ _).drewN _) (by simp) (by simp) (by simp)))
              clear HV HX
              go_wp2_with fail
              go_quiet (fail)
              go_wp2_with fail
              have HX : Hid (XBuf (wr.drewN nq) b g1 g2 c1 c2 (hp x off s 0)) := Lib.hid (hp_start off s (HA1.out.keep (S := []) ((Only.refl _ _).drewN _) (by simp) (by simp) (by simp)))
              have HO2 : Hid (Only [b, g1, g2] w (wr.drewN nq)) := Lib.hid ((HO.out.drewN _).mono (by simp))
              clear k0 k1 k2 k3 k4 k5' d1 HO HA1
              go_loopw [12] (fun i wr => X2Rel x off s w b g1 g2 c1 c2 i wr) (fun i _ => s.size - (intOf i).toNat)
              case atStart => exact ⟨0, rfl, by omega, HX.out, HO2.out⟩
              case round =>
                clear HX HO2
                obtain ⟨i, rfl, hi, hA, hO⟩ := hrel
                have HA2 := Lib.hid hA
                have HO3 := Lib.hid hO
                clear hA hO
                have k1 : wr.cell? ⟨b, 1, none⟩ = some (.int .i64 x.pos) := HA2.out.q1
                by_cases hlt : i < s.size
                · have hlt2 : (i : Int) < s.size := by omega
                  have hix := idx_s s i hlt
                  obtain ⟨kz, hkz⟩ : ∃ kz, off + (i : Int) - x.pos = kz := ⟨_, rfl⟩
                  have f1 : IntKind.i64.wrap (off + (i : Int)) = off + i := IntWalk.i64_in _ (by omega)
                  have f2 : IntKind.i64.wrap (off + (i : Int) - x.pos) = kz := by rw [hkz]; exact IntWalk.i64_in _ (by omega)
                  have f3 : IntKind.i64.wrap ((i : Int) + 1) = i + 1 := IntWalk.i64_in _ (by omega)
                  by_cases c1' : kz < 0
                  · have HS := Lib.hid (hp_skip HA2.out (by omega))
                    have c1'' : ¬ (0 : Int) ≤ kz := by omega
                    clear hkz
                    go_wp2_with fail
                    exact ⟨⟨i + 1, by simp, by omega, HS.out, HO3.out⟩, by simp [intOf]; omega⟩
                  · obtain ⟨kv, rfl⟩ : ∃ kv : Nat, kz = kv := ⟨kz.toNat, by omega⟩
                    have hkv : kv < x.n := by omega
                    have j1 : (0 : Int) ≤ kv := by omega
                    have j2 : (kv : Int) < x.n := by omega
                    have k2 : wr.cell? ⟨b, 2, none⟩ = some (.slice (some ⟨g1, 0, none⟩) x.n c1) := HA2.out.q2
                    have k3 : wr.cell? ⟨b, 3, none⟩ = some (.slice (some ⟨g2, 0, none⟩) x.n c2) := HA2.out.q3
                    obtain ⟨u1, cb⟩ : ∃ u, wr.cell? ⟨g1, kv, none⟩ = some u := ⟨_, HA2.out.cb kv hkv⟩
                    obtain ⟨u2, ch⟩ : ∃ u, wr.cell? ⟨g2, kv, none⟩ = some u := ⟨_, HA2.out.ch kv hkv⟩
                    have fb : wr.frozen? ⟨g1, kv, none⟩ = false := HA2.out.rb.free _
                    have fh : wr.frozen? ⟨g2, kv, none⟩ = false := HA2.out.rh.free _
                    have n1' : ¬ b = g1 := HA2.out.d1
                    have n2' : ¬ b = g2 := HA2.out.d2
                    have n3' : ¬ g1 = g2 := HA2.out.d3
                    have n4' : ¬ g1 = b := fun e => n1' e.symm
                    have n5' : ¬ g2 = b := fun e => n2' e.symm
                    have n6' : ¬ g2 = g1 := fun e => n3' e.symm
                    have HS := Lib.hid (hp_put HA2.out hkz)
                    clear hkz c1'
                    go_wp2_with fail
                    go_still_tail 8, (by kernel_rfl)
                    go_wp2_with fail
                    exact ⟨⟨i + 1, by simp, by omega, HS.out.keep (S := []) (Only.refl _ _).drew (by simp) (by simp) (by simp), ((HO3.out.put (by simp) _).put (by simp) _).drew⟩, by simp [intOf]; omega⟩
                · obtain rfl : i = s.size := by omega
                  have HE := Lib.hid (hp_end true HA2.out)
                  have k4 : wr.cell? ⟨b, 4, none⟩ = some (.int .i64 x.hi) := HE.out.q4
                  have f4 : wr.frozen? ⟨b, 4, none⟩ = false := HE.out.at_.free 4
                  obtain ⟨u5, k5⟩ : ∃ u, wr.cell? ⟨b, 5, none⟩ = some u := ⟨_, HE.out.q5⟩
                  have f5 : wr.frozen? ⟨b, 5, none⟩ = false := HE.out.at_.free 5
                  obtain ⟨R, hR⟩ : ∃ R, (if x.hi < off + (s.size : Int) then off + (s.size : Int) else x.hi) = R := ⟨_, rfl⟩
                  have hh0 := HE.out.h0
                  have hh1 := HE.out.h1
                  have HR : Hid ((0 ≤ R ∧ R ≤ 1099511627776) ∧ x.hold off s.data.toList true = { x with B := (x.hold off s.data.toList true).B, H := (x.hold off s.data.toList true).H, hi := R, fin := off + s.size, kn := true }) := Lib.hid ⟨by
                    simp only at hh0 hh1
                    rw [← hR]; split <;> omega, by simp only [Bf.hold, HL.out, hR]; rfl⟩
                  clear hh0 hh1 HA2
                  go_wp2_with fail
                  go_ret
                  rw [HV2.out]
                  refine ⟨rfl, ?_, (HO3.out.put (by simp) _).put (by simp) _⟩
                  show XBuf _ b g1 g2 c1 c2 (x.hold off s.data.toList true)
                  rw [HR.out.2]
                  exact hp_fin (hp_hi HE.out R HR.out.1.1 HR.out.1.2) _ (by omega) (by omega)
            · have d1 : decide (x.pos + (x.n : Int) < off + s.size) = true := decide_eq_true (by omega)
              have HV2 : Hid (x.putC off s.data.toList true = 162) := Lib.hid (by rw [HV.out, decide_eq_false hroom]; rfl)
              clear HV
              go_wp2_with fail
              go_quiet (fail)
              go_wp2_with fail
              go_ret
              rw [HV2.out]
              exact ⟨rfl, HA1.out.keep (S := []) ((Only.refl _ _).drewN _) (by simp) (by simp) (by simp), (HO.out.drewN _).mono (by simp)⟩
        | false =>
          have HV : Hid (x.putC off s.data.toList false = bif decide (off + (s.size : Int) ≤ x.pos + x.n) then 0 else 162) := Lib.hid (by rw [HPF.out _, (x.finB_iff _ _).2 ⟨fun hh => (by cases hh.1), .inl hk⟩]; rfl)
          clear hk
          by_cases hroom : off + (s.size : Int) ≤ x.pos + x.n
          · have d1 : decide (x.pos + (x.n : Int) < off + s.size) = false := decide_eq_false (by omega)
            have HV2 : Hid (x.putC off s.data.toList false = 0) := Lib.hid (by rw [HV.out, decide_eq_true hroom]; rfl)
            have HX : Hid (XBuf (wr.drewN 1) b g1 g2 c1 c2 (hp x off s 0)) := Lib.hid (hp_start off s (HA1.out.keep (S := []) ((Only.refl _ _).drewN _) (by simp) (by simp) (by simp)))
            clear HV HX
            go_wp2_with fail
            go_quiet (fail)
            go_wp2_with fail
            have HX : Hid (XBuf (wr.drewN nq) b g1 g2 c1 c2 (hp x off s 0)) := Lib.hid (hp_start off s (HA1.out.keep (S := []) ((Only.refl _ _).drewN _) (by simp) (by simp) (by simp)))
            have HO2 : Hid (Only [b, g1, g2] w (wr.drewN nq)) := Lib.hid ((HO.out.drewN _).mono (by simp))
            clear k0 k1 k2 k3 k4 k5' d1 HO HA1
            go_loopw [12] (fun i wr => X2Rel x off s w b g1 g2 c1 c2 i wr) (fun i _ => s.size - (intOf i).toNat)
            case atStart => exact ⟨0, rfl, by omega, HX.out, HO2.out⟩
            case round =>
              clear HX HO2
              obtain ⟨i, rfl, hi, hA, hO⟩ := hrel
              have HA2 := Lib.hid hA
              have HO3 := Lib.hid hO
              clear hA hO
              have k1 : wr.cell? ⟨b, 1, none⟩ = some (.int .i64 x.pos) := HA2.out.q1
              by_cases hlt : i < s.size
              · have hlt2 : (i : Int) < s.size := by omega
                have hix := idx_s s i hlt
                obtain ⟨kz, hkz⟩ : ∃ kz, off + (i : Int) - x.pos = kz := ⟨_, rfl⟩
                have f1 : IntKind.i64.wrap (off + (i : Int)) = off + i := IntWalk.i64_in _ (by omega)
                have f2 : IntKind.i64.wrap (off + (i : Int) - x.pos) = kz := by rw [hkz]; exact IntWalk.i64_in _ (by omega)
                have f3 : IntKind.i64.wrap ((i : Int) + 1) = i + 1 := IntWalk.i64_in _ (by omega)
                by_cases c1' : kz < 0
                · have HS := Lib.hid (hp_skip HA2.out (by omega))
                  have c1'' : ¬ (0 : Int) ≤ kz := by omega
                  clear hkz
                  go_wp2_with fail
                  exact ⟨⟨i + 1, by simp, by omega, HS.out, HO3.out⟩, by simp [intOf]; omega⟩
                · obtain ⟨kv, rfl⟩ : ∃ kv : Nat, kz = kv := ⟨kz.toNat, by omega⟩
                  have hkv : kv < x.n := by omega
                  have j1 : (0 : Int) ≤ kv := by omega
                  have j2 : (kv : Int) < x.n := by omega
                  have k2 : wr.cell? ⟨b, 2, none⟩ = some (.slice (some ⟨g1, 0, none⟩) x.n c1) := HA2.out.q2
                  have k3 : wr.cell? ⟨b, 3, none⟩ = some (.slice (some ⟨g2, 0, none⟩) x.n c2) := HA2.out.q3
                  obtain ⟨u1, cb⟩ : ∃ u, wr.cell? ⟨g1, kv, none⟩ = some u := ⟨_, HA2.out.cb kv hkv⟩
                  obtain ⟨u2, ch⟩ : ∃ u, wr.cell? ⟨g2, kv, none⟩ = some u := ⟨_, HA2.out.ch kv hkv⟩
                  have fb : wr.frozen? ⟨g1, kv, none⟩ = false := HA2.out.rb.free _
                  have fh : wr.frozen? ⟨g2, kv, none⟩ = false := HA2.out.rh.free _
                  have n1' : ¬ b = g1 := HA2.out.d1
                  have n2' : ¬ b = g2 := HA2.out.d2
                  have n3' : ¬ g1 = g2 := HA2.out.d3
                  have n4' : ¬ g1 = b := fun e => n1' e.symm
                  have n5' : ¬ g2 = b := fun e => n2' e.symm
                  have n6' : ¬ g2 = g1 := fun e => n3' e.symm
                  have HS := Lib.hid (hp_put HA2.out hkz)
                  clear hkz c1'
                  go_wp2_with fail
                  go_still_tail 8, (by kernel_rfl)
                  go_wp2_with fail
                  exact ⟨⟨i + 1, by simp, by omega, HS.out.keep (S := []) (Only.refl _ _).drew (by simp) (by simp) (by simp), ((HO3.out.put (by simp) _).put (by simp) _).drew⟩, by simp [intOf]; omega⟩
              · obtain rfl : i = s.size := by omega
                have HE := Lib.hid (hp_end false HA2.out)
                have k4 : wr.cell? ⟨b, 4, none⟩ = some (.int .i64 x.hi) := HE.out.q4
                have f4 : wr.frozen? ⟨b, 4, none⟩ = false := HE.out.at_.free 4
                obtain ⟨u5, k5⟩ : ∃ u, wr.cell? ⟨b, 5, none⟩ = some u := ⟨_, HE.out.q5⟩
                have f5 : wr.frozen? ⟨b, 5, none⟩ = false := HE.out.at_.free 5
                obtain ⟨R, hR⟩ : ∃ R, (if x.hi < off + (s.size : Int) then off + (s.size : Int) else x.hi) = R := ⟨_, rfl⟩
                have hh0 := HE.out.h0
                have hh1 := HE.out.h1
                have HR : Hid ((0 ≤ R ∧ R ≤ 1099511627776) ∧ x.hold off s.data.toList false = { x with B := (x.hold off s.data.toList false).B, H := (x.hold off s.data.toList false).H, hi := R, fin := x.fin, kn := x.kn }) := Lib.hid ⟨by
                  simp only at hh0 hh1
                  rw [← hR]; split <;> omega, by simp only [Bf.hold, HL.out, hR]; rfl⟩
                clear hh0 hh1 HA2
                go_wp2_with fail
                go_ret
                rw [HV2.out]
                refine ⟨rfl, ?_, HO3.out.put (by simp) _⟩
                show XBuf _ b g1 g2 c1 c2 (x.hold off s.data.toList false)
                rw [HR.out.2]
                exact hp_hi HE.out R HR.out.1.1 HR.out.1.2
          · have d1 : decide (x.pos + (x.n : Int) < off + s.size) = true := decide_eq_true (by omega)
            have HV2 : Hid (x.putC off s.data.toList false = 162) := Lib.hid (by rw [HV.out, decide_eq_false hroom]; rfl)
            clear HV
            go_wp2_with fail
            go_quiet (fail)
            go_wp2_with fail
            go_ret
            rw [HV2.out]
            exact ⟨rfl, HA1.out.keep (S := []) ((Only.refl _ _).drewN _) (by simp) (by simp) (by simp), (HO.out.drewN _).mono (by simp)⟩
end
end Go.Proofs.YtnnmmmeppbdlnaaDoor
