/- The walk of FrameAckNumbers. -/
import Derived.Test.YtmmgmpghkpbgkaaFtS
import Derived.Test.YtmmgmpghkpbgkaaArE
import Derived.Test.YtmmgmpghkpbgkaaFuH
import Derived.Deep.CutRange
import Derived.Lib.AppendZeros
namespace Go.Proofs.Ytmmgmpghkpbgkaa
open Go Go.RowKit
set_option linter.unusedVariables false
set_option linter.unusedSimpArgs false

theorem rgOk_mem {L : List (Int × Int)} : ∀ {fr : Int}, RgOk fr L → ∀ p ∈ L, 0 ≤ p.1 ∧ p.1 < p.2 ∧ p.2 ≤ 281474976710656 := by
  induction L with
  | nil => intro fr _ p hp; cases hp
  | cons q r ih =>
    obtain ⟨f, t⟩ := q
    intro fr h p hp
    obtain ⟨h1, h2, h3, _, h5⟩ := h
    rcases List.mem_cons.1 hp with rfl | hp
    · exact ⟨h1, h2, h3⟩
    · exact ih h5 p hp
theorem ackF_fr (w : World) (R : List (Int × Int)) (rv : Value) (h : RgAt w rv R) (hs : R.length ≤ 1000) : FrOk w (ackF R) rv := ⟨by constructor <;> simp [ackF, Fr.zero], by simp [ackF, Fr.zero], h, by show R.length ≤ _; omega⟩
set_option maxRecDepth 100000 in
set_option maxHeartbeats 8000000 in
theorem acknum_walk (a0 : Option Addr) (len0 cap0 : Nat) (K N : Nat → Int) (a1 a2 : Int) (w : World) (w0 : Pairs .i64 .i64 w a0 len0 K N) (w1 : (Lit.int .i64 a1).wf = true) (w2 : (Lit.int .i64 a2).wf = true) :
    Calls Try.prog 8 #[.slice a0 len0 cap0, .int .i64 a1, .int .i64 a2] w fun e w' => e = .returned (.bool true) ∧ Below w.heap.size w w' := by
  obtain ⟨l1, u1⟩ := wf_i64 w1
  obtain ⟨l2, u2⟩ := wf_i64 w2
  obtain ⟨L0, _, hL0⟩ := rgAt_of_pairs (cap := cap0) w0
  have HL0 := Lib.hid hL0
  clear hL0 w0 w1 w2
  have hpk := fun ww => pk9 a2 300 ww l2 u2 (by omega)
  have hpb := pkZ_bd a2 300 (by omega)
  obtain ⟨pn, hpn⟩ : ∃ pn, pkZ a2 300 = pn := ⟨_, rfl⟩
  rw [hpn] at hpk hpb
  clear hpn
  have HO := Lib.hid (Only.refl [] w)
  go_enter Try.func8, Try.ntmps8
  go_wp2_with fail
  refine (sane9 _).mono ?_
  rintro e v1 ⟨rfl, ho⟩
  replace HO := Lib.hid (HO.out.trans ho)
  clear ho
  go_wp2_with fail
  refine (rangesFrom_c _ L0 a1 _ (HL0.out.keep HO.out) l1 u1).mono ?_
  rintro e v2 ⟨rv, R, rfl, hG, hne, hlen, hok, ho⟩
  replace HO := Lib.hid (HO.out.trans ho)
  clear ho
  have hIR : InI R := fun p hp => ⟨⟨(RgOk.inR hok p hp).1, (RgOk.inR hok p hp).2.1⟩, (RgOk.inR hok p hp).2.2⟩
  have hra := hG.at hIR
  obtain ⟨ra, rc, hrv, hcs⟩ := hra
  subst hrv
  clear hG
  obtain ⟨s, hs⟩ := ackF_ok hne hlen hok
  obtain ⟨m, hm⟩ : ∃ m, R.length = m + 1 := ⟨R.length - 1, by have := List.length_pos_iff.2 hne; omega⟩
  obtain ⟨g, off, rfl, hg, c0, c1, r0, r1⟩ := hcs 0 (by omega)
  obtain ⟨g2, off2, he2, hg2, d0, d1, s0, s1⟩ := hcs m (by omega)
  cases he2
  obtain ⟨T0, hT0⟩ : ∃ T0, (R[0]'(by omega)).2 = T0 := ⟨_, rfl⟩
  obtain ⟨F, hF⟩ : ∃ F, (R[m]'(by omega)).1 = F := ⟨_, rfl⟩
  obtain ⟨T, hT⟩ : ∃ T, (R[m]'(by omega)).2 = T := ⟨_, rfl⟩
  have hb0 : 0 ≤ T0 ∧ T0 ≤ 281474976710656 := by
    have := rgOk_mem hok _ (List.getElem_mem (l := R) (n := 0) (by omega))
    rw [hT0] at this; omega
  have hbm : 0 ≤ F ∧ F < T ∧ T ≤ 281474976710656 := by
    have := rgOk_mem hok _ (List.getElem_mem (l := R) (n := m) (by omega))
    rw [hF, hT] at this; omega
  have hlast : R.getLast? = some (F, T) := by
    rw [List.getLast?_eq_getElem?, hm, Nat.add_sub_cancel, List.getElem?_eq_getElem (by omega)]
    congr 1
    rw [← hF, ← hT]
  rw [hT0] at c1
  rw [hF] at d0
  rw [hT] at d1
  have hbad1 := ackF_bad (.inr (rngE_bad R (F - 1) F true 281474976710658 (F, T) hlast (by show F ≤ F; omega)))
  have hbad2 := ackF_bad (.inr (rngE_bad R F T true 281474976710658 (F, T) hlast (by show F ≤ T; omega)))
  have hbad3 := ackF_bad (R := []) (.inl rfl)
  have hI1 : InI (R ++ [(F - 1, F)]) := fun p hp => by
    rcases List.mem_append.1 hp with hp | hp
    · exact hIR p hp
    · rw [List.mem_singleton] at hp; subst hp; exact ⟨⟨by show _ ≤ F - 1; omega, by show F - 1 ≤ _; omega⟩, by show _ ≤ F; omega, by show F ≤ _; omega⟩
  have hI2 : InI (R ++ [(F, T)]) := fun p hp => by
    rcases List.mem_append.1 hp with hp | hp
    · exact hIR p hp
    · rw [List.mem_singleton] at hp; subst hp; exact ⟨⟨by show _ ≤ F; omega, by show F ≤ _; omega⟩, by show _ ≤ T; omega, by show T ≤ _; omega⟩
  have HR : Hid (RgAt v2 (.slice (some ⟨g, off, none⟩) R.length rc) R) := Lib.hid ⟨_, _, rfl, hcs⟩
  have HC := Lib.hid (And.intro hg (And.intro c1 (And.intro d0 d1)))
  have hec := fun ww hh => enc_ok (ackF R) (.slice (some ⟨g, off, none⟩) R.length rc) ww hh hs
  have hdc := fun ww => dec_ok0 hs (by intro p hp; exact RgOk.inR hok p hp) ww
  have HNE := Lib.hid (And.intro hne (And.intro hlen (And.intro hI1 hI2)))
  have HV1 := Lib.hid hbad1
  have HV2 := Lib.hid hbad2
  have HV3 := Lib.hid hbad3
  simp only [frC, ackF, Fr.zero] at hec hdc
  have ew : IntKind.i64.wrap ((R.length : Int) - 1) = (m : Int) := by rw [show (R.length : Int) - 1 = (m : Int) by omega]; exact IntWalk.i64_in _ (by omega)
  have HM := Lib.hid hm
  have hml : (m : Int) < R.length := by omega
  have hml2 : m < R.length := by omega
  have hR0 : 0 < R.length := by omega
  clear hcs hg c0 c1 r0 r1 d0 d1 s0 s1 hT0 hF hT hlast hbad1 hbad2 hbad3 hI1 hI2 hne hlen hok hIR hs hm
  have HRq := Lib.hid (Only.refl [] v2)
  go_wp2_with fail
  refine (hec _ (ackF_fr _ R _ (HR.out.keep HRq.out) (by have := HNE.out.2.1; omega))).mono ?_
  rintro e v3 ⟨rfl, ho⟩
  replace HO := Lib.hid (HO.out.trans ho)
  replace HRq := Lib.hid (HRq.out.trans ho)
  clear ho
  go_wp2_with fail
  refine (hdc _).mono ?_
  rintro e v4 ⟨rv2, rfl, hok2, _, ho⟩
  replace HO := Lib.hid (HO.out.trans ho)
  replace HRq := Lib.hid (HRq.out.trans ho)
  clear ho
  obtain ⟨rb, rd, hrv2, hrx2⟩ := (show RgAt _ rv2 R from hok2.rg)
  subst hrv2
  have HD2 : Hid (RgAt v4 (.slice rb R.length rd) R) := Lib.hid ⟨_, _, rfl, hrx2⟩
  clear hrx2 hok2 hec hdc
  go_upto_region 5 with fail
  have HDq := Lib.hid (Only.refl [] v4)
  have hx := At.new v4 33 #[.int .i64 2, .int .i64 0, .int .i64 0, .string (strB []), .bool false, .int .i64 0, .int .i64 0, .bool false, .int .i64 0, .slice rb R.length rd, .int .i64 0, .int .i64 0, .string (strB [])]
  replace HO := Lib.hid (HO.out.alloc (.cells #[.int .i64 2, .int .i64 0, .int .i64 0, .string (strB []), .bool false, .int .i64 0, .int .i64 0, .bool false, .int .i64 0, .slice rb R.length rd, .int .i64 0, .int .i64 0, .string (strB [])] 33))
  replace HRq := Lib.hid (HRq.out.alloc (.cells #[.int .i64 2, .int .i64 0, .int .i64 0, .string (strB []), .bool false, .int .i64 0, .int .i64 0, .bool false, .int .i64 0, .slice rb R.length rd, .int .i64 0, .int .i64 0, .string (strB [])] 33))
  replace HDq := Lib.hid (HDq.out.alloc (.cells #[.int .i64 2, .int .i64 0, .int .i64 0, .string (strB []), .bool false, .int .i64 0, .int .i64 0, .bool false, .int .i64 0, .slice rb R.length rd, .int .i64 0, .int .i64 0, .string (strB [])] 33))
  have hszD : (v4.alloc (.cells #[.int .i64 2, .int .i64 0, .int .i64 0, .string (strB []), .bool false, .int .i64 0, .int .i64 0, .bool false, .int .i64 0, .slice rb R.length rd, .int .i64 0, .int .i64 0, .string (strB [])] 33)).heap.size = v4.heap.size + 1 := by simp
  generalize v4.alloc (.cells #[.int .i64 2, .int .i64 0, .int .i64 0, .string (strB []), .bool false, .int .i64 0, .int .i64 0, .bool false, .int .i64 0, .slice rb R.length rd, .int .i64 0, .int .i64 0, .string (strB [])] 33) = v5 at hx hszD HO HRq HDq ⊢
  generalize v4.heap.size = pd at hx hszD  ⊢
  have HD := Lib.hid hx
  clear hx
  have HbD := Lib.hid (Only.refl [] v5)
  have c0 : v5.drew.cell? ⟨g, off + 1, none⟩ = some (.int .i64 T0) := (HRq.out.cell (p := ⟨g, off + 1, none⟩) HC.out.1 (by simp)).trans (by simpa using HC.out.2.1)
  have ek1 : IntKind.i64.wrap (T0 + 2) = T0 + 2 := IntWalk.i64_in _ (by omega)
  have ek2 : IntKind.i64.wrap (T0 + 2 - pn) = T0 + 2 - pn := IntWalk.i64_in _ (by omega)
  refine wp_region_held_drew (S := fun w' => w'.cell? ⟨g, off + 1, none⟩ = some (.int .i64 T0)) (by kernel_rfl) (by exact c0) (fun hHeld => ?_)
  refine wpAnyH_take (i := 0) (v := ?_) rfl (by kernel_rfl) (by kernel_rfl) (by kernel_rfl) (fun _ _ _ h => h) (Or.inl ⟨by kernel_rfl, ?_⟩) (by assumption) ?_
  rotate_left
  · intro wS hSw
    try dsimp only at hSw
    go_simp
    try with_reducible rfl
  simp only [List.getElem_toArray, List.getElem_cons_succ, List.getElem_cons_zero, Act.put, List.setIfInBounds_toArray, List.set_cons_zero, List.set_cons_succ]
  refine wpAnyH_take (i := 1) (v := ?_) rfl (by kernel_rfl) (by kernel_rfl) (by kernel_rfl) (fun _ _ _ h => h) (Or.inl ⟨by kernel_rfl, ?_⟩) (by assumption) ?_
  rotate_left
  · intro wS hSw
    try dsimp only at hSw
    go_simp
    try with_reducible rfl
  simp only [List.getElem_toArray, List.getElem_cons_succ, List.getElem_cons_zero, Act.put, List.setIfInBounds_toArray, List.set_cons_zero, List.set_cons_succ]
  refine wpAnyH_take (i := 2) (v := ?_) rfl (by kernel_rfl) (by kernel_rfl) (by kernel_rfl) (fun _ _ _ h => h) (Or.inl ⟨by kernel_rfl, ?_⟩) (by assumption) ?_
  rotate_left
  · intro wS hSw
    try dsimp only at hSw
    go_simp
    try with_reducible rfl
  simp only [List.getElem_toArray, List.getElem_cons_succ, List.getElem_cons_zero, Act.put, List.setIfInBounds_toArray, List.set_cons_zero, List.set_cons_succ]
  refine wpAnyH_take (i := 3) (v := ?_) rfl (by kernel_rfl) (by kernel_rfl) (by kernel_rfl) (fun _ _ _ h => h) (Or.inl ⟨by kernel_rfl, ?_⟩) (by assumption) ?_
  rotate_left
  · intro wS hSw
    try dsimp only at hSw
    go_simp
    try with_reducible rfl
  simp only [List.getElem_toArray, List.getElem_cons_succ, List.getElem_cons_zero, Act.put, List.setIfInBounds_toArray, List.set_cons_zero, List.set_cons_succ]
  refine wpAnyH_take (i := 4) (v := ?_) rfl (by kernel_rfl) (by kernel_rfl) (by kernel_rfl) (fun _ _ _ h => h) (Or.inl ⟨by kernel_rfl, ?_⟩) (by assumption) ?_
  rotate_left
  · intro wS hSw
    try dsimp only at hSw
    go_simp
    try with_reducible rfl
  simp only [List.getElem_toArray, List.getElem_cons_succ, List.getElem_cons_zero, Act.put, List.setIfInBounds_toArray, List.set_cons_zero, List.set_cons_succ]
  refine wpAnyH_take (i := 5) (v := ?_) rfl (by kernel_rfl) (by kernel_rfl) (by kernel_rfl) (fun _ _ _ h => h) (Or.inl ⟨by kernel_rfl, ?_⟩) (by assumption) ?_
  rotate_left
  · intro wS hSw
    try dsimp only at hSw
    go_simp
    try with_reducible rfl
  simp only [List.getElem_toArray, List.getElem_cons_succ, List.getElem_cons_zero, Act.put, List.setIfInBounds_toArray, List.set_cons_zero, List.set_cons_succ]
  refine wpAnyH_ready (rs := [6]) (by kernel_rfl) (by simp) ?_
  refine AllReadyH.cons rfl (fun K hK => ?_) AllReadyH.nil
  go_simp
  refine (hpk _).mono ?_
  rintro e wx ⟨rfl, rfl⟩
  refine hK.out _ _ (by exact hHeld) (fun hHeld' => ?_)
  clear hHeld hK K
  have hHeld := hHeld'
  clear hHeld'
  refine wpAnyH_take (i := 7) (v := ?_) rfl (by kernel_rfl) (by kernel_rfl) (by kernel_rfl) (fun _ _ _ h => h) (Or.inl ⟨by kernel_rfl, ?_⟩) (by assumption) ?_
  rotate_left
  · intro wS hSw
    try dsimp only at hSw
    go_simp
    try with_reducible rfl
  simp only [List.getElem_toArray, List.getElem_cons_succ, List.getElem_cons_zero, Act.put, List.setIfInBounds_toArray, List.set_cons_zero, List.set_cons_succ]
  refine wpAnyH_take (i := 8) (v := ?_) rfl (by kernel_rfl) (by kernel_rfl) (by kernel_rfl) (fun _ _ _ h => h) (Or.inl ⟨by kernel_rfl, ?_⟩) (by assumption) ?_
  rotate_left
  · intro wS hSw
    try dsimp only at hSw
    go_simp
    try with_reducible rfl
  simp only [List.getElem_toArray, List.getElem_cons_succ, List.getElem_cons_zero, Act.put, List.setIfInBounds_toArray, List.set_cons_zero, List.set_cons_succ]
  refine wpAnyH_done (by kernel_rfl) ?_ _
  clear c0 hHeld hpk
  replace HO := Lib.hid HO.out.drew
  replace HRq := Lib.hid HRq.out.drew
  replace HDq := Lib.hid HDq.out.drew
  replace HbD := Lib.hid HbD.out.drew
  generalize v5.drew = v6 at HO HRq HDq HbD ⊢
  have d0 : v6.cell? ⟨g, off + m * 2, none⟩ = some (.int .i64 F) := (HRq.out.cell (p := ⟨g, off + m * 2, none⟩) HC.out.1 (by simp)).trans HC.out.2.2.1
  have d1 : v6.cell? ⟨g, off + m * 2 + 1, none⟩ = some (.int .i64 T) := (HRq.out.cell (p := ⟨g, off + m * 2 + 1, none⟩) HC.out.1 (by simp)).trans HC.out.2.2.2
  generalize T0 + 2 - pn = kk at ek2 ⊢
  go_upto_region 7 with fail
  clear d0 d1 ek1 ek2 ew
  have hx := At.new v6 43 #[.int .i64 F, .int .i64 T]
  replace HO := Lib.hid (HO.out.alloc (.cells #[.int .i64 F, .int .i64 T] 43))
  replace HRq := Lib.hid (HRq.out.alloc (.cells #[.int .i64 F, .int .i64 T] 43))
  replace HDq := Lib.hid (HDq.out.alloc (.cells #[.int .i64 F, .int .i64 T] 43))
  replace HbD := Lib.hid (HbD.out.alloc (.cells #[.int .i64 F, .int .i64 T] 43))
  have hszE : (v6.alloc (.cells #[.int .i64 F, .int .i64 T] 43)).heap.size = v6.heap.size + 1 := by simp
  generalize v6.alloc (.cells #[.int .i64 F, .int .i64 T] 43) = v7 at hx hszE HO HRq HDq HbD ⊢
  generalize v6.heap.size = pe at hx hszE  ⊢
  have HE := Lib.hid hx
  clear hx
  have HbE := Lib.hid (Only.refl [] v7)
  clear hszE hszD
  have ef : IntKind.i64.wrap (F - 1) = F - 1 := IntWalk.i64_in _ (by omega)
  obtain ⟨adP, aeP, htP⟩ := twoApp (w := v7.drew) (x := (F - 1, F)) ((HR.out.keep HRq.out).keep (Only.drew (Only.refl [] _))) HNE.out.2.2.1 HNE.out.1 (by have := HNE.out.2.1; omega)
  cases aeP
  have HTP := Lib.hid htP
  clear htP
  have e0 : v7.drew.cell? ⟨pe, 0, none⟩ = some (.int .i64 F) := (HE.out.keep HbE.out (by simp)).cell 0 rfl
  have e1 : v7.drew.cell? ⟨pe, 1, none⟩ = some (.int .i64 T) := (HE.out.keep HbE.out (by simp)).cell 1 rfl
  have hpe : pe < v7.drew.heap.size := (HE.out.keep HbE.out (by simp)).lt
  have HKP : Hid (∀ ww, Only [] v7.drew ww → (ww.cell? ⟨pe, 0, none⟩ = some (.int .i64 F) ∧ ww.cell? ⟨pe, 1, none⟩ = some (.int .i64 T))) := Lib.hid (fun ww o => ⟨(o.cell (p := ⟨pe, 0, none⟩) hpe (by simp)).trans e0, (o.cell (p := ⟨pe, 1, none⟩) hpe (by simp)).trans e1⟩)
  have HS0 : (v7.drew.cell? ⟨pe, 0, none⟩ = some (.int .i64 F) ∧ v7.drew.cell? ⟨pe, 1, none⟩ = some (.int .i64 T)) := ⟨e0, e1⟩
  clear hpe
  go_cut [16] from 48 to 57 (fun s wx => ∃ q p, s = .slice q (R.length + 1) p ∧ RgAt wx s (R ++ [(F - 1, F)]) ∧ Only [] v7 wx)
  case first =>
    refine wp_region_held_drew (S := fun w' => (w'.cell? ⟨pe, 0, none⟩ = some (.int .i64 F) ∧ w'.cell? ⟨pe, 1, none⟩ = some (.int .i64 T))) (by kernel_rfl) (by exact HS0) (fun hHeld => ?_)
    refine wpAnyH_take (i := 0) (v := ?_) rfl (by kernel_rfl) (by kernel_rfl) (by kernel_rfl) (fun _ _ _ h => h) (Or.inl ⟨by kernel_rfl, ?_⟩) (by assumption) ?_
    rotate_left
    · intro wS hSw
      try dsimp only at hSw
      go_simp
      try with_reducible rfl
    simp only [List.getElem_toArray, List.getElem_cons_succ, List.getElem_cons_zero, Act.put, List.setIfInBounds_toArray, List.set_cons_zero, List.set_cons_succ]
    refine wpAnyH_take (i := 2) (v := ?_) rfl (by kernel_rfl) (by kernel_rfl) (by kernel_rfl) (fun _ _ _ h => h) (Or.inl ⟨by kernel_rfl, ?_⟩) (by assumption) ?_
    rotate_left
    · intro wS hSw
      try dsimp only at hSw
      go_simp
      try with_reducible rfl
    simp only [List.getElem_toArray, List.getElem_cons_succ, List.getElem_cons_zero, Act.put, List.setIfInBounds_toArray, List.set_cons_zero, List.set_cons_succ]
    refine wpAnyH_take (i := 3) (v := ?_) rfl (by kernel_rfl) (by kernel_rfl) (by kernel_rfl) (fun _ _ _ h => h) (Or.inl ⟨by kernel_rfl, ?_⟩) (by assumption) ?_
    rotate_left
    · intro wS hSw
      try dsimp only at hSw
      go_simp
      try with_reducible rfl
    simp only [List.getElem_toArray, List.getElem_cons_succ, List.getElem_cons_zero, Act.put, List.setIfInBounds_toArray, List.set_cons_zero, List.set_cons_succ]
    refine wpAnyH_take (i := 4) (v := ?_) rfl (by kernel_rfl) (by kernel_rfl) (by kernel_rfl) (fun _ _ _ h => h) (Or.inl ⟨by kernel_rfl, ?_⟩) (by assumption) ?_
    rotate_left
    · intro wS hSw
      try dsimp only at hSw
      go_simp
      try with_reducible rfl
    simp only [List.getElem_toArray, List.getElem_cons_succ, List.getElem_cons_zero, Act.put, List.setIfInBounds_toArray, List.set_cons_zero, List.set_cons_succ]
    refine wpAnyH_take (i := 5) (v := ?_) rfl (by kernel_rfl) (by kernel_rfl) (by kernel_rfl) (fun _ _ _ h => h) (Or.inl ⟨by kernel_rfl, ?_⟩) (by assumption) ?_
    rotate_left
    · intro wS hSw
      try dsimp only at hSw
      go_simp
      try with_reducible rfl
    simp only [List.getElem_toArray, List.getElem_cons_succ, List.getElem_cons_zero, Act.put, List.setIfInBounds_toArray, List.set_cons_zero, List.set_cons_succ]
    refine wpAnyH_take (i := 6) (v := ?_) rfl (by kernel_rfl) (by kernel_rfl) (by kernel_rfl) (fun _ _ _ h => h) (Or.inl ⟨by kernel_rfl, ?_⟩) (by assumption) ?_
    rotate_left
    · intro wS hSw
      try dsimp only at hSw
      go_simp
      try with_reducible rfl
    simp only [List.getElem_toArray, List.getElem_cons_succ, List.getElem_cons_zero, Act.put, List.setIfInBounds_toArray, List.set_cons_zero, List.set_cons_succ]
    refine wpAnyH_take (i := 7) (v := ?_) rfl (by kernel_rfl) (by kernel_rfl) (by kernel_rfl) (fun _ _ _ h => h) (Or.inl ⟨by kernel_rfl, ?_⟩) (by assumption) ?_
    rotate_left
    · intro wS hSw
      try dsimp only at hSw
      go_simp
      try with_reducible rfl
    simp only [List.getElem_toArray, List.getElem_cons_succ, List.getElem_cons_zero, Act.put, List.setIfInBounds_toArray, List.set_cons_zero, List.set_cons_succ]
    clear e0 e1 HS0
    refine wpAnyH_ready (rs := [1, 8]) (by kernel_rfl) (by simp) ?_
    refine AllReadyH.cons rfl (fun K hK => ?_) (AllReadyH.cons rfl (fun K hK => ?_) AllReadyH.nil)
    · skip
      obtain ⟨v1, y1, v2, y2, eA, oA, eB, ⟨q1, p1, rfl⟩, ⟨q2, p2, rfl⟩, hr, ho⟩ := HTP.out.first
      rw [if_pos (by rfl)]
      refine Lib.wp_append_run _ (.const (.slice none 0 0)) (.tmp 48) 31 31 rfl _ _ rfl rfl _ _ (eA _) ?_
      refine hK.out _ _ (HKP.out _ (oA)) (fun hHeld' => ?_)
      clear hHeld hK K
      have hHeld := hHeld'
      clear hHeld'
      try simp only [List.getElem_toArray, List.getElem_cons_succ, List.getElem_cons_zero, Act.put, List.setIfInBounds_toArray, List.set_cons_zero, List.set_cons_succ]
      refine wpAnyH_ready (rs := [8]) (by kernel_rfl) (by simp) ?_
      refine AllReadyH.cons rfl (fun K hK => ?_) AllReadyH.nil
      go_simp
      refine hK.out _ _ (HKP.out _ (oA.alloc _)) (fun hHeld' => ?_)
      clear hHeld hK K
      have hHeld := hHeld'
      clear hHeld'
      try simp only [List.getElem_toArray, List.getElem_cons_succ, List.getElem_cons_zero, Act.put, List.setIfInBounds_toArray, List.set_cons_zero, List.set_cons_succ]
      refine wpAnyH_ready (rs := [9]) (by kernel_rfl) (by simp) ?_
      refine AllReadyH.cons rfl (fun K hK => ?_) AllReadyH.nil
      rw [if_pos (by rfl)]
      refine Lib.wp_append_run _ (.tmp 49) (.tmp 56) 31 31 rfl _ _ rfl rfl _ _ (eB _) ?_
      refine hK.out _ _ (HKP.out _ (ho)) (fun hHeld' => ?_)
      clear hHeld hK K
      have hHeld := hHeld'
      clear hHeld'
      try simp only [List.getElem_toArray, List.getElem_cons_succ, List.getElem_cons_zero, Act.put, List.setIfInBounds_toArray, List.set_cons_zero, List.set_cons_succ]
      refine wpAnyH_take (i := 10) (v := ?_) rfl (by kernel_rfl) (by kernel_rfl) (by kernel_rfl) (fun _ _ _ h => h) (Or.inl ⟨by kernel_rfl, ?_⟩) (by assumption) ?_
      rotate_left
      · intro wS hSw
        try dsimp only at hSw
        go_simp
        try with_reducible rfl
      simp only [List.getElem_toArray, List.getElem_cons_succ, List.getElem_cons_zero, Act.put, List.setIfInBounds_toArray, List.set_cons_zero, List.set_cons_succ]
      refine wpAnyH_done (by kernel_rfl) ?_ _
      go_wp2_with fail
      go_meet
      exact ⟨_, _, rfl, hr, clr_only ho⟩
    · skip
      obtain ⟨v1, y1, v2, y2, eA, oK, eB, ⟨q1, p1, rfl⟩, ⟨q2, p2, rfl⟩, hr, ho⟩ := HTP.out.last
      have oA : Only [] v7.drew (v7.drew.alloc (.cells #[.int .i64 (F - 1), .int .i64 F] 43)) := (Only.refl [] _).alloc _
      have eA2 : ∀ ty, (Builtin.append_ #[31, 31] ty #[.slice none 0 0, .slice (some ⟨g, off, none⟩) R.length rc]).run Try.prog (v7.alloc (.cells #[.int .i64 (F - 1), .int .i64 F] 43)).drew = .ok (.slice q1 R.length p1) y1 := eA
      have eB2 : ∀ ty, (Builtin.append_ #[31, 31] ty #[.slice q1 R.length p1, .slice (some ⟨v7.heap.size, 0, none⟩) 1 1]).run Try.prog y1 = .ok (.slice q2 (R.length + 1) p2) y2 := eB
      clear eA eB
      go_simp
      refine hK.out _ _ (HKP.out _ (oA)) (fun hHeld' => ?_)
      clear hHeld hK K
      have hHeld := hHeld'
      clear hHeld'
      try simp only [List.getElem_toArray, List.getElem_cons_succ, List.getElem_cons_zero, Act.put, List.setIfInBounds_toArray, List.set_cons_zero, List.set_cons_succ]
      refine wpAnyH_ready (rs := [1]) (by kernel_rfl) (by simp) ?_
      refine AllReadyH.cons rfl (fun K hK => ?_) AllReadyH.nil
      rw [if_pos (by rfl)]
      refine Lib.wp_append_run _ (.const (.slice none 0 0)) (.tmp 48) 31 31 rfl _ _ rfl rfl _ _ (eA2 _) ?_
      refine hK.out _ _ (HKP.out _ (oK)) (fun hHeld' => ?_)
      clear hHeld hK K
      have hHeld := hHeld'
      clear hHeld'
      try simp only [List.getElem_toArray, List.getElem_cons_succ, List.getElem_cons_zero, Act.put, List.setIfInBounds_toArray, List.set_cons_zero, List.set_cons_succ]
      refine wpAnyH_ready (rs := [9]) (by kernel_rfl) (by simp) ?_
      refine AllReadyH.cons rfl (fun K hK => ?_) AllReadyH.nil
      rw [if_pos (by rfl)]
      refine Lib.wp_append_run _ (.tmp 49) (.tmp 56) 31 31 rfl _ _ rfl rfl _ _ (eB2 _) ?_
      refine hK.out _ _ (HKP.out _ (ho)) (fun hHeld' => ?_)
      clear hHeld hK K
      have hHeld := hHeld'
      clear hHeld'
      try simp only [List.getElem_toArray, List.getElem_cons_succ, List.getElem_cons_zero, Act.put, List.setIfInBounds_toArray, List.set_cons_zero, List.set_cons_succ]
      refine wpAnyH_take (i := 10) (v := ?_) rfl (by kernel_rfl) (by kernel_rfl) (by kernel_rfl) (fun _ _ _ h => h) (Or.inl ⟨by kernel_rfl, ?_⟩) (by assumption) ?_
      rotate_left
      · intro wS hSw
        try dsimp only at hSw
        go_simp
        try with_reducible rfl
      simp only [List.getElem_toArray, List.getElem_cons_succ, List.getElem_cons_zero, Act.put, List.setIfInBounds_toArray, List.set_cons_zero, List.set_cons_succ]
      refine wpAnyH_done (by kernel_rfl) ?_ _
      go_wp2_with fail
      go_meet
      exact ⟨_, _, rfl, hr, clr_only ho⟩
  case rest =>
  clear e0 e1 HS0 HKP
  obtain ⟨qP, pP, rfl, hrP, ho⟩ := hcut
  replace HO := Lib.hid (HO.out.trans ho)
  replace HRq := Lib.hid (HRq.out.trans ho)
  replace HDq := Lib.hid (HDq.out.trans ho)
  replace HbD := Lib.hid (HbD.out.trans ho)
  replace HbE := Lib.hid (HbE.out.trans ho)
  clear ho
  generalize wc = wP at hrP HO HRq HDq HbD HbE ⊢
  have HVP := Lib.hid hrP
  clear hrP
  have HqP := Lib.hid (Only.refl [] wP)
  go_upto_region 8 with fail
  obtain ⟨adQ, aeQ, htQ⟩ := twoApp (w := wP.drew) (x := (F, T)) ((HR.out.keep HRq.out).keep (Only.drew (Only.refl [] _))) HNE.out.2.2.2 HNE.out.1 (by have := HNE.out.2.1; omega)
  cases aeQ
  have HTQ := Lib.hid htQ
  clear htQ
  have e0 : wP.drew.cell? ⟨pe, 0, none⟩ = some (.int .i64 F) := (HE.out.keep HbE.out (by simp)).cell 0 rfl
  have e1 : wP.drew.cell? ⟨pe, 1, none⟩ = some (.int .i64 T) := (HE.out.keep HbE.out (by simp)).cell 1 rfl
  have hpe : pe < wP.drew.heap.size := (HE.out.keep HbE.out (by simp)).lt
  have HKP : Hid (∀ ww, Only [] wP.drew ww → (ww.cell? ⟨pe, 0, none⟩ = some (.int .i64 F) ∧ ww.cell? ⟨pe, 1, none⟩ = some (.int .i64 T))) := Lib.hid (fun ww o => ⟨(o.cell (p := ⟨pe, 0, none⟩) hpe (by simp)).trans e0, (o.cell (p := ⟨pe, 1, none⟩) hpe (by simp)).trans e1⟩)
  have HS0 : (wP.drew.cell? ⟨pe, 0, none⟩ = some (.int .i64 F) ∧ wP.drew.cell? ⟨pe, 1, none⟩ = some (.int .i64 T)) := ⟨e0, e1⟩
  clear hpe
  go_cut [17] from 58 to 62 (fun s wx => ∃ q p, s = .slice q (R.length + 1) p ∧ RgAt wx s (R ++ [(F, T)]) ∧ Only [] wP wx)
  case first =>
    refine wp_region_held_drew (S := fun w' => (w'.cell? ⟨pe, 0, none⟩ = some (.int .i64 F) ∧ w'.cell? ⟨pe, 1, none⟩ = some (.int .i64 T))) (by kernel_rfl) (by exact HS0) (fun hHeld => ?_)
    refine wpAnyH_take (i := 0) (v := ?_) rfl (by kernel_rfl) (by kernel_rfl) (by kernel_rfl) (fun _ _ _ h => h) (Or.inl ⟨by kernel_rfl, ?_⟩) (by assumption) ?_
    rotate_left
    · intro wS hSw
      try dsimp only at hSw
      go_simp
      try with_reducible rfl
    simp only [List.getElem_toArray, List.getElem_cons_succ, List.getElem_cons_zero, Act.put, List.setIfInBounds_toArray, List.set_cons_zero, List.set_cons_succ]
    refine wpAnyH_take (i := 2) (v := ?_) rfl (by kernel_rfl) (by kernel_rfl) (by kernel_rfl) (fun _ _ _ h => h) (Or.inl ⟨by kernel_rfl, ?_⟩) (by assumption) ?_
    rotate_left
    · intro wS hSw
      try dsimp only at hSw
      go_simp
      try with_reducible rfl
    simp only [List.getElem_toArray, List.getElem_cons_succ, List.getElem_cons_zero, Act.put, List.setIfInBounds_toArray, List.set_cons_zero, List.set_cons_succ]
    clear e0 e1 HS0
    refine wpAnyH_ready (rs := [1, 3]) (by kernel_rfl) (by simp) ?_
    refine AllReadyH.cons rfl (fun K hK => ?_) (AllReadyH.cons rfl (fun K hK => ?_) AllReadyH.nil)
    · skip
      obtain ⟨v1, y1, v2, y2, eA, oA, eB, ⟨q1, p1, rfl⟩, ⟨q2, p2, rfl⟩, hr, ho⟩ := HTQ.out.first
      rw [if_pos (by rfl)]
      refine Lib.wp_append_run _ (.const (.slice none 0 0)) (.tmp 58) 31 31 rfl _ _ rfl rfl _ _ (eA _) ?_
      refine hK.out _ _ (HKP.out _ (oA)) (fun hHeld' => ?_)
      clear hHeld hK K
      have hHeld := hHeld'
      clear hHeld'
      try simp only [List.getElem_toArray, List.getElem_cons_succ, List.getElem_cons_zero, Act.put, List.setIfInBounds_toArray, List.set_cons_zero, List.set_cons_succ]
      refine wpAnyH_ready (rs := [3]) (by kernel_rfl) (by simp) ?_
      refine AllReadyH.cons rfl (fun K hK => ?_) AllReadyH.nil
      go_simp
      refine hK.out _ _ (HKP.out _ (oA.alloc _)) (fun hHeld' => ?_)
      clear hHeld hK K
      have hHeld := hHeld'
      clear hHeld'
      try simp only [List.getElem_toArray, List.getElem_cons_succ, List.getElem_cons_zero, Act.put, List.setIfInBounds_toArray, List.set_cons_zero, List.set_cons_succ]
      refine wpAnyH_ready (rs := [4]) (by kernel_rfl) (by simp) ?_
      refine AllReadyH.cons rfl (fun K hK => ?_) AllReadyH.nil
      rw [if_pos (by rfl)]
      refine Lib.wp_append_run _ (.tmp 59) (.tmp 61) 31 31 rfl _ _ rfl rfl _ _ (eB _) ?_
      refine hK.out _ _ (HKP.out _ (ho)) (fun hHeld' => ?_)
      clear hHeld hK K
      have hHeld := hHeld'
      clear hHeld'
      try simp only [List.getElem_toArray, List.getElem_cons_succ, List.getElem_cons_zero, Act.put, List.setIfInBounds_toArray, List.set_cons_zero, List.set_cons_succ]
      refine wpAnyH_take (i := 5) (v := ?_) rfl (by kernel_rfl) (by kernel_rfl) (by kernel_rfl) (fun _ _ _ h => h) (Or.inl ⟨by kernel_rfl, ?_⟩) (by assumption) ?_
      rotate_left
      · intro wS hSw
        try dsimp only at hSw
        go_simp
        try with_reducible rfl
      simp only [List.getElem_toArray, List.getElem_cons_succ, List.getElem_cons_zero, Act.put, List.setIfInBounds_toArray, List.set_cons_zero, List.set_cons_succ]
      refine wpAnyH_done (by kernel_rfl) ?_ _
      go_wp2_with fail
      go_meet
      exact ⟨_, _, rfl, hr, clr_only ho⟩
    · skip
      obtain ⟨v1, y1, v2, y2, eA, oK, eB, ⟨q1, p1, rfl⟩, ⟨q2, p2, rfl⟩, hr, ho⟩ := HTQ.out.last
      have oA : Only [] wP.drew (wP.drew.alloc (.cells #[.int .i64 F, .int .i64 T] 43)) := (Only.refl [] _).alloc _
      have eA2 : ∀ ty, (Builtin.append_ #[31, 31] ty #[.slice none 0 0, .slice (some ⟨g, off, none⟩) R.length rc]).run Try.prog (wP.alloc (.cells #[.int .i64 F, .int .i64 T] 43)).drew = .ok (.slice q1 R.length p1) y1 := eA
      have eB2 : ∀ ty, (Builtin.append_ #[31, 31] ty #[.slice q1 R.length p1, .slice (some ⟨wP.heap.size, 0, none⟩) 1 1]).run Try.prog y1 = .ok (.slice q2 (R.length + 1) p2) y2 := eB
      clear eA eB
      go_simp
      refine hK.out _ _ (HKP.out _ (oA)) (fun hHeld' => ?_)
      clear hHeld hK K
      have hHeld := hHeld'
      clear hHeld'
      try simp only [List.getElem_toArray, List.getElem_cons_succ, List.getElem_cons_zero, Act.put, List.setIfInBounds_toArray, List.set_cons_zero, List.set_cons_succ]
      refine wpAnyH_ready (rs := [1]) (by kernel_rfl) (by simp) ?_
      refine AllReadyH.cons rfl (fun K hK => ?_) AllReadyH.nil
      rw [if_pos (by rfl)]
      refine Lib.wp_append_run _ (.const (.slice none 0 0)) (.tmp 58) 31 31 rfl _ _ rfl rfl _ _ (eA2 _) ?_
      refine hK.out _ _ (HKP.out _ (oK)) (fun hHeld' => ?_)
      clear hHeld hK K
      have hHeld := hHeld'
      clear hHeld'
      try simp only [List.getElem_toArray, List.getElem_cons_succ, List.getElem_cons_zero, Act.put, List.setIfInBounds_toArray, List.set_cons_zero, List.set_cons_succ]
      refine wpAnyH_ready (rs := [4]) (by kernel_rfl) (by simp) ?_
      refine AllReadyH.cons rfl (fun K hK => ?_) AllReadyH.nil
      rw [if_pos (by rfl)]
      refine Lib.wp_append_run _ (.tmp 59) (.tmp 61) 31 31 rfl _ _ rfl rfl _ _ (eB2 _) ?_
      refine hK.out _ _ (HKP.out _ (ho)) (fun hHeld' => ?_)
      clear hHeld hK K
      have hHeld := hHeld'
      clear hHeld'
      try simp only [List.getElem_toArray, List.getElem_cons_succ, List.getElem_cons_zero, Act.put, List.setIfInBounds_toArray, List.set_cons_zero, List.set_cons_succ]
      refine wpAnyH_take (i := 5) (v := ?_) rfl (by kernel_rfl) (by kernel_rfl) (by kernel_rfl) (fun _ _ _ h => h) (Or.inl ⟨by kernel_rfl, ?_⟩) (by assumption) ?_
      rotate_left
      · intro wS hSw
        try dsimp only at hSw
        go_simp
        try with_reducible rfl
      simp only [List.getElem_toArray, List.getElem_cons_succ, List.getElem_cons_zero, Act.put, List.setIfInBounds_toArray, List.set_cons_zero, List.set_cons_succ]
      refine wpAnyH_done (by kernel_rfl) ?_ _
      go_wp2_with fail
      go_meet
      exact ⟨_, _, rfl, hr, clr_only ho⟩
  case rest =>
  clear e0 e1 HS0 HKP
  obtain ⟨qQ, pQ, rfl, hrQ, ho⟩ := hcut
  replace HO := Lib.hid (HO.out.trans ho)
  replace HRq := Lib.hid (HRq.out.trans ho)
  replace HDq := Lib.hid (HDq.out.trans ho)
  replace HbD := Lib.hid (HbD.out.trans ho)
  replace HbE := Lib.hid (HbE.out.trans ho)
  replace HqP := Lib.hid (HqP.out.trans ho)
  clear ho
  generalize wc = wQ at hrQ HO HRq HDq HbD HbE HqP ⊢
  have HVQ := Lib.hid hrQ
  clear hrQ
  have HqQ := Lib.hid (Only.refl [] wQ)
  have Dx9 : wQ.cell? ⟨pd, 9, none⟩ = some (.slice rb R.length rd) := (HD.out.keep HbD.out (by simp)).cell 9 rfl
  have hkk := fun ww v h => contains9 v R kk ww h (by have := HNE.out.2.1; omega)
  have hv1 := fun ww h => val_no (ackF (R ++ [(F - 1, F)])) (.slice qP (R.length + 1) pP) ww (ackF_fr ww _ _ h (by have := HNE.out.2.1; simp; omega)) HV1.out
  have hv2 := fun ww h => val_no (ackF (R ++ [(F, T)])) (.slice qQ (R.length + 1) pQ) ww (ackF_fr ww _ _ h (by have := HNE.out.2.1; simp; omega)) HV2.out
  have hv3 := fun ww => val_no (ackF []) (.slice none 0 0) ww (ackF_fr ww _ _ (RgAt.nil ww) (by simp)) HV3.out
  simp only [frC, ackF, Fr.zero] at hv1 hv2 hv3
  go_wp2_with fail
  refine (hkk _ _ (HD2.out.keep HDq.out)).mono ?_
  rintro e v8 ⟨rfl, ho⟩
  clear Dx9
  replace HO := Lib.hid (HO.out.trans ho)
  replace HRq := Lib.hid (HRq.out.trans ho)
  replace HDq := Lib.hid (HDq.out.trans ho)
  replace HbD := Lib.hid (HbD.out.trans ho)
  replace HbE := Lib.hid (HbE.out.trans ho)
  replace HqP := Lib.hid (HqP.out.trans ho)
  replace HqQ := Lib.hid (HqQ.out.trans ho)
  clear ho
  go_wp2_with fail
  refine (hkk _ _ (HR.out.keep HRq.out)).mono ?_
  rintro e v9 ⟨rfl, ho⟩
  replace HO := Lib.hid (HO.out.trans ho)
  replace HRq := Lib.hid (HRq.out.trans ho)
  replace HDq := Lib.hid (HDq.out.trans ho)
  replace HbD := Lib.hid (HbD.out.trans ho)
  replace HbE := Lib.hid (HbE.out.trans ho)
  replace HqP := Lib.hid (HqP.out.trans ho)
  replace HqQ := Lib.hid (HqQ.out.trans ho)
  clear ho
  go_wp2_with fail
  refine (hv1 _ (HVP.out.keep HqP.out)).mono ?_
  rintro e v10 ⟨rfl, ho⟩
  replace HO := Lib.hid (HO.out.trans ho)
  replace HRq := Lib.hid (HRq.out.trans ho)
  replace HDq := Lib.hid (HDq.out.trans ho)
  replace HbD := Lib.hid (HbD.out.trans ho)
  replace HbE := Lib.hid (HbE.out.trans ho)
  replace HqP := Lib.hid (HqP.out.trans ho)
  replace HqQ := Lib.hid (HqQ.out.trans ho)
  clear ho
  go_wp2_with fail
  refine (hv2 _ (HVQ.out.keep HqQ.out)).mono ?_
  rintro e v11 ⟨rfl, ho⟩
  replace HO := Lib.hid (HO.out.trans ho)
  replace HRq := Lib.hid (HRq.out.trans ho)
  replace HDq := Lib.hid (HDq.out.trans ho)
  replace HbD := Lib.hid (HbD.out.trans ho)
  replace HbE := Lib.hid (HbE.out.trans ho)
  replace HqP := Lib.hid (HqP.out.trans ho)
  replace HqQ := Lib.hid (HqQ.out.trans ho)
  clear ho
  go_wp2_with fail
  refine (hv3 _).mono ?_
  rintro e v12 ⟨rfl, ho⟩
  replace HO := Lib.hid (HO.out.trans ho)
  replace HRq := Lib.hid (HRq.out.trans ho)
  replace HDq := Lib.hid (HDq.out.trans ho)
  replace HbD := Lib.hid (HbD.out.trans ho)
  replace HbE := Lib.hid (HbE.out.trans ho)
  replace HqP := Lib.hid (HqP.out.trans ho)
  replace HqQ := Lib.hid (HqQ.out.trans ho)
  clear ho
  go_wp2_with fail
  go_ret
  exact ⟨rfl, HO.out.below (by simp) (Nat.le_refl _)⟩
end Go.Proofs.Ytmmgmpghkpbgkaa
