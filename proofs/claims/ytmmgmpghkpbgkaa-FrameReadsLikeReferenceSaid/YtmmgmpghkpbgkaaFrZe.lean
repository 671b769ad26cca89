/- Contracts of package frame: the closure of Decode. -/
import Derived.Test.YtmmgmpghkpbgkaaFrZd
import Derived.Deep.LoopGhost
import Derived.Deep.CutRange
namespace Go.Proofs.Ytmmgmpghkpbgkaa
open Go Go.RowKit
set_option linter.unusedVariables false
set_option linter.unusedSimpArgs false

/-- The slice v holds the functions of the parts L, or is nil and L empty. -/
def PSl (w : World) (B : Nat) (L : List Pt) (v : Value) : Prop := ∃ a cap, v = .slice a L.length cap ∧ ∀ i (hi : i < L.length), ∃ g cs f0 c0 f1 c1 f2 c2, a = some ⟨g, 0, none⟩ ∧ At w g 105 cs ∧
    cs[i * 3]? = some (.func (.func f0) #[] c0) ∧ cs[i * 3 + 1]? = some (.func (.func f1) #[] c1) ∧ cs[i * 3 + 2]? = some (.func (.func f2) #[] c2) ∧
    PartV w B (L[i]'hi) (.func (.func f0) #[] c0) (.func (.func f1) #[] c1) (.func (.func f2) #[] c2)
theorem LookQ.psl {k : Int} {B : Nat} {v : Value} {w : World} (h : LookQ k B v w) : PSl w B ((tab k).getD []) v := by
  unfold LookQ at h
  cases ht : tab k with
  | none => rw [ht] at h; subst h; exact ⟨none, 0, rfl, fun i hi => by simp at hi⟩
  | some l =>
    rw [ht] at h
    obtain ⟨g, cs, rfl, h2, h3⟩ := h
    refine ⟨_, _, rfl, fun i hi => ?_⟩
    obtain ⟨f0, c0, f1, c1, f2, c2, a, b, c, d⟩ := h3 i hi
    exact ⟨g, cs, f0, c0, f1, c1, f2, c2, rfl, h2, a, b, c, d⟩
theorem rgLast_get {L : List Pt} : rgLast L = true → ∀ (k : Nat) (hk : k + 1 < L.length), (L[k]'(by omega)).isR = false := by
  induction L with
  | nil => intro _ k hk; simp at hk
  | cons p L ih =>
    intro h k hk
    simp only [rgLast, Bool.and_eq_true, Bool.or_eq_true, Bool.not_eq_true', List.isEmpty_iff] at h
    cases k with
    | zero =>
      rcases h.1 with h1 | h1
      · exact h1
      · subst h1; simp at hk
    | succ k => exact ih h.2 k (by simpa using hk)
theorem tabD (k : Int) : rgLast ((tab k).getD []) = true ∧ ((tab k).getD []).length ≤ 3 := by
  cases ht : tab k with
  | none => exact ⟨rfl, by simp⟩
  | some l => obtain ⟨_, _, _, h, _, h2⟩ := tab_cases ht; exact ⟨h, h2⟩
/-- What the closure does: it reads as rdF says. -/
def DecIn (R : Option (Fr × List UInt8)) (rb b : Nat) (s : ByteArray) (w : World) (e : Ending) (w' : World) : Prop := Only [rb, b] w w' ∧ match R with
    | some (f, l) => e = .returned (.tuple #[]) ∧ ∃ rv', FrAt w' b f rv' ∧ FrOk w' f rv' ∧ RgNew w.heap.size rv' ∧ ∃ a', a' ≤ s.size ∧ l = s.data.toList.drop a' ∧ RdAt w' rb s a'
    | none => e = MAL
def DeRel (W2 : World) (rb b : Nat) (s : ByteArray) (L : List Pt) (g : Fr) (l : List UInt8) (gk : Nat) (ix : Value) (wr : World) : Prop :=
  ∃ (k : Nat) (f : Fr) (rv : Value) (a : Nat), gk = L.length - k ∧ k ≤ L.length ∧ ix = .int .i64 k ∧ a ≤ s.size ∧ gets L g l = gets (L.drop k) f (s.data.toList.drop a) ∧ FrAt wr b f rv ∧ RgAt wr rv f.rg ∧ RgNew W2.heap.size rv ∧ RdAt wr rb s a ∧
    (k < L.length → rv = .slice none 0 0 ∧ f.rg = []) ∧ Only [rb, b] W2 wr
set_option maxRecDepth 100000 in
set_option maxHeartbeats 4000000 in
theorem decode_in (b q rb : Nat) (hne : rb ≠ b) (g : Fr) (s : ByteArray) (a : Nat) (w : World) (hs : s.size ≤ 4611686018427387903) (ha : a ≤ s.size) (hA : FrAt w b g (.slice none 0 0)) (hW : FrWf g) (hg : g.rg = []) (hty : 0 ≤ g.ty ∧ g.ty ≤ 255)
    (hR : RdAt w rb s a) (hQ : At w q 95 #[.pointer (some ⟨rb, 0, none⟩)]) :
    Calls Try.prog 59 #[.pointer (some ⟨b, 0, none⟩), .pointer (some ⟨q, 0, none⟩)] w (DecIn (rdF g (s.data.toList.drop a)) rb b s w) := by
  obtain ⟨L, hL⟩ : ∃ L, (tab g.ty).getD [] = L := ⟨_, rfl⟩
  obtain ⟨hlast, hl3⟩ := tabD g.ty
  rw [hL] at hlast hl3
  obtain ⟨R, hR0⟩ : ∃ R, rdF g (s.data.toList.drop a) = R := ⟨_, rfl⟩
  rw [hR0]
  unfold rdF at hR0
  rw [hL] at hR0
  have HR0 := Lib.hid hR0
  clear hR0
  have c0 : w.cell? ⟨b, 0, none⟩ = some (.int .i64 g.ty) := At.cell hA 0 rfl
  have hbl := At.lt hA
  have hrl := At.lt hR
  have HA := Lib.hid hA
  have HR := Lib.hid hR
  have HQ := Lib.hid hQ
  have HQn : Hid (q ∉ [rb, b]) := Lib.hid (by
    intro hm
    unfold RdAt at hR
    unfold FrAt at hA
    unfold At at hR hA hQ
    rcases List.mem_cons.1 hm with rfl | hm
    · rw [hR] at hQ; cases hQ
    · obtain rfl := List.mem_singleton.1 hm
      rw [hA] at hQ; cases hQ)
  clear hA hR hQ
  go_enter Try.func59, Try.ntmps59
  go_upto_region 0 with fail
  refine wp_region_held_drew (S := fun w' => w'.cell? ⟨b, 0, none⟩ = some (.int .i64 g.ty)) (by kernel_rfl) (by exact c0) (fun hHeld => ?_)
  refine wpAnyH_take (i := 1) (v := ?_) rfl (by kernel_rfl) (by kernel_rfl) (by kernel_rfl) (fun _ _ _ h => h) (Or.inl ⟨by kernel_rfl, ?_⟩) (by assumption) ?_
  rotate_left
  · intro wS hSw
    try dsimp only at hSw
    go_simp
    try with_reducible rfl
  simp only [List.getElem_toArray, List.getElem_cons_succ, List.getElem_cons_zero, Act.put, List.setIfInBounds_toArray, List.set_cons_zero, List.set_cons_succ]
  refine wpAnyH_take (i := 2) (v := ?_) rfl (by kernel_rfl) (by kernel_rfl) (by kernel_rfl) (fun _ _ _ h => h) (Or.inl ⟨by kernel_rfl, ?_⟩) (by assumption) ?_
  rotate_left
  · intro wS hSw
    try dsimp only at hSw
    go_simp
    try with_reducible rfl
  simp only [List.getElem_toArray, List.getElem_cons_succ, List.getElem_cons_zero, Act.put, List.setIfInBounds_toArray, List.set_cons_zero, List.set_cons_succ]
  refine wpAnyH_take (i := 5) (v := ?_) rfl (by kernel_rfl) (by kernel_rfl) (by kernel_rfl) (fun _ _ _ h => h) (Or.inl ⟨by kernel_rfl, ?_⟩) (by assumption) ?_
  rotate_left
  · intro wS hSw
    try dsimp only at hSw
    go_simp
    try with_reducible rfl
  simp only [List.getElem_toArray, List.getElem_cons_succ, List.getElem_cons_zero, Act.put, List.setIfInBounds_toArray, List.set_cons_zero, List.set_cons_succ]
  refine wpAnyH_ready (rs := [0]) (by kernel_rfl) (by simp) ?_
  refine AllReadyH.cons rfl (fun K hK => ?_) AllReadyH.nil
  go_simp
  refine (parts_c _).mono ?_
  rintro e w2 ⟨mb, rfl, hP, ho2⟩
  obtain ⟨v, hlk0, hq⟩ := look_tab hP g.ty
  have hlk := hlk0 false
  simp only [Bool.false_eq_true, if_false] at hlk
  clear hlk0
  have hq := hq.psl
  rw [hL] at hq
  obtain ⟨sa, scap, rfl, hsl⟩ := hq
  have HO2 := Lib.hid ho2
  have HSL := Lib.hid hsl
  have d0 := (ho2.cell (p := ⟨b, 0, none⟩) (World.block_lt_of_cell? _ _ c0) (by simp)).trans c0
  clear hP ho2 hsl
  refine hK.out _ _ (by exact d0) (fun hHeld' => ?_)
  clear hHeld hK K
  have hHeld := hHeld'
  clear hHeld'
  refine wpAnyH_ready (rs := [3]) (by kernel_rfl) (by simp) ?_
  refine AllReadyH.cons rfl (fun K hK => ?_) AllReadyH.nil
  go_simp
  refine hK.out _ _ (by exact hHeld) (fun hHeld' => ?_)
  clear hHeld hK K hlk
  have hHeld := hHeld'
  clear hHeld'
  refine wpAnyH_take (i := 4) (v := ?_) rfl (by kernel_rfl) (by kernel_rfl) (by kernel_rfl) (fun _ _ _ h => h) (Or.inl ⟨by kernel_rfl, ?_⟩) (by assumption) ?_
  rotate_left
  · intro wS hSw
    try dsimp only at hSw
    go_simp
    try with_reducible rfl
  simp only [List.getElem_toArray, List.getElem_cons_succ, List.getElem_cons_zero, Act.put, List.setIfInBounds_toArray, List.set_cons_zero, List.set_cons_succ]
  refine wpAnyH_done (by kernel_rfl) ?_ _
  clear d0 c0 hHeld
  have HA2 : Hid (FrAt w2 b g (.slice none 0 0)) := Lib.hid (At.keep (show At w.drew b 33 _ from HA.out) HO2.out (by simp))
  have HRd2 : Hid (RdAt w2 rb s a) := Lib.hid (At.keep (show At w.drew rb 97 _ from HR.out) HO2.out (by simp))
  have HQ2 : Hid (At w2 q 95 #[.pointer (some ⟨rb, 0, none⟩)]) := Lib.hid (At.keep (show At w.drew q 95 _ from HQ.out) HO2.out (by simp))
  have HAD0 := Lib.hid HA2.out
  have HRD0 := Lib.hid HRd2.out
  have HR2 : Hid (Only [rb, b] w2 w2) := Lib.hid (Only.refl _ _)
  have HOw : Hid (Only [rb, b] w w2) := Lib.hid ((((Only.refl [] w).drew).trans HO2.out).mono (by simp))
  have hwd : w.drew.heap.size = w.heap.size := rfl
  rw [hwd] at HSL
  have hbl2 := At.lt HA2.out
  have hrl2 := At.lt HRd2.out
  clear HA HR HQ HO2 hwd
  go_wp2_with fail
  go_loopg [9] L.length (fun gk ix wr => DeRel w2 rb b s L g (s.data.toList.drop a) gk ix wr)
  case atStart => exact ⟨0, g, _, a, by simp, by omega, rfl, ha, rfl, HA2.out, by rw [hg]; exact RgAt.nil _, RgNew.nil _, HRd2.out, fun _ => ⟨rfl, hg⟩, HR2.out⟩
  case round =>
    obtain ⟨k, f, rv, ak, rfl, hk, rfl, hak, hgs, hAr, hRg, hRn, hRr, hlow, hO⟩ := hrel
    have HAr := Lib.hid hAr
    have HRr := Lib.hid hRr
    have HRg := Lib.hid hRg
    have HGS := Lib.hid hgs
    have HO := Lib.hid hO
    clear hAr hRr hgs HA2 HRd2 HR2
    by_cases hlt : k < L.length
    · have hlt' : (k : Int) < L.length := by omega
      have hk4 : k ≤ 3 := by omega
      have f9 : IntKind.i64.wrap ((k : Int) + 1) = ((k + 1 : Nat) : Int) := by rw [show (k : Int) + 1 = ((k + 1 : Nat) : Int) by omega]; exact IntWalk.i64_in _ (by omega)
      obtain ⟨rfl, hfrg⟩ := hlow hlt
      obtain ⟨gg, cs, f0, d0, f1, d1, f2, d2, rfl, hgA, q0, q1, q2, hV⟩ := HSL.out k hlt
      have hgn : gg ∉ [rb, b] := by
        intro hm
        have x1 := HAr.out
        have x2 := HRr.out
        have x3 := HQ2.out
        rcases List.mem_cons.1 hm with rfl | hm
        · have := hgA
          have y := HRD0.out
          unfold RdAt At at y
          unfold At at this
          rw [y] at this; cases this
        · obtain rfl := List.mem_singleton.1 hm
          have := hgA
          have y := HAD0.out
          unfold FrAt At at y
          unfold At at this
          rw [y] at this; cases this
      obtain ⟨E0, E1, E2⟩ := ent_p hV
      have hgr : At wr gg 105 cs := At.keep hgA hO hgn
      have p0 := hgr.cell (k * 3) q0
      have p1 := hgr.cell (k * 3 + 1) q1
      have p2 := hgr.cell (k * 3 + 2) q2
      have k0 : ∀ o, (wr.alloc o).cell? ⟨q, 0, none⟩ = some (.pointer (some ⟨rb, 0, none⟩)) := fun o => ((At.keep HQ2.out hO HQn.out).alloc o).cell 0 rfl
      obtain ⟨p, hp⟩ : ∃ p, L[k]'hlt = p := ⟨_, rfl⟩
      have HIR : Hid (k + 1 < L.length → p.isR = false) := Lib.hid (fun h => by rw [← hp]; exact rgLast_get hlast k h)
      rw [hp] at hV
      have HD : Hid (gets (L.drop k) f (s.data.toList.drop ak) = match getP p f (s.data.toList.drop ak) with
          | none => none
          | some (g, l1) => gets (L.drop (k + 1)) g l1) := Lib.hid (by rw [List.drop_eq_getElem_cons hlt, hp]; rfl)
      have hpb := At.new wr 105 #[.func (.func f0) #[] d0, .func (.func f1) #[] d1, .func (.func f2) #[] d2]
      have hOw := HO.out.alloc (.cells #[.func (.func f0) #[] d0, .func (.func f1) #[] d1, .func (.func f2) #[] d2] 105)
      have hAw := At.alloc HAr.out (.cells #[.func (.func f0) #[] d0, .func (.func f1) #[] d1, .func (.func f2) #[] d2] 105)
      have hRw := At.alloc HRr.out (.cells #[.func (.func f0) #[] d0, .func (.func f1) #[] d1, .func (.func f2) #[] d2] 105)
      have hget := get_p (hV.keep (S := [rb, b]) hOw (by intro z hz; rcases List.mem_cons.1 hz with rfl | hz; exact .inl hrl; obtain rfl := List.mem_singleton.1 hz; exact .inl hbl)) hne ⟨hrl, hbl⟩ hak hs hRw hAw hfrg
      have e1 := fun (W : World) => E1 (#[.pointer (some ⟨rb, 0, none⟩), .pointer (some ⟨b, 0, none⟩)] ++ d1) W
      have HOw2 := Lib.hid hOw
      clear E0 E1 E2 hV q0 q1 q2 hgr hO hp hgA hlow hAw hRw hpb hOw hgn
      unfold GetQ at hget
      cases hE : getP p f (s.data.toList.drop ak) with
      | none =>
        have HN : Hid (R = none) := Lib.hid (by rw [← HR0.out, HGS.out, HD.out, hE])
        simp only [hE, MAL] at hget
        clear hE
        go_wp2_with fail
        refine hget.mono ?_
        rintro e w6 ⟨ho6, rfl⟩
        exact ⟨rfl, by rw [HN.out]; exact ⟨HOw.out.trans (HOw2.out.trans ho6), rfl⟩⟩
      | some z =>
        obtain ⟨f', l'⟩ := z
        have HD2 : Hid (gets L g (s.data.toList.drop a) = gets (L.drop (k + 1)) f' l') := Lib.hid (by rw [HGS.out, HD.out, hE])
        simp only [hE] at hget
        clear hE HD
        go_wp2_with fail
        refine hget.mono ?_
        rintro e w6 ⟨ho6, rfl, rv', hA6, hRg6, hn6, hr6, a', ha', rfl, hR6⟩
        have HO6 := Lib.hid (HOw2.out.trans ho6)
        have HLW : Hid (w2.heap.size ≤ (wr.alloc (.cells #[.func (.func f0) #[] d0, .func (.func f1) #[] d1, .func (.func f2) #[] d2] 105)).heap.size) := Lib.hid HOw2.out.size
        have HA6 := Lib.hid hA6
        have HRg6 := Lib.hid hRg6
        have HR6 := Lib.hid hR6
        clear hA6 hR6 ho6 hget p0 p1 p2 e1 k0
        go_wp2_with fail
        go_roundg (L.length - (k + 1))
        case measure => omega
        case rel => exact ⟨k + 1, f', rv', a', rfl, by omega, rfl, ha', HD2.out, HA6.out, HRg6.out, hn6.low HLW.out, HR6.out, fun h => hr6 (HIR.out h), HO6.out⟩
    · obtain rfl : k = L.length := by omega
      have hlt' : ¬ (L.length : Int) < L.length := by omega
      have hgs : gets L g (s.data.toList.drop a) = some (f, s.data.toList.drop ak) := by rw [HGS.out, List.drop_length]; rfl
      obtain ⟨w1, w2', w3⟩ := gets_wf L hgs hW (by simp; omega)
      obtain ⟨t1, t2, t3⟩ := gets_ty L hgs (by rw [hg]; intro p hp; cases hp)
      have hokf : FrOk wr f rv := ⟨w1, by rw [t1]; omega, hRg, by rw [hg] at w3; simp at w3; omega⟩
      have HOK := Lib.hid hokf
      have hR1 := HR0.out
      rw [hgs] at hR1
      simp only at hR1
      have hen := encode_c f rv wr hokf.wf hokf.ty hokf.rg hokf.sz
      obtain ⟨a9, cap9, rfl, h9⟩ := hRg
      have x0 : wr.cell? ⟨b, 0, none⟩ = some (.int .i64 f.ty) := At.cell HAr.out 0 rfl
      have x1 : wr.cell? ⟨b, 1, none⟩ = some (.int .i64 f.st) := At.cell HAr.out 1 rfl
      have x2 : wr.cell? ⟨b, 2, none⟩ = some (.int .i64 f.off) := At.cell HAr.out 2 rfl
      have x3 : wr.cell? ⟨b, 3, none⟩ = some (.string (strB f.S)) := At.cell HAr.out 3 rfl
      have x4 : wr.cell? ⟨b, 4, none⟩ = some (.bool f.fin) := At.cell HAr.out 4 rfl
      have x5 : wr.cell? ⟨b, 5, none⟩ = some (.int .i64 f.mx) := At.cell HAr.out 5 rfl
      have x6 : wr.cell? ⟨b, 6, none⟩ = some (.int .i64 f.cd) := At.cell HAr.out 6 rfl
      have x7 : wr.cell? ⟨b, 7, none⟩ = some (.bool f.uni) := At.cell HAr.out 7 rfl
      have x8 : wr.cell? ⟨b, 8, none⟩ = some (.int .i64 f.dl) := At.cell HAr.out 8 rfl
      have x9 : wr.cell? ⟨b, 9, none⟩ = some (.slice a9 f.rg.length cap9) := At.cell HAr.out 9 rfl
      have x10 : wr.cell? ⟨b, 10, none⟩ = some (.int .i64 f.sq) := At.cell HAr.out 10 rfl
      have x11 : wr.cell? ⟨b, 11, none⟩ = some (.int .i64 f.rt) := At.cell HAr.out 11 rfl
      have x12 : wr.cell? ⟨b, 12, none⟩ = some (.string (strB f.cid)) := At.cell HAr.out 12 rfl
      have HR1 := Lib.hid hR1
      clear h9 hgs w1 w2' w3 t1 t2 t3 hokf hR1 hO HGS hlow
      cases hE : encF f with
      | none =>
        have HN : Hid (R = none) := Lib.hid (by rw [← HR1.out, hE])
        simp only [hE, strE, MAL] at hen
        clear hE
        go_wp2_with fail
        refine hen.mono ?_
        rintro e w9 ⟨rfl, ho9⟩
        exact ⟨rfl, by rw [HN.out]; exact ⟨HOw.out.trans (HO.out.trans (ho9.mono (by simp))), rfl⟩⟩
      | some sE =>
        have HN : Hid (R = some (f, s.data.toList.drop ak)) := Lib.hid (by rw [← HR1.out, hE])
        simp only [hE, strE] at hen
        clear hE
        go_wp2_with fail
        refine hen.mono ?_
        rintro e w9 ⟨rfl, ho9⟩
        go_wp2_with fail
        go_end0
        rw [HN.out]
        exact ⟨HOw.out.trans (HO.out.trans (ho9.mono (by simp))), rfl, _, At.keep HAr.out ho9 (by simp), HOK.out.keep ho9, hRn.low HOw.out.size, ak, hak, rfl, At.keep HRr.out ho9 (by simp)⟩
end Go.Proofs.Ytmmgmpghkpbgkaa
