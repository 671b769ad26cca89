/- Contracts of package acks: Receive. -/
import Derived.Test.YtmmgmpghkpbgkaaAnD
import Derived.Test.YtmmgmpghkpbgkaaAnB
import Derived.Test.YtmmgmpghkpbgkaaAnC
namespace Go.Proofs.Ytmmgmpghkpbgkaa
open Go Go.RowKit Go.Shelf
set_option linter.unusedVariables false
set_option linter.unusedSimpArgs false

/-- Block b is a tracker with the intervals L. -/
def TK (w : World) (b : Nat) (L : List (Int × Int)) (d fl lg wh ct du : Int) : Prop := ∃ F T n, L = lst F T 0 n ∧ n ≤ 16 ∧ Trk w b F T n d fl lg wh ct du
theorem TK.keep {w w' : World} {b : Nat} {L : List (Int × Int)} {d fl lg wh ct du : Int} {S : List Nat} (h : TK w b L d fl lg wh ct du) (ho : Only S w w') (hb : b ∉ S) : TK w' b L d fl lg wh ct du := by
  obtain ⟨F, T, n, h1, h2, h3⟩ := h; exact ⟨F, T, n, h1, h2, At.keep h3 ho hb⟩
theorem TK.len {w : World} {b : Nat} {L : List (Int × Int)} {d fl lg wh ct du : Int} (h : TK w b L d fl lg wh ct du) : L.length ≤ 16 := by
  obtain ⟨F, T, n, h1, h2, h3⟩ := h; rw [h1, lst_len]; exact h2
def capL (L : List (Int × Int)) : List (Int × Int) := if 16 < L.length then L.tail else L
def capF (L : List (Int × Int)) (fl : Int) : Int := if 16 < L.length then (L.headD (0, 0)).2 else fl
theorem has_c (b : Nat) (pn : Int) (F T : Nat → Int) (n : Nat) (d fl lg wh ct du : Int) (hn : n ≤ 17) (w : World) (hT : Trk w b F T n d fl lg wh ct du) (z : Bool) (hz : z = true ↔ In (lst F T 0 n) pn) :
    Calls Try.prog 51 #[.pointer (some ⟨b, 0, none⟩), .int .i64 pn] w fun e W' => e = .returned (.bool z) ∧ Trk W' b F T n d fl lg wh ct du ∧ Only [] w W' := by
  have hi : In (lst F T 0 n) pn ↔ ∃ i, i < n ∧ F i ≤ pn ∧ pn < T i := by rw [In_lst]; simp
  refine (callsIn_wide.1 (has_in Fence.wide 3 trivial trivial trivial rfl (by omega) b pn F T n d fl lg wh ct du hn w hT)).mono fun e w' ⟨h1, h2⟩ => ⟨?_, At.keep (S := []) hT (Only.of_below h2) (by simp), Only.of_below h2⟩
  rcases h1 with ⟨he, hno⟩ | ⟨he, hyes⟩
  · have : z = false := by
      cases z with
      | false => rfl
      | true => obtain ⟨i, h3, h4⟩ := hi.1 (hz.1 rfl); exact absurd h4 (hno i h3)
    rw [he, this]
  · rw [he, hz.2 (hi.2 hyes)]

set_option maxRecDepth 100000 in
set_option maxHeartbeats 1000000 in
theorem recv_dup (b : Nat) (L : List (Int × Int)) (d fl lg wh ct du now pn : Int) (el : Bool) (w : World) (hT : TK w b L d fl lg wh ct du) (h0 : 0 ≤ now) (h1 : now ≤ 1099511627776) (p0 : 0 ≤ pn) (p1 : pn ≤ 281474976710655) (hd : pn < fl ∨ In L pn) :
    Calls Try.prog 15 #[.pointer (some ⟨b, 0, none⟩), .int .i64 now, .int .i64 pn, .bool el] w fun e w' => e = .returned (.int .i64 110) ∧ TK w' b L d fl lg wh ct du ∧ Only [] w w' := by
  obtain ⟨F, T, n, rfl, hn, hT⟩ := hT
  have c := hT.gfl
  have HT := Lib.hid hT; clear hT
  by_cases hf : pn < fl
  · clear hd
    go_enter Try.func15, Try.ntmps15
    go_wp2_with fail
    go_ret
    exact ⟨rfl, ⟨F, T, n, rfl, hn, HT.out⟩, Only.refl _ _⟩
  · have hi : In (lst F T 0 n) pn := hd.resolve_left hf
    have HI := Lib.hid hi
    clear hd hi
    go_enter Try.func15, Try.ntmps15
    go_wp2_with fail
    refine (has_c b pn F T n d fl lg wh ct du (by omega) _ (by exact HT.out) true ⟨fun _ => HI.out, fun _ => rfl⟩).mono ?_
    rintro e w1 ⟨rfl, hT1, ho1⟩
    go_wp2_with fail
    go_ret
    exact ⟨rfl, ⟨F, T, n, rfl, hn, hT1⟩, ho1⟩
def RecvPost (b : Nat) (L : List (Int × Int)) (d fl lg wh ct du now pn : Int) (el : Bool) (w : World) (e : Ending) (w' : World) : Prop :=
  e = .returned (.int .i64 0) ∧ TK w' b (capL (ins L pn)) d (capF (ins L pn) fl) (if lg < pn then pn else lg) (if lg < pn then now else wh) (if el then ct + 1 else ct) (if el then duZ ct d du now (decide (lg = -1 ∨ pn = lg + 1)) else du) ∧ Only [b] w w'
/-- What stands when the number has been added and the list cut. -/
theorem recv_close (b : Nat) (L : List (Int × Int)) (d fl lg wh ct du now pn : Int) (el o : Bool) (w w' : World) (ho : decide (lg = -1 ∨ pn = lg + 1) = o) (lg' wh' ct' du' : Int)
    (h1 : lg' = if lg < pn then pn else lg) (h2 : wh' = if lg < pn then now else wh) (h3 : ct' = if el then ct + 1 else ct) (h4 : du' = if el then duZ ct d du now o else du)
    (hk : TK w' b (capL (ins L pn)) d (capF (ins L pn) fl) lg' wh' ct' du') (hO : Only [b] w w') : RecvPost b L d fl lg wh ct du now pn el w (.returned (.int .i64 0)) w' := by
  subst h1 h2 h3 h4 ho; exact ⟨rfl, hk, hO⟩
set_option maxRecDepth 100000 in
set_option maxHeartbeats 4000000 in
theorem recv_ok (b : Nat) (L : List (Int × Int)) (d fl lg wh ct du now pn : Int) (el : Bool) (w : World) (hT : TK w b L d fl lg wh ct du) (h0 : 0 ≤ now) (h1 : now ≤ 1099511627776) (p0 : 0 ≤ pn) (p1 : pn ≤ 281474976710655) (hf : fl ≤ pn) (hi : ¬ In L pn)
    (d0 : 0 ≤ d) (d1 : d ≤ 20) (k0 : 0 ≤ ct) (k1 : ct ≤ 1000000) (g0 : -1 ≤ lg) (g1 : lg ≤ 281474976710655) :
    Calls Try.prog 15 #[.pointer (some ⟨b, 0, none⟩), .int .i64 now, .int .i64 pn, .bool el] w (RecvPost b L d fl lg wh ct du now pn el w) := by
  obtain ⟨F, T, n, rfl, hn, hT⟩ := hT
  have c := hT.gfl
  have HT := Lib.hid hT; clear hT
  have HI := Lib.hid hi; clear hi
  go_enter Try.func15, Try.ntmps15
  go_wp2_with fail
  refine (has_c b pn F T n d fl lg wh ct du (by omega) _ (by exact HT.out) false ⟨(fun h => by cases h), fun h => absurd h HI.out⟩).mono ?_
  rintro e w1 ⟨rfl, hT1, ho1⟩
  have HT1 := Lib.hid hT1
  have HO1 := Lib.hid (ho1.mono (T := [b]) (by simp))
  clear hT1 ho1 HT c
  go_wp2_with fail
  refine (add_c b pn F T n d fl lg wh ct du (by omega) (by omega) hn _ (by exact HT1.out)).mono ?_
  rintro e w2 ⟨F2, T2, n2, rfl, hl, hn2, hT2, ho2⟩
  have HL := Lib.hid hl
  have HT2 := Lib.hid hT2
  have HO2 := Lib.hid (HO1.out.trans ho2)
  clear hl hT2 ho2 HT1 HO1
  have c34 := HT2.out.gn
  by_cases h17 : n2 = 17
  · subst h17
    have c1 : w2.cell? ⟨b, 1, none⟩ = some (.int .i64 (T2 0)) := HT2.out.gT 0 (by omega)
    have c36 := HT2.out.gfl
    have f36 : w2.frozen? ⟨b, 36, none⟩ = false := At.free HT2.out _
    go_wp2_with fail
    refine (remove_c b 0 0 F2 T2 17 d (T2 0) lg wh ct du rfl (by omega) (by omega) (by omega) _ (by exact At.set HT2.out 36 _ rfl)).mono ?_
    rintro e w3 ⟨rfl, hT3, ho3⟩
    have HT3 := Lib.hid hT3
    have HO3 := Lib.hid ((HO2.out.put (by simp) _).trans ho3)
    clear hT3 ho3
    have hz1 : lst (mv F2 0 1 16) (mv T2 0 1 16) 0 16 = capL (ins (lst F T 0 n) pn) := by
      rw [← HL.out]; unfold capL; rw [if_pos (by rw [lst_len]; omega)]
      show _ = lst F2 T2 1 16
      apply lst_congr
      intro i hi
      simp only [mv]
      rw [if_pos (by omega), if_pos (by omega), show 1 + (0 + i - 0) = 1 + i from by omega]
      exact ⟨rfl, rfl⟩
    have hz2 : capF (ins (lst F T 0 n) pn) fl = T2 0 := by
      rw [← HL.out]; unfold capF; rw [if_pos (by rw [lst_len]; omega)]; rfl
    have HZ1 := Lib.hid hz1
    have HZ2 := Lib.hid hz2
    clear hz1 hz2 c1 c36 f36 c34 HT2 HO2
    have c37 := HT3.out.glg
    have c38 := HT3.out.gwh
    have f37 : w3.frozen? ⟨b, 37, none⟩ = false := At.free HT3.out _
    have f38 : w3.frozen? ⟨b, 38, none⟩ = false := At.free HT3.out _
    have e1 : IntKind.i64.wrap (lg + 1) = lg + 1 := IntWalk.i64_in _ (by omega)
    by_cases q1 : lg = -1
    · have b1 : (lg == -1) = true := by simpa using q1
      have ho : decide (lg = -1 ∨ pn = lg + 1) = true := by simp [q1]
      have q2 : lg < pn := by omega
      have HO := Lib.hid ho
      clear ho q1
      cases el
      · go_wp2_with fail
        go_ret
        exact recv_close b _ d fl lg wh ct du now pn false true w _ HO.out pn now ct du (by rw [if_pos (by omega)]) (by rw [if_pos (by omega)]) rfl rfl ⟨(mv F2 0 1 16), (mv T2 0 1 16), 16, HZ1.out.symm, by omega, by rw [HZ2.out]; exact ((At.set HT3.out 37 (.int .i64 pn) rfl).set 38 (.int .i64 now) rfl)⟩ ((HO3.out.put (by simp) _).put (by simp) _)
      · go_wp2_with fail
        refine (schedule_c b (mv F2 0 1 16) (mv T2 0 1 16) 16 d (T2 0) pn now ct du _ (by exact ((At.set HT3.out 37 (.int .i64 pn) rfl).set 38 (.int .i64 now) rfl)) now true h0 h1 d0 d1 k0 k1).mono ?_
        rintro e w4 ⟨rfl, hT4, ho4⟩
        go_wp2_with fail
        go_ret
        exact recv_close b _ d fl lg wh ct du now pn true true w _ HO.out pn now (ct + 1) (duZ ct d du now true) (by rw [if_pos (by omega)]) (by rw [if_pos (by omega)]) rfl rfl ⟨(mv F2 0 1 16), (mv T2 0 1 16), 16, HZ1.out.symm, by omega, by rw [HZ2.out]; exact hT4⟩ (((HO3.out.put (by simp) _).put (by simp) _).trans ho4)
    · have b1 : (lg == -1) = false := by simpa using q1
      by_cases q3 : pn = lg + 1
      · have b3 : (pn == lg + 1) = true := by simpa using q3
        have ho : decide (lg = -1 ∨ pn = lg + 1) = true := by simp [q3]
        have q2 : lg < pn := by omega
        have HO := Lib.hid ho
        clear ho q3 q1
        cases el
        · go_wp2_with fail
          go_ret
          exact recv_close b _ d fl lg wh ct du now pn false true w _ HO.out pn now ct du (by rw [if_pos (by omega)]) (by rw [if_pos (by omega)]) rfl rfl ⟨(mv F2 0 1 16), (mv T2 0 1 16), 16, HZ1.out.symm, by omega, by rw [HZ2.out]; exact ((At.set HT3.out 37 (.int .i64 pn) rfl).set 38 (.int .i64 now) rfl)⟩ ((HO3.out.put (by simp) _).put (by simp) _)
        · go_wp2_with fail
          refine (schedule_c b (mv F2 0 1 16) (mv T2 0 1 16) 16 d (T2 0) pn now ct du _ (by exact ((At.set HT3.out 37 (.int .i64 pn) rfl).set 38 (.int .i64 now) rfl)) now true h0 h1 d0 d1 k0 k1).mono ?_
          rintro e w4 ⟨rfl, hT4, ho4⟩
          go_wp2_with fail
          go_ret
          exact recv_close b _ d fl lg wh ct du now pn true true w _ HO.out pn now (ct + 1) (duZ ct d du now true) (by rw [if_pos (by omega)]) (by rw [if_pos (by omega)]) rfl rfl ⟨(mv F2 0 1 16), (mv T2 0 1 16), 16, HZ1.out.symm, by omega, by rw [HZ2.out]; exact hT4⟩ (((HO3.out.put (by simp) _).put (by simp) _).trans ho4)
      · have b3 : (pn == lg + 1) = false := by simpa using q3
        have ho : decide (lg = -1 ∨ pn = lg + 1) = false := by simp [q1, q3]
        have HO := Lib.hid ho
        clear ho q1 q3
        by_cases q2 : lg < pn
        · skip
          cases el
          · go_wp2_with fail
            go_ret
            exact recv_close b _ d fl lg wh ct du now pn false false w _ HO.out pn now ct du (by rw [if_pos (by omega)]) (by rw [if_pos (by omega)]) rfl rfl ⟨(mv F2 0 1 16), (mv T2 0 1 16), 16, HZ1.out.symm, by omega, by rw [HZ2.out]; exact ((At.set HT3.out 37 (.int .i64 pn) rfl).set 38 (.int .i64 now) rfl)⟩ ((HO3.out.put (by simp) _).put (by simp) _)
          · go_wp2_with fail
            refine (schedule_c b (mv F2 0 1 16) (mv T2 0 1 16) 16 d (T2 0) pn now ct du _ (by exact ((At.set HT3.out 37 (.int .i64 pn) rfl).set 38 (.int .i64 now) rfl)) now false h0 h1 d0 d1 k0 k1).mono ?_
            rintro e w4 ⟨rfl, hT4, ho4⟩
            go_wp2_with fail
            go_ret
            exact recv_close b _ d fl lg wh ct du now pn true false w _ HO.out pn now (ct + 1) (duZ ct d du now false) (by rw [if_pos (by omega)]) (by rw [if_pos (by omega)]) rfl rfl ⟨(mv F2 0 1 16), (mv T2 0 1 16), 16, HZ1.out.symm, by omega, by rw [HZ2.out]; exact hT4⟩ (((HO3.out.put (by simp) _).put (by simp) _).trans ho4)
        · skip
          cases el
          · go_wp2_with fail
            go_ret
            exact recv_close b _ d fl lg wh ct du now pn false false w _ HO.out lg wh ct du (by rw [if_neg (by omega)]) (by rw [if_neg (by omega)]) rfl rfl ⟨(mv F2 0 1 16), (mv T2 0 1 16), 16, HZ1.out.symm, by omega, by rw [HZ2.out]; exact HT3.out⟩ HO3.out
          · go_wp2_with fail
            refine (schedule_c b (mv F2 0 1 16) (mv T2 0 1 16) 16 d (T2 0) lg wh ct du _ (by exact HT3.out) now false h0 h1 d0 d1 k0 k1).mono ?_
            rintro e w4 ⟨rfl, hT4, ho4⟩
            go_wp2_with fail
            go_ret
            exact recv_close b _ d fl lg wh ct du now pn true false w _ HO.out lg wh (ct + 1) (duZ ct d du now false) (by rw [if_neg (by omega)]) (by rw [if_neg (by omega)]) rfl rfl ⟨(mv F2 0 1 16), (mv T2 0 1 16), 16, HZ1.out.symm, by omega, by rw [HZ2.out]; exact hT4⟩ (HO3.out.trans ho4)
  · have hz1 : lst F2 T2 0 n2 = capL (ins (lst F T 0 n) pn) := by
      rw [← HL.out]; unfold capL; rw [if_neg (by rw [lst_len]; omega)]
    have hz2 : capF (ins (lst F T 0 n) pn) fl = fl := by
      rw [← HL.out]; unfold capF; rw [if_neg (by rw [lst_len]; omega)]
    have HZ1 := Lib.hid hz1
    have HZ2 := Lib.hid hz2
    have hn2' : (n2 : Int) ≤ 16 := by omega
    clear hz1 hz2
    have HT3 := HT2
    have HO3 := HO2
    clear HT2 HO2
    have c37 := HT3.out.glg
    have c38 := HT3.out.gwh
    have f37 : w2.frozen? ⟨b, 37, none⟩ = false := At.free HT3.out _
    have f38 : w2.frozen? ⟨b, 38, none⟩ = false := At.free HT3.out _
    have e1 : IntKind.i64.wrap (lg + 1) = lg + 1 := IntWalk.i64_in _ (by omega)
    by_cases q1 : lg = -1
    · have b1 : (lg == -1) = true := by simpa using q1
      have ho : decide (lg = -1 ∨ pn = lg + 1) = true := by simp [q1]
      have q2 : lg < pn := by omega
      have HO := Lib.hid ho
      clear ho q1
      cases el
      · go_wp2_with fail
        go_ret
        exact recv_close b _ d fl lg wh ct du now pn false true w _ HO.out pn now ct du (by rw [if_pos (by omega)]) (by rw [if_pos (by omega)]) rfl rfl ⟨F2, T2, n2, HZ1.out.symm, by omega, by rw [HZ2.out]; exact ((At.set HT3.out 37 (.int .i64 pn) rfl).set 38 (.int .i64 now) rfl)⟩ ((HO3.out.put (by simp) _).put (by simp) _)
      · go_wp2_with fail
        refine (schedule_c b F2 T2 n2 d fl pn now ct du _ (by exact ((At.set HT3.out 37 (.int .i64 pn) rfl).set 38 (.int .i64 now) rfl)) now true h0 h1 d0 d1 k0 k1).mono ?_
        rintro e w4 ⟨rfl, hT4, ho4⟩
        go_wp2_with fail
        go_ret
        exact recv_close b _ d fl lg wh ct du now pn true true w _ HO.out pn now (ct + 1) (duZ ct d du now true) (by rw [if_pos (by omega)]) (by rw [if_pos (by omega)]) rfl rfl ⟨F2, T2, n2, HZ1.out.symm, by omega, by rw [HZ2.out]; exact hT4⟩ (((HO3.out.put (by simp) _).put (by simp) _).trans ho4)
    · have b1 : (lg == -1) = false := by simpa using q1
      by_cases q3 : pn = lg + 1
      · have b3 : (pn == lg + 1) = true := by simpa using q3
        have ho : decide (lg = -1 ∨ pn = lg + 1) = true := by simp [q3]
        have q2 : lg < pn := by omega
        have HO := Lib.hid ho
        clear ho q3 q1
        cases el
        · go_wp2_with fail
          go_ret
          exact recv_close b _ d fl lg wh ct du now pn false true w _ HO.out pn now ct du (by rw [if_pos (by omega)]) (by rw [if_pos (by omega)]) rfl rfl ⟨F2, T2, n2, HZ1.out.symm, by omega, by rw [HZ2.out]; exact ((At.set HT3.out 37 (.int .i64 pn) rfl).set 38 (.int .i64 now) rfl)⟩ ((HO3.out.put (by simp) _).put (by simp) _)
        · go_wp2_with fail
          refine (schedule_c b F2 T2 n2 d fl pn now ct du _ (by exact ((At.set HT3.out 37 (.int .i64 pn) rfl).set 38 (.int .i64 now) rfl)) now true h0 h1 d0 d1 k0 k1).mono ?_
          rintro e w4 ⟨rfl, hT4, ho4⟩
          go_wp2_with fail
          go_ret
          exact recv_close b _ d fl lg wh ct du now pn true true w _ HO.out pn now (ct + 1) (duZ ct d du now true) (by rw [if_pos (by omega)]) (by rw [if_pos (by omega)]) rfl rfl ⟨F2, T2, n2, HZ1.out.symm, by omega, by rw [HZ2.out]; exact hT4⟩ (((HO3.out.put (by simp) _).put (by simp) _).trans ho4)
      · have b3 : (pn == lg + 1) = false := by simpa using q3
        have ho : decide (lg = -1 ∨ pn = lg + 1) = false := by simp [q1, q3]
        have HO := Lib.hid ho
        clear ho q1 q3
        by_cases q2 : lg < pn
        · skip
          cases el
          · go_wp2_with fail
            go_ret
            exact recv_close b _ d fl lg wh ct du now pn false false w _ HO.out pn now ct du (by rw [if_pos (by omega)]) (by rw [if_pos (by omega)]) rfl rfl ⟨F2, T2, n2, HZ1.out.symm, by omega, by rw [HZ2.out]; exact ((At.set HT3.out 37 (.int .i64 pn) rfl).set 38 (.int .i64 now) rfl)⟩ ((HO3.out.put (by simp) _).put (by simp) _)
          · go_wp2_with fail
            refine (schedule_c b F2 T2 n2 d fl pn now ct du _ (by exact ((At.set HT3.out 37 (.int .i64 pn) rfl).set 38 (.int .i64 now) rfl)) now false h0 h1 d0 d1 k0 k1).mono ?_
            rintro e w4 ⟨rfl, hT4, ho4⟩
            go_wp2_with fail
            go_ret
            exact recv_close b _ d fl lg wh ct du now pn true false w _ HO.out pn now (ct + 1) (duZ ct d du now false) (by rw [if_pos (by omega)]) (by rw [if_pos (by omega)]) rfl rfl ⟨F2, T2, n2, HZ1.out.symm, by omega, by rw [HZ2.out]; exact hT4⟩ (((HO3.out.put (by simp) _).put (by simp) _).trans ho4)
        · skip
          cases el
          · go_wp2_with fail
            go_ret
            exact recv_close b _ d fl lg wh ct du now pn false false w _ HO.out lg wh ct du (by rw [if_neg (by omega)]) (by rw [if_neg (by omega)]) rfl rfl ⟨F2, T2, n2, HZ1.out.symm, by omega, by rw [HZ2.out]; exact HT3.out⟩ HO3.out
          · go_wp2_with fail
            refine (schedule_c b F2 T2 n2 d fl lg wh ct du _ (by exact HT3.out) now false h0 h1 d0 d1 k0 k1).mono ?_
            rintro e w4 ⟨rfl, hT4, ho4⟩
            go_wp2_with fail
            go_ret
            exact recv_close b _ d fl lg wh ct du now pn true false w _ HO.out lg wh (ct + 1) (duZ ct d du now false) (by rw [if_neg (by omega)]) (by rw [if_neg (by omega)]) rfl rfl ⟨F2, T2, n2, HZ1.out.symm, by omega, by rw [HZ2.out]; exact hT4⟩ (HO3.out.trans ho4)
end Go.Proofs.Ytmmgmpghkpbgkaa
/- Contracts of package acks by TK; the nil tracker's calls; the frame of two intervals; SameSpans of two equal pairs. -/
namespace Go.Proofs.Ytmmgmpghkpbgkaa
open Go Go.RowKit Go.Shelf
set_option linter.unusedVariables false
set_option linter.unusedSectionVars false
set_option linter.unusedSimpArgs false
attribute [local go_sem] Oper.semAt_some

section
variable (b : Nat) (L : List (Int × Int)) (d fl lg wh ct du : Int) (w : World) (hT : TK w b L d fl lg wh ct du)
include hT
theorem largest_k : Calls Try.prog 50 #[.pointer (some ⟨b, 0, none⟩)] w fun e w' => e = .returned (.int .i64 lg) ∧ w = w' := by
  obtain ⟨F, T, n, rfl, hn, hT⟩ := hT
  exact largest_c b F T n d fl lg wh ct du w hT
theorem deadline_k : Calls Try.prog 47 #[.pointer (some ⟨b, 0, none⟩)] w fun e w' => e = .returned (.int .i64 du) ∧ w = w' := by
  obtain ⟨F, T, n, rfl, hn, hT⟩ := hT
  exact deadline_c b F T n d fl lg wh ct du w hT
theorem pending_k (now : Int) (z : Bool) (hz : decide (du ≠ -1 ∧ du ≤ now) = z) : Calls Try.prog 46 #[.pointer (some ⟨b, 0, none⟩), .int .i64 now] w fun e w' => e = .returned (.bool z) ∧ TK w' b L d fl lg wh ct du ∧ Only [] w w' := by
  obtain ⟨F, T, n, rfl, hn, hT⟩ := hT
  exact (pending_c b F T n d fl lg wh ct du w hT now z hz).mono fun e w' h => ⟨h.1, ⟨F, T, n, rfl, hn, h.2.1⟩, h.2.2⟩
theorem sent_k : Calls Try.prog 48 #[.pointer (some ⟨b, 0, none⟩)] w fun e w' => e = .returned (.tuple #[]) ∧ TK w' b L d fl lg wh 0 (-1) ∧ Only [b] w w' := by
  obtain ⟨F, T, n, rfl, hn, hT⟩ := hT
  exact (sent_c b F T n d fl lg wh ct du w hT).mono fun e w' h => ⟨h.1, ⟨F, T, n, rfl, hn, h.2.1⟩, h.2.2⟩
end
theorem TK.lt {w : World} {b : Nat} {L : List (Int × Int)} {d fl lg wh ct du : Int} (h : TK w b L d fl lg wh ct du) : b < w.heap.size := by
  obtain ⟨F, T, n, rfl, hn, hT⟩ := h
  exact At.lt hT
theorem TK.alloc {w : World} {b : Nat} {L : List (Int × Int)} {d fl lg wh ct du : Int} (h : TK w b L d fl lg wh ct du) (o : Obj) : TK (w.alloc o) b L d fl lg wh ct du := by
  obtain ⟨F, T, n, rfl, hn, hT⟩ := h
  exact ⟨F, T, n, rfl, hn, At.alloc hT o⟩
theorem TK.drew {w : World} {b : Nat} {L : List (Int × Int)} {d fl lg wh ct du : Int} (h : TK w b L d fl lg wh ct du) : TK w.drew b L d fl lg wh ct du := by
  obtain ⟨F, T, n, rfl, hn, hT⟩ := h
  exact ⟨F, T, n, rfl, hn, At.drew hT⟩
theorem TK.drewN {w : World} {b : Nat} {L : List (Int × Int)} {d fl lg wh ct du : Int} (h : TK w b L d fl lg wh ct du) (k : Nat) : TK (w.drewN k) b L d fl lg wh ct du := by
  obtain ⟨F, T, n, rfl, hn, hT⟩ := h
  exact ⟨F, T, n, rfl, hn, At.drewN hT k⟩
theorem TK.below {w w' : World} {b B : Nat} {L : List (Int × Int)} {d fl lg wh ct du : Int} (h : TK w b L d fl lg wh ct du) (ho : Below B w w') (hb : b < B) : TK w' b L d fl lg wh ct du := by
  obtain ⟨F, T, n, rfl, hn, hT⟩ := h
  exact ⟨F, T, n, rfl, hn, At.below hT ho hb⟩
theorem TK.far {w : World} {b : Nat} {L : List (Int × Int)} {d fl lg wh ct du : Int} (h : TK w b L d fl lg wh ct du) {p : Addr} (hp : b ≠ p.block) (u : Value) : TK (w.setCell p u) b L d fl lg wh ct du := by
  obtain ⟨F, T, n, rfl, hn, hT⟩ := h
  exact ⟨F, T, n, rfl, hn, At.far hT hp u⟩
theorem TK.same {w : World} {b : Nat} {L L' : List (Int × Int)} {d fl lg wh ct du fl' lg' wh' ct' du' : Int} (h : TK w b L d fl lg wh ct du) (h1 : L = L') (h2 : fl = fl') (h3 : lg = lg') (h4 : wh = wh') (h5 : ct = ct') (h6 : du = du') : TK w b L' d fl' lg' wh' ct' du' := by
  subst h1 h2 h3 h4 h5 h6; exact h
theorem new_k (d : Int) (w : World) (h0 : 0 ≤ d) (h1 : d ≤ 20) : Calls Try.prog 14 #[.int .i64 d] w fun e w' => ∃ g, e = .returned (.tuple #[.pointer (some ⟨g, 0, none⟩), .int .i64 0]) ∧ TK w' g [] d 0 (-1) 0 0 (-1) ∧ Only [] w w' ∧ w.heap.size ≤ g := by
  refine (new_c d w h0 h1).mono fun e w' h => ?_
  obtain ⟨g, h1, h2, h3⟩ := h
  exact ⟨g, h1, ⟨zF, zF, 0, rfl, by omega, h2⟩, h3⟩
def twoFrame (g : Nat) (dl : Int) : Value := .tuple #[.agg #[.int .i64 2, .int .i64 0, .int .i64 0, .string { data := #[] }, .bool false, .int .i64 0, .int .i64 0, .bool false, .int .i64 dl, .slice (some ⟨g, 0, none⟩) 2 2, .int .i64 0, .int .i64 0, .string { data := #[] }], .bool true]
theorem frame_two (b : Nat) (now a1 b1 a2 b2 d fl lg wh ct du : Int) (h0 : 0 ≤ now) (h1 : now ≤ 1099511627776) (h2 : 0 ≤ wh) (h3 : wh ≤ 1099511627776) (hnw : wh < now) (w : World) (hT : TK w b [(a1, b1), (a2, b2)] d fl lg wh ct du) :
    Calls Try.prog 16 #[.pointer (some ⟨b, 0, none⟩), .int .i64 now] w fun e w' => ∃ g, e = .returned (.tuple #[.agg #[.int .i64 2, .int .i64 0, .int .i64 0, .string { data := #[] }, .bool false, .int .i64 0, .int .i64 0, .bool false, .int .i64 (now - wh), .slice (some ⟨g, 0, none⟩) 2 2, .int .i64 0, .int .i64 0, .string { data := #[] }], .bool true]) ∧ At w' g 43 #[.int .i64 a2, .int .i64 b2, .int .i64 a1, .int .i64 b1] ∧ w.heap.size ≤ g ∧ Below w.heap.size w w' := by
  obtain ⟨F, T, n, hL, hn, hT⟩ := hT
  obtain rfl : n = 2 := by have := congrArg List.length hL; simp [lst_len] at this; omega
  simp [lst] at hL
  obtain ⟨⟨e1, e2⟩, e3, e4⟩ := hL
  refine (callsIn_wide.1 (frame_late b now F T 2 d fl lg wh ct du (by omega) (by omega) h0 h1 h2 h3 hnw w hT)).mono ?_
  rintro e w' ⟨g, rfl, hA, hg, hB⟩
  exact ⟨g, rfl, hA.same (by simp [rowA, cellsOf, List.range_succ, e1, e2, e3, e4]), hg, hB⟩
theorem frame_nil (w : World) : Calls Try.prog 16 #[.pointer none, .int .i64 0] w fun e w' => e = .returned (.tuple #[.agg #[.int .i64 0, .int .i64 0, .int .i64 0, .string { data := #[] }, .bool false, .int .i64 0, .int .i64 0, .bool false, .int .i64 0, .slice none 0 0, .int .i64 0, .int .i64 0, .string { data := #[] }], .bool false]) ∧ Below w.heap.size w w' := by
  go_enter Try.func16, Try.ntmps16
  have hz := At.new (w.alloc (.cells #[.pointer none] 25)) 33 #[.int .i64 0, .int .i64 0, .int .i64 0, .string { data := #[] }, .bool false, .int .i64 0, .int .i64 0, .bool false, .int .i64 0, .slice none 0 0, .int .i64 0, .int .i64 0, .string { data := #[] }]
  simp only [World.size_alloc] at hz
  have hb := ((Below.refl w.heap.size w).alloc (Nat.le_refl _) (.cells #[.pointer none] 25)).alloc (by simp) (.cells #[.int .i64 0, .int .i64 0, .int .i64 0, .string { data := #[] }, .bool false, .int .i64 0, .int .i64 0, .bool false, .int .i64 0, .slice none 0 0, .int .i64 0, .int .i64 0, .string { data := #[] }] 33)
  have HZ := Lib.hid hz
  have HB := Lib.hid hb
  clear hz hb
  go_wp2_with fail
  refine ⟨rfl, _, ?_, rfl, HB.out⟩
  have hz := HZ.out
  have u0 := hz.cell 0 rfl
  have u1 := hz.cell 1 rfl
  have u2 := hz.cell 2 rfl
  have u3 := hz.cell 3 rfl
  have u4 := hz.cell 4 rfl
  have u5 := hz.cell 5 rfl
  have u6 := hz.cell 6 rfl
  have u7 := hz.cell 7 rfl
  have u8 := hz.cell 8 rfl
  have u9 := hz.cell 9 rfl
  have u10 := hz.cell 10 rfl
  have u11 := hz.cell 11 rfl
  have u12 := hz.cell 12 rfl
  simp [results, Try.f16, go_sem, u0, u1, u2, u3, u4, u5, u6, u7, u8, u9, u10, u11, u12]
theorem recv_nil (w : World) : Calls Try.prog 15 #[.pointer none, .int .i64 0, .int .i64 0, .bool true] w fun e w' => e = .returned (.int .i64 1) ∧ w = w' := by
  go_enter Try.func15, Try.ntmps15
  go_wp2_with fail
  go_ret
  exact ⟨rfl, rfl⟩
theorem largest_nil (w : World) : Calls Try.prog 50 #[.pointer none] w fun e w' => e = .returned (.int .i64 (-1)) ∧ w = w' := by
  go_enter Try.func50, Try.ntmps50
  go_wp2_with fail
  go_ret
  exact ⟨rfl, rfl⟩
theorem deadline_nil (w : World) : Calls Try.prog 47 #[.pointer none] w fun e w' => e = .returned (.int .i64 (-1)) ∧ w = w' := by
  go_enter Try.func47, Try.ntmps47
  go_wp2_with fail
  go_ret
  exact ⟨rfl, rfl⟩
def SRel (w : World) (g g' : Nat) (cs : Array Value) (i : Value) (wr : World) : Prop := ∃ k : Nat, i = .int .i64 k ∧ k ≤ 2 ∧ Hid (At wr g 43 cs) ∧ Hid (At wr g' 43 cs) ∧ Below w.heap.size w wr
set_option maxRecDepth 100000 in
set_option maxHeartbeats 4000000 in
theorem same_two (g g' : Nat) (p q r s : Int) (w : World) (hA : At w g 43 #[.int .i64 p, .int .i64 q, .int .i64 r, .int .i64 s]) (hA' : At w g' 43 #[.int .i64 p, .int .i64 q, .int .i64 r, .int .i64 s]) :
    Calls Try.prog 49 #[.slice (some ⟨g, 0, none⟩) 2 2, .slice (some ⟨g', 0, none⟩) 2 2] w fun e w' => e = .returned (.bool true) ∧ Below w.heap.size w w' := by
  have hb := Below.refl w.heap.size w
  replace hA := Lib.hid hA
  replace hA' := Lib.hid hA'
  go_enter Try.func49, Try.ntmps49
  go_wp2_with fail
  go_loopw [5] (fun i wr => SRel w g g' #[.int .i64 p, .int .i64 q, .int .i64 r, .int .i64 s] i wr) (fun i _ => 2 - (intOf i).toNat)
  case atStart => exact ⟨0, rfl, by omega, hA, hA', hb⟩
  case round =>
    obtain ⟨k, rfl, hk, hA2, hA2', hb2⟩ := hrel
    clear hb hA hA'
    have c0 : wr.cell? ⟨g, 0, none⟩ = some (.int .i64 p) := hA2.out.cell 0 rfl
    have c1 : wr.cell? ⟨g, 1, none⟩ = some (.int .i64 q) := hA2.out.cell 1 rfl
    have c2 : wr.cell? ⟨g, 2, none⟩ = some (.int .i64 r) := hA2.out.cell 2 rfl
    have c3 : wr.cell? ⟨g, 3, none⟩ = some (.int .i64 s) := hA2.out.cell 3 rfl
    have k0 : wr.cell? ⟨g', 0, none⟩ = some (.int .i64 p) := hA2'.out.cell 0 rfl
    have k1 : wr.cell? ⟨g', 1, none⟩ = some (.int .i64 q) := hA2'.out.cell 1 rfl
    have k2 : wr.cell? ⟨g', 2, none⟩ = some (.int .i64 r) := hA2'.out.cell 2 rfl
    have k3 : wr.cell? ⟨g', 3, none⟩ = some (.int .i64 s) := hA2'.out.cell 3 rfl
    obtain rfl | rfl | rfl : k = 0 ∨ k = 1 ∨ k = 2 := by omega
    · go_wp2_with fail
      go_still (by kernel_rfl)
      go_wp2_with fail
      exact ⟨⟨1, rfl, by omega, hA2, hA2', hb2.drew⟩, by simp [intOf]⟩
    · go_wp2_with fail
      go_still (by kernel_rfl)
      go_wp2_with fail
      exact ⟨⟨2, rfl, by omega, hA2, hA2', hb2.drew⟩, by simp [intOf]⟩
    · go_wp2_with fail
      go_ret
      exact ⟨rfl, hb2⟩
end Go.Proofs.Ytmmgmpghkpbgkaa
