/- The block of a Tracker: 17 intervals and seven numbers; its cells; its stores. -/
import Derived.Test.YthjlkiilkiggiaaAkM
namespace Go.Proofs.Ythjlkiilkiggiaa
open Go.RowKit
set_option linter.unusedVariables false

def upd (F : Nat → Int) (k : Nat) (x : Int) : Nat → Int := fun i => if i = k then x else F i
theorem upd_same (F : Nat → Int) (k : Nat) (x : Int) : upd F k x k = x := by simp [upd]
theorem upd_other (F : Nat → Int) (k i : Nat) (x : Int) (h : i ≠ k) : upd F k x i = F i := by simp [upd, h]
/-- F and T: the ends of the intervals; n: how many count; the delay, the floor, the largest number, its time, the count, the deadline. -/
def trk (F T : Nat → Int) (n d fl lg wh ct du : Int) : Array Value := #[.int .i64 (F 0), .int .i64 (T 0), .int .i64 (F 1), .int .i64 (T 1), .int .i64 (F 2), .int .i64 (T 2), .int .i64 (F 3), .int .i64 (T 3), .int .i64 (F 4), .int .i64 (T 4), .int .i64 (F 5), .int .i64 (T 5), .int .i64 (F 6), .int .i64 (T 6), .int .i64 (F 7), .int .i64 (T 7), .int .i64 (F 8), .int .i64 (T 8), .int .i64 (F 9), .int .i64 (T 9), .int .i64 (F 10), .int .i64 (T 10), .int .i64 (F 11), .int .i64 (T 11), .int .i64 (F 12), .int .i64 (T 12), .int .i64 (F 13), .int .i64 (T 13), .int .i64 (F 14), .int .i64 (T 14), .int .i64 (F 15), .int .i64 (T 15), .int .i64 (F 16), .int .i64 (T 16), .int .i64 n, .int .i64 d, .int .i64 fl, .int .i64 lg, .int .i64 wh, .int .i64 ct, .int .i64 du]
section
variable (F T : Nat → Int) (n d fl lg wh ct du : Int)
theorem trk_F (k : Nat) (hk : k < 17) : (trk F T n d fl lg wh ct du)[k * 2]? = some (.int .i64 (F k)) :=
  match k, hk with
  | 0, _ => rfl
  | 1, _ => rfl
  | 2, _ => rfl
  | 3, _ => rfl
  | 4, _ => rfl
  | 5, _ => rfl
  | 6, _ => rfl
  | 7, _ => rfl
  | 8, _ => rfl
  | 9, _ => rfl
  | 10, _ => rfl
  | 11, _ => rfl
  | 12, _ => rfl
  | 13, _ => rfl
  | 14, _ => rfl
  | 15, _ => rfl
  | 16, _ => rfl
  | n + 17, h => absurd h (by omega)
theorem trk_T (k : Nat) (hk : k < 17) : (trk F T n d fl lg wh ct du)[k * 2 + 1]? = some (.int .i64 (T k)) :=
  match k, hk with
  | 0, _ => rfl
  | 1, _ => rfl
  | 2, _ => rfl
  | 3, _ => rfl
  | 4, _ => rfl
  | 5, _ => rfl
  | 6, _ => rfl
  | 7, _ => rfl
  | 8, _ => rfl
  | 9, _ => rfl
  | 10, _ => rfl
  | 11, _ => rfl
  | 12, _ => rfl
  | 13, _ => rfl
  | 14, _ => rfl
  | 15, _ => rfl
  | 16, _ => rfl
  | n + 17, h => absurd h (by omega)
theorem trk_setF (k : Nat) (hk : k < 17) (x : Int) : (trk F T n d fl lg wh ct du).setIfInBounds (k * 2) (.int .i64 x) = trk (upd F k x) T n d fl lg wh ct du :=
  match k, hk with
  | 0, _ => rfl
  | 1, _ => rfl
  | 2, _ => rfl
  | 3, _ => rfl
  | 4, _ => rfl
  | 5, _ => rfl
  | 6, _ => rfl
  | 7, _ => rfl
  | 8, _ => rfl
  | 9, _ => rfl
  | 10, _ => rfl
  | 11, _ => rfl
  | 12, _ => rfl
  | 13, _ => rfl
  | 14, _ => rfl
  | 15, _ => rfl
  | 16, _ => rfl
  | n + 17, h => absurd h (by omega)
theorem trk_setT (k : Nat) (hk : k < 17) (x : Int) : (trk F T n d fl lg wh ct du).setIfInBounds (k * 2 + 1) (.int .i64 x) = trk F (upd T k x) n d fl lg wh ct du :=
  match k, hk with
  | 0, _ => rfl
  | 1, _ => rfl
  | 2, _ => rfl
  | 3, _ => rfl
  | 4, _ => rfl
  | 5, _ => rfl
  | 6, _ => rfl
  | 7, _ => rfl
  | 8, _ => rfl
  | 9, _ => rfl
  | 10, _ => rfl
  | 11, _ => rfl
  | 12, _ => rfl
  | 13, _ => rfl
  | 14, _ => rfl
  | 15, _ => rfl
  | 16, _ => rfl
  | n + 17, h => absurd h (by omega)
theorem trk_n : (trk F T n d fl lg wh ct du)[34]? = some (.int .i64 n) := rfl
theorem trk_set_n (x : Int) : (trk F T n d fl lg wh ct du).setIfInBounds 34 (.int .i64 x) = trk F T x d fl lg wh ct du := rfl
theorem trk_d : (trk F T n d fl lg wh ct du)[35]? = some (.int .i64 d) := rfl
theorem trk_set_d (x : Int) : (trk F T n d fl lg wh ct du).setIfInBounds 35 (.int .i64 x) = trk F T n x fl lg wh ct du := rfl
theorem trk_fl : (trk F T n d fl lg wh ct du)[36]? = some (.int .i64 fl) := rfl
theorem trk_set_fl (x : Int) : (trk F T n d fl lg wh ct du).setIfInBounds 36 (.int .i64 x) = trk F T n d x lg wh ct du := rfl
theorem trk_lg : (trk F T n d fl lg wh ct du)[37]? = some (.int .i64 lg) := rfl
theorem trk_set_lg (x : Int) : (trk F T n d fl lg wh ct du).setIfInBounds 37 (.int .i64 x) = trk F T n d fl x wh ct du := rfl
theorem trk_wh : (trk F T n d fl lg wh ct du)[38]? = some (.int .i64 wh) := rfl
theorem trk_set_wh (x : Int) : (trk F T n d fl lg wh ct du).setIfInBounds 38 (.int .i64 x) = trk F T n d fl lg x ct du := rfl
theorem trk_ct : (trk F T n d fl lg wh ct du)[39]? = some (.int .i64 ct) := rfl
theorem trk_set_ct (x : Int) : (trk F T n d fl lg wh ct du).setIfInBounds 39 (.int .i64 x) = trk F T n d fl lg wh x du := rfl
theorem trk_du : (trk F T n d fl lg wh ct du)[40]? = some (.int .i64 du) := rfl
theorem trk_set_du (x : Int) : (trk F T n d fl lg wh ct du).setIfInBounds 40 (.int .i64 x) = trk F T n d fl lg wh ct x := rfl
theorem trk_size : (trk F T n d fl lg wh ct du).size = 41 := rfl
end
end Go.Proofs.Ythjlkiilkiggiaa
