/- Words for memory and small closing lemmas, used by the other texts of this seat. -/
import Derived.Test.YtgiekhohhogdiaaDoorRows
import Derived.WalkKit
import Derived.ProofKit
import Derived.OpenShut
import Derived.IntWalk
import Derived.Outline
import Derived.Handy
import Derived.WalkMore
import Derived.WalkSpells
import Derived.Lib.Hide
import Derived.Below
import Derived.Deep.QuietTactic
import Derived.BigQuiet
import Derived.LoopTactic
import Derived.Deep.Draws
import Derived.Deep.SlicePairs
import Derived.OwnWalk
namespace Go.Proofs.YtgiekhohhogdiaaDoor
open Go.RowKit
set_option linter.unusedVariables false
set_option linter.unusedSimpArgs false

theorem ret_int {k : IntKind} {a b : Int} (h : a = b) : Ending.returned (.int k a) = .returned (.int k b) := by rw [h]
theorem ret_boo {a b : Bool} (h : a = b) : Ending.returned (.bool a) = .returned (.bool b) := by rw [h]
theorem ret_ints {k k2 : IntKind} {a b c d : Int} (h : a = b) (h2 : c = d) : Ending.returned (.tuple #[.int k a, .int k2 c]) = .returned (.tuple #[.int k b, .int k2 d]) := by rw [h, h2]
theorem ret_intb {k : IntKind} {a b : Int} {c d : Bool} (h : a = b) (h2 : c = d) : Ending.returned (.tuple #[.int k a, .bool c]) = .returned (.tuple #[.int k b, .bool d]) := by rw [h, h2]

/-- Block g holds the cells cs, laid as type t, none of them frozen. -/
def At (w : World) (g : Nat) (t : TypeId) (cs : Array Value) : Prop := w.heap[g]? = some (.cells cs t (0, 0))

/-- From w to w' nothing but the blocks of S, and new ones, has changed. -/
structure Only (S : List Nat) (w w' : World) : Prop where
  os : w'.os = w.os
  tape : w'.tape = w.tape
  output : w'.output = w.output
  size : w.heap.size ≤ w'.heap.size
  block : ∀ k, k < w.heap.size → k ∉ S → w'.heap[k]? = w.heap[k]?

section
variable {S T : List Nat} {a b c w w' : World}
theorem Only.refl (S : List Nat) (w : World) : Only S w w := ⟨rfl, rfl, rfl, Nat.le_refl _, fun _ _ _ => rfl⟩
theorem Only.trans (h : Only S a b) (k : Only S b c) : Only S a c :=
  ⟨k.os.trans h.os, k.tape.trans h.tape, k.output.trans h.output, Nat.le_trans h.size k.size, fun i hi hn => (k.block i (Nat.lt_of_lt_of_le hi h.size) hn).trans (h.block i hi hn)⟩
theorem Only.mono (h : Only S a b) (hs : ∀ k ∈ S, k ∈ T) : Only T a b := ⟨h.os, h.tape, h.output, h.size, fun i hi hn => h.block i hi fun hm => hn (hs i hm)⟩
/-- What changes alone in blocks that are new with respect to a. -/
theorem Only.of_below (h : Below w.heap.size w w') : Only S w w' := ⟨h.os, h.tape, h.output, h.size, fun i hi _ => h.block i hi⟩
theorem Only.below {B : Nat} (h : Only S w w') (hS : ∀ k ∈ S, B ≤ k) (hB : B ≤ w.heap.size) : Below B w w' :=
  ⟨h.os, h.tape, h.output, h.size, fun k hk => h.block k (by omega) fun hm => by have := hS k hm; omega⟩
theorem Only.drew (h : Only S a w) : Only S a w.drew := ⟨h.os, h.tape, h.output, h.size, h.block⟩
theorem Only.drewN (h : Only S a w) (n : Nat) : Only S a (w.drewN n) := ⟨h.os, h.tape, h.output, h.size, h.block⟩
theorem Only.alloc (h : Only S a w) (o : Obj) : Only S a (w.alloc o) :=
  ⟨h.os, h.tape, h.output, Nat.le_trans h.size (by simp), fun i hi hn => (Below.heap_alloc w o i (Nat.lt_of_lt_of_le hi h.size)).trans (h.block i hi hn)⟩
theorem Only.set (h : Only S a w) {p : Addr} (hp : p.block ∈ S ∨ a.heap.size ≤ p.block) (u : Value) : Only S a (w.setCell p u) :=
  ⟨h.os, h.tape, h.output, by simpa [World.setCell] using h.size, fun i hi hn => (Below.heap_setCell w p u i (by
    rintro rfl
    rcases hp with hp | hp
    · exact hn hp
    · omega)).trans (h.block i hi hn)⟩
theorem Only.put (h : Only S a w) {g i : Nat} (hg : g ∈ S) (u : Value) : Only S a (w.setCell ⟨g, i, none⟩ u) := h.set (.inl hg) u
theorem Only.putn (h : Only S a w) {g i : Nat} (hg : a.heap.size ≤ g) (u : Value) : Only S a (w.setCell ⟨g, i, none⟩ u) := h.set (.inr hg) u
theorem Only.cell (h : Only S w w') {p : Addr} (hp : p.block < w.heap.size) (hn : p.block ∉ S) : w'.cell? p = w.cell? p := World.cell?_of_block (w := w) (h.block p.block hp hn)
theorem Only.frozen (h : Only S w w') {p : Addr} (hp : p.block < w.heap.size) (hn : p.block ∉ S) : w'.frozen? p = w.frozen? p := World.frozen?_of_block (w := w) (h.block p.block hp hn)
end

section
variable {S : List Nat} {w w' : World} {g : Nat} {t : TypeId} {cs : Array Value}
theorem At.lt (h : At w g t cs) : g < w.heap.size := by
  rcases Nat.lt_or_ge g w.heap.size with hl | hl
  · exact hl
  · unfold At at h; rw [Array.getElem?_eq_none hl] at h; cases h
theorem At.cell (h : At w g t cs) (i : Nat) {v : Value} (hv : cs[i]? = some v) : w.cell? ⟨g, i, none⟩ = some v := (cell_of_row w g i cs t (0, 0) h).trans hv
theorem At.free (h : At w g t cs) (i : Nat) : w.frozen? ⟨g, i, none⟩ = false := by unfold At at h; simp [World.frozen?, h]
theorem At.new (w : World) (t : TypeId) (cs : Array Value) : At (w.alloc (.cells cs t)) w.heap.size t cs := by
  show (w.heap.push _)[w.heap.size]? = _; simp
theorem At.drew (h : At w g t cs) : At w.drew g t cs := h
theorem At.drewN (h : At w g t cs) (n : Nat) : At (w.drewN n) g t cs := h
theorem At.alloc (h : At w g t cs) (o : Obj) : At (w.alloc o) g t cs := (Below.heap_alloc w o g h.lt).trans h
theorem At.set (h : At w g t cs) (i : Nat) (u : Value) {cs' : Array Value} (he : cs.setIfInBounds i u = cs') : At (w.setCell ⟨g, i, none⟩ u) g t cs' := by
  subst he; unfold At at h ⊢; simp [World.setCell, Array.getElem?_modify, h]
theorem At.far (h : At w g t cs) {p : Addr} (hp : g ≠ p.block) (u : Value) : At (w.setCell p u) g t cs := (Below.heap_setCell w p u g hp).trans h
theorem At.below {B : Nat} (h : At w g t cs) (hb : Below B w w') (hg : g < B) : At w' g t cs := (hb.block g hg).trans h
theorem At.keep (h : At w g t cs) (ho : Only S w w') (hg : g ∉ S) : At w' g t cs := (ho.block g h.lt hg).trans h
theorem At.same {cs' : Array Value} (h : At w g t cs) (he : cs = cs') : At w g t cs' := he ▸ h
theorem at3 {k0 k1 k2 : IntKind} {a b c a' b' c' : Int} (h : At w g t #[.int k0 a, .int k1 b, .int k2 c]) (ea : a = a') (eb : b = b') (ec : c = c') : At w g t #[.int k0 a', .int k1 b', .int k2 c'] := by subst ea eb ec; exact h
theorem at4 {k0 k1 k2 k3 : IntKind} {a b c d a' b' c' d' : Int} (h : At w g t #[.int k0 a, .int k1 b, .int k2 c, .int k3 d]) (ea : a = a') (eb : b = b') (ec : c = c') (ed : d = d') : At w g t #[.int k0 a', .int k1 b', .int k2 c', .int k3 d'] := by subst ea eb ec ed; exact h
end

/-- What a walk is told of a slice argument with elements of two numbers. -/
def IsPairs (k0 k1 : IntKind) (w : World) (a : Option Addr) (len : Nat) (K N : Nat → Int) : Prop :=
  (a = none ∧ len = 0) ∨ ∃ b off, a = some ⟨b, off, none⟩ ∧ b < w.heap.size ∧ ∀ i, i < len →
    w.cell? ⟨b, off + i * 2, none⟩ = some (.int k0 (K i)) ∧ w.cell? ⟨b, off + i * 2 + 1, none⟩ = some (.int k1 (N i)) ∧ (Lit.int k0 (K i)).wf = true ∧ (Lit.int k1 (N i)).wf = true

theorem wf_i64 {a : Int} (h : (Lit.int .i64 a).wf = true) : -9223372036854775808 ≤ a ∧ a ≤ 9223372036854775807 := by
  simp [Lit.wf, IntKind.min, IntKind.max, IntKind.signed, IntKind.bits] at h
  omega
theorem wf_u8 {a : Int} (h : (Lit.int .u8 a).wf = true) : 0 ≤ a ∧ a ≤ 255 := by
  simp [Lit.wf, IntKind.min, IntKind.max, IntKind.signed, IntKind.bits] at h
  omega
theorem wf_u16 {a : Int} (h : (Lit.int .u16 a).wf = true) : 0 ≤ a ∧ a ≤ 65535 := by
  simp [Lit.wf, IntKind.min, IntKind.max, IntKind.signed, IntKind.bits] at h
  omega
end Go.Proofs.YtgiekhohhogdiaaDoor
