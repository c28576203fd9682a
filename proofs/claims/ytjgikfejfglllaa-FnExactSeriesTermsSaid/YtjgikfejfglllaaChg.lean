/- One block is written, the rest is kept: the words for a calc behind a pointer. -/
import Derived.Test.YtjgikfejfglllaaRow
import Derived.Test.YtjgikfejfglllaaNz
set_option linter.unusedVariables false
set_option linter.unusedSimpArgs false
namespace Go.Proofs.Ytjgikfejfglllaa
open Go.RowKit


/-- Only block g has turned, and new blocks were laid. -/
structure Chg (w w' : World) (g : Nat) : Prop where
  os : w'.os = w.os
  tape : w'.tape = w.tape
  output : w'.output = w.output
  size : w.heap.size ≤ w'.heap.size
  block : ∀ k, k < w.heap.size → k ≠ g → w'.heap[k]? = w.heap[k]?
theorem Chg.of_below {w w' : World} (h : Below w.heap.size w w') (g : Nat) : Chg w w' g := ⟨h.os, h.tape, h.output, h.size, fun k hk _ => h.block k hk⟩
theorem Chg.refl (w : World) (g : Nat) : Chg w w g := ⟨rfl, rfl, rfl, Nat.le_refl _, fun _ _ _ => rfl⟩
theorem Chg.trans {w w1 w2 : World} {g : Nat} (h : Chg w w1 g) (k : Chg w1 w2 g) : Chg w w2 g :=
  ⟨k.os.trans h.os, k.tape.trans h.tape, k.output.trans h.output, Nat.le_trans h.size k.size, fun i hi hg => (k.block i (Nat.lt_of_lt_of_le hi h.size) hg).trans (h.block i hi hg)⟩
theorem Chg.alloc {w w1 : World} {g : Nat} (h : Chg w w1 g) (o : Obj) : Chg w (w1.alloc o) g := h.trans (Chg.of_below (below_alloc (Below.refl _ _) o) g)
theorem Chg.drewN {w w1 : World} {g : Nat} (h : Chg w w1 g) (n : Nat) : Chg w (w1.drewN n) g := ⟨h.os, h.tape, h.output, h.size, h.block⟩
theorem Chg.set {w w1 : World} {g : Nat} (h : Chg w w1 g) (i : Nat) (v : Value) : Chg w (w1.setCell ⟨g, i, none⟩ v) g :=
  ⟨h.os, h.tape, h.output, by simpa [World.setCell] using h.size, fun k hk hg => (Below.heap_setCell w1 _ v k hg).trans (h.block k hk hg)⟩
theorem Chg.setNew {w w1 : World} {g : Nat} (h : Chg w w1 g) {p : Addr} (hp : w.heap.size ≤ p.block) (v : Value) : Chg w (w1.setCell p v) g :=
  ⟨h.os, h.tape, h.output, by simpa [World.setCell] using h.size, fun k hk hg => (Below.heap_setCell w1 _ v k (by omega)).trans (h.block k hk hg)⟩
theorem Chg.rowNew {w w1 : World} {g : Nat} (h : Chg w w1 g) {p : Nat} (hp : w.heap.size ≤ p) (cs : Array Value) : Chg w (w1.setRow p cs) g :=
  ⟨h.os, h.tape, h.output, by rw [size_setRow]; exact h.size, fun k hk hg => (setRow_far w1 p k cs (by omega)).trans (h.block k hk hg)⟩
theorem Chg.below {w w1 : World} {g B : Nat} (h : Chg w w1 g) (hB : B ≤ g) (hw : B ≤ w.heap.size) : Below B w w1 := ⟨h.os, h.tape, h.output, h.size, fun k hk => h.block k (by omega) (by omega)⟩
theorem Blk.chg {w w1 : World} {g h t : Nat} {cs : Array Value} (hb : Blk w h t cs) (hc : Chg w w1 g) (hne : h ≠ g) : Blk w1 h t cs := (hc.block h hb.lt hne).trans hb
/-- Block g holds a calc at its head. -/
theorem calc_cell {w : World} {g t : Nat} {cs : Array Value} {ov : Bool} (h : Blk w g t cs) (h0 : cs[0]? = some (.bool ov)) : w.cell? ⟨g, 0, none⟩ = some (.bool ov) := by rw [h.cell, h0]
theorem calc_self {cs : Array Value} {ov : Bool} (h0 : cs[0]? = some (.bool ov)) : cs.setIfInBounds 0 (.bool ov) = cs := by
  obtain ⟨l⟩ := cs
  cases l with
  | nil => rfl
  | cons x r =>
    have : x = .bool ov := by simpa using h0
    subst this
    rfl
theorem calc_head {cs : Array Value} {ov : Bool} (b : Bool) (h0 : cs[0]? = some (.bool ov)) : (cs.setIfInBounds 0 (.bool b))[0]? = some (.bool b) := by
  obtain ⟨l⟩ := cs
  cases l with
  | nil => simp at h0
  | cons x r => rfl
end Go.Proofs.Ytjgikfejfglllaa
