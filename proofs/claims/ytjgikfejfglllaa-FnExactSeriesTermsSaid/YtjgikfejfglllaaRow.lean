/- Whole rows stored and read again. -/
import Derived.Test.YtjgikfejfglllaaNum
import Derived.Laws.Tables
set_option linter.unusedVariables false
set_option linter.unusedSimpArgs false
namespace Go.Proofs.Ytjgikfejfglllaa
open Go.RowKit

/-- Some orders have been drawn, nothing else. -/
def Drw (w w' : World) : Prop := ∃ n, w' = w.drewN n
theorem Drw.refl (w : World) : Drw w w := ⟨0, rfl⟩
theorem Drw.step {w w' : World} (h : Drw w w') (n : Nat) : Drw w (w'.drewN n) := by
  obtain ⟨m, rfl⟩ := h
  exact ⟨m + n, World.drewN_drewN ..⟩
theorem Drw.below {w w' : World} (h : Drw w w') : Below w.heap.size w w' := by
  obtain ⟨m, rfl⟩ := h
  exact below_drewN (Below.refl _ _) m
theorem Blk.row {w : World} {g t : Nat} {cs : Array Value} (h : Blk w g t cs) (cs' : Array Value) : Blk (w.setRow g cs') g t cs' := by
  unfold Blk at h ⊢
  exact setRow_heap w g cs _ t _ h
theorem setRow_far (w : World) (g k : Nat) (cs : Array Value) (h : k ≠ g) : (w.setRow g cs).heap[k]? = w.heap[k]? := by
  simp [World.setRow, Array.getElem?_modify, Ne.symm h]
theorem Blk.row_far {w : World} {g t : Nat} {cs : Array Value} (h : Blk w g t cs) {k : Nat} (hk : g ≠ k) (cs' : Array Value) : Blk (w.setRow k cs') g t cs := (setRow_far w k g cs' hk).trans h
theorem below_row {B : Nat} {w w' : World} (h : Below B w w') {g : Nat} (hg : B ≤ g) (cs : Array Value) : Below B w (w'.setRow g cs) :=
  ⟨h.os, h.tape, h.output, by simpa [World.setRow] using h.size, fun k hk => by rw [setRow_far _ _ _ _ (by omega)]; exact h.block k hk⟩
theorem size_setRow (w : World) (g : Nat) (cs : Array Value) : (w.setRow g cs).heap.size = w.heap.size := by simp [World.setRow]
theorem sz147 : (Try.prog.info? 147).map (·.size) = some 6 := by kernel_rfl
theorem sz30 : (Try.prog.info? 30).map (·.size) = some 6 := by kernel_rfl
theorem wcl_all (n : Bool) (f : Nat → Nat) : (wcl n f).all (·.oneCell') = true := by simp [wcl, Value.oneCell']
theorem cl_all (f : Nat → Nat) : (cl f).all (·.oneCell') = true := by simp [cl, Value.oneCell']
theorem szv_word {M : Nat} {x y : Int} (h : M < 18446744073709551616) (hx : x = ((M % 4294967296 : Nat) : Int)) (hy : y = ((M / 4294967296 % 4294967296 : Nat) : Int)) : Value.agg #[.int .u32 x, .int .u32 y, .int .u32 0, .int .u32 0, .int .u32 0, .int .u32 0] = szv M := by
  obtain ⟨h0, h1, h2, h3, h4, h5⟩ := lb_word h
  simp [szv, cl, h0, h1, h2, h3, h4, h5, hx, hy]
end Go.Proofs.Ytjgikfejfglllaa
