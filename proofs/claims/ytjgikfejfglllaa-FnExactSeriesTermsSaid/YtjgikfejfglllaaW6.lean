/- Signs of wide integers. -/
import Derived.Test.YtjgikfejfglllaaEq
import Derived.Test.YtjgikfejfglllaaRow
set_option linter.unusedVariables false
set_option linter.unusedSimpArgs false
namespace Go.Proofs.Ytjgikfejfglllaa
open Go.RowKit


/-- -1, 0 or 1. -/
def sgn (n : Bool) (M : Nat) : Int := if n then -1 else if M = 0 then 0 else 1
theorem sign_any (n : Bool) (M : Nat) (hM : M < pw 6) (w : World) :
    Calls Try.prog 130 #[wdv n M] w fun e w' => e = .returned (.int .i64 (sgn n M)) ∧ Below w.heap.size w w' := by
  have hz := zero_limbs hM
  have e := eqArr 30 Try.underlying30
  unfold wdv wcl
  cases n with
  | true =>
    go_enter Try.func130, Try.ntmps130
    go_wp2
    go_ret
    exact ⟨rfl, below_alloc (Below.refl _ _) _⟩
  | false =>
    by_cases h : M = 0
    · have hs : sgn false M = 0 := by simp [sgn, h]
      rw [decide_eq_true h] at hz
      rw [hs]
      clear hs
      go_enter Try.func130, Try.ntmps130
      go_wp2
      go_ret
      exact ⟨rfl, below_alloc (Below.refl _ _) _⟩
    · have hs : sgn false M = 1 := by simp [sgn, h]
      rw [decide_eq_false h] at hz
      rw [hs]
      clear hs
      go_enter Try.func130, Try.ntmps130
      go_wp2
      go_ret
      exact ⟨rfl, below_alloc (Below.refl _ _) _⟩
theorem Blk.sevenAt {w : World} {g o : Nat} {n : Bool} {f : Nat → Nat} (h : ∀ j v, (wcl n f)[j]? = some v → w.cell? ⟨g, o + j, none⟩ = some v) :
    w.cell? ⟨g, o, none⟩ = some (.bool n) ∧ w.cell? ⟨g, o + 1, none⟩ = some (.int .u32 (f 0)) ∧ w.cell? ⟨g, o + 2, none⟩ = some (.int .u32 (f 1)) ∧ w.cell? ⟨g, o + 3, none⟩ = some (.int .u32 (f 2)) ∧ w.cell? ⟨g, o + 4, none⟩ = some (.int .u32 (f 3)) ∧ w.cell? ⟨g, o + 5, none⟩ = some (.int .u32 (f 4)) ∧ w.cell? ⟨g, o + 6, none⟩ = some (.int .u32 (f 5)) :=
  ⟨h 0 _ rfl, h 1 _ rfl, h 2 _ rfl, h 3 _ rfl, h 4 _ rfl, h 5 _ rfl, h 6 _ rfl⟩
/-- A pointer leads to a wide integer. -/
def WAt (w : World) (g o : Nat) (n : Bool) (M : Nat) : Prop := g < w.heap.size ∧ ∀ j v, (wcl n (lb M))[j]? = some v → w.cell? ⟨g, o + j, none⟩ = some v
theorem WAt.later {w w' : World} {g o : Nat} {n : Bool} {M : Nat} (h : WAt w g o n M) (hb : Below w.heap.size w w') : WAt w' g o n M :=
  ⟨Nat.lt_of_lt_of_le h.1 hb.size, fun j v hv => (hb.cell (p := ⟨g, o + j, none⟩) h.1).trans (h.2 j v hv)⟩
theorem WAt.of_blk {w : World} {g t : Nat} {n : Bool} {M : Nat} (h : Blk w g t (wcl n (lb M))) : WAt w g 0 n M := ⟨h.lt, fun j v hv => by rw [h.cell, Nat.zero_add]; exact hv⟩
theorem refSign_any (g o : Nat) (n : Bool) (M : Nat) (hM : M < pw 6) (w : World) (h : WAt w g o n M) :
    Calls Try.prog 104 #[.pointer (some ⟨g, o, none⟩)] w fun e w' => e = .returned (.int .i64 (sgn n M)) ∧ w = w' := by
  have hz := zero_limbs hM
  have e := eqArr 30 Try.underlying30
  obtain ⟨c0, c1, c2, c3, c4, c5, c6⟩ := Blk.sevenAt h.2
  clear h
  cases n with
  | true =>
    go_enter Try.func104, Try.ntmps104
    go_wp2
    go_ret
    exact ⟨rfl, rfl⟩
  | false =>
    by_cases h : M = 0
    · have hs : sgn false M = 0 := by simp [sgn, h]
      rw [decide_eq_true h] at hz
      rw [hs]
      clear hs
      go_enter Try.func104, Try.ntmps104
      go_wp2
      go_ret
      exact ⟨rfl, rfl⟩
    · have hs : sgn false M = 1 := by simp [sgn, h]
      rw [decide_eq_false h] at hz
      rw [hs]
      clear hs
      go_enter Try.func104, Try.ntmps104
      go_wp2
      go_ret
      exact ⟨rfl, rfl⟩
end Go.Proofs.Ytjgikfejfglllaa
