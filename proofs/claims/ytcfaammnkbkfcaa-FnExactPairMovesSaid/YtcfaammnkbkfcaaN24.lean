/- The laws' helpers: moves. -/
import Derived.Test.YtcfaammnkbkfcaaN22
set_option linter.unusedVariables false
set_option linter.unusedSimpArgs false
namespace Go.Proofs.Ytcfaammnkbkfcaa
open Go.RowKit


theorem mz_nil : mz [] = [] := rfl
theorem mz_cons (p : Int × Int) (l : List (Int × Int)) : mz (p :: l) = .int .i8 p.1 :: .int .i64 p.2 :: mz l := rfl
theorem mz_at : ∀ (l : List (Int × Int)) (k : Nat), k < l.length → (mz l)[2 * k]? = some (.int .i8 (l.getD k (0, 0)).1) ∧ (mz l)[2 * k + 1]? = some (.int .i64 (l.getD k (0, 0)).2)
  | [], k, h => absurd h (by simp)
  | p :: l, 0, _ => by rw [mz_cons]; exact ⟨rfl, rfl⟩
  | p :: l, k + 1, h => by
    have := mz_at l k (by simpa using h)
    rw [mz_cons, show 2 * (k + 1) = 2 * k + 1 + 1 by omega, show 2 * k + 1 + 1 + 1 = (2 * k + 1) + 1 + 1 by omega]
    exact this
theorem mz_set0 : ∀ (l : List (Int × Int)) (k : Nat) (x : Int), k < l.length → (mz l).set (2 * k) (.int .i8 x) = mz (l.set k (x, (l.getD k (0, 0)).2))
  | [], k, x, h => absurd h (by simp)
  | p :: l, 0, x, _ => rfl
  | p :: l, k + 1, x, h => by
    have := mz_set0 l k x (by simpa using h)
    rw [mz_cons, show 2 * (k + 1) = 2 * k + 1 + 1 by omega]
    simp only [List.set_cons_succ, List.getD_cons_succ]
    rw [this, mz_cons]
theorem mz_set1 : ∀ (l : List (Int × Int)) (k : Nat) (x : Int), k < l.length → (mz l).set (2 * k + 1) (.int .i64 x) = mz (l.set k ((l.getD k (0, 0)).1, x))
  | [], k, x, h => absurd h (by simp)
  | p :: l, 0, x, _ => rfl
  | p :: l, k + 1, x, h => by
    have := mz_set1 l k x (by simpa using h)
    rw [mz_cons, show 2 * (k + 1) + 1 = 2 * k + 1 + 1 + 1 by omega]
    simp only [List.set_cons_succ, List.getD_cons_succ]
    rw [this, mz_cons]
theorem ext_getM {l m : List (Int × Int)} (h1 : l.length = m.length) (h : ∀ j, j < l.length → l.getD j (0, 0) = m.getD j (0, 0)) : l = m := by
  apply List.ext_getElem h1
  intro j hj hj'
  have := h j hj
  simpa [hj, hj'] using this
/-- A slice of moves reads. -/
def RdM (w : World) (v : Value) (l : List (Int × Int)) : Prop := ∃ A c, v = .slice A l.length c ∧ ∀ k, k < l.length → ∃ g, A = some ⟨g, 0, none⟩ ∧ g < w.heap.size ∧ w.cell? ⟨g, 2 * k, none⟩ = some (.int .i8 (l.getD k (0, 0)).1) ∧ w.cell? ⟨g, 2 * k + 1, none⟩ = some (.int .i64 (l.getD k (0, 0)).2)
theorem RdM.of_own {w : World} {base : Nat} {v : Value} {l : List (Int × Int)} (h : w.ownsRow base 62 2 v l.length (mz l)) : RdM w v l := by
  obtain ⟨A, c, rfl⟩ := own_slice h
  refine ⟨A, c, rfl, fun k hk => ?_⟩
  obtain ⟨g, c', e, _⟩ := own_ptr h (by omega)
  injection e with e1 e2 e3
  subst e1 e3
  exact ⟨g, rfl, (h.lt g (by simp [Value.ownBlock])).2, (h.cellAt (2 * k) (by omega)).trans (mz_at l k hk).1, (h.cellAt (2 * k + 1) (by omega)).trans (mz_at l k hk).2⟩
set_option maxHeartbeats 1000000 in
theorem eqMove_any (a b x y : Int) (w : World) : Calls Try.prog 103 #[.agg #[.int .i8 a, .int .i64 b], .agg #[.int .i8 x, .int .i64 y]] w fun e w' => e = .returned (.bool (decide (a = x ∧ b = y))) ∧ Below w.heap.size w w' := by
  have hB := below_alloc (below_alloc (Below.refl w.heap.size w) (.cells #[.int .i8 a, .int .i64 b] 62)) (.cells #[.int .i8 x, .int .i64 y] 62)
  by_cases h1 : a = x
  · subst h1
    have b1 : (a != a) = false := by simp
    by_cases h2 : b = y
    · subst h2
      have b2 : (b != b) = false := by simp
      rw [show decide (a = a ∧ b = b) = true from decide_eq_true ⟨rfl, rfl⟩]
      go_enter Try.func103, Try.ntmps103
      go_wp2
      go_ret
      exact ⟨rfl, hB⟩
    · have b2 : (b != y) = true := bne_iff_ne.2 h2
      rw [show decide (a = a ∧ b = y) = false from decide_eq_false fun h => h2 h.2]
      clear h2
      go_enter Try.func103, Try.ntmps103
      go_wp2
      go_ret
      exact ⟨rfl, hB⟩
  · have b1 : (a != x) = true := bne_iff_ne.2 h1
    rw [show decide (a = x ∧ b = y) = false from decide_eq_false fun h => h1 h.1]
    clear h1
    go_enter Try.func103, Try.ntmps103
    go_wp2
    go_ret
    exact ⟨rfl, hB⟩
end Go.Proofs.Ytcfaammnkbkfcaa
