/- Bounds and floors. -/
import Derived.Test.YtcfaammnkbkfcaaWd
set_option linter.unusedVariables false
set_option linter.unusedSimpArgs false
namespace Go.Proofs.Ytcfaammnkbkfcaa
open Go.RowKit


/-- a lies from b to c. -/
def wi (a b c : Int) : Bool := decide (b ≤ a) && decide (a ≤ c)
theorem within_any (a b c : Int) (w : World) : Calls Try.prog 118 #[.int .i64 a, .int .i64 b, .int .i64 c] w fun e w' => e = .returned (.bool (wi a b c)) ∧ w = w' := by
  by_cases h : b ≤ a
  · have hw : wi a b c = decide (a ≤ c) := by simp [wi, h]
    rw [hw]
    clear hw
    go_enter Try.func118, Try.ntmps118
    go_wp2
    go_ret
    exact ⟨rfl, rfl⟩
  · have hw : wi a b c = false := by simp [wi, h]
    rw [hw]
    clear hw
    have h' : a < b := by omega
    go_enter Try.func118, Try.ntmps118
    go_wp2
    go_ret
    exact ⟨rfl, rfl⟩
theorem in_any (a b c : Int) (w : World) : Calls Try.prog 127 #[.int .i64 a, .int .i64 b, .int .i64 c] w fun e w' => e = .returned (.bool (wi a b c)) ∧ w = w' := by
  by_cases h : b ≤ a
  · have hw : wi a b c = decide (a ≤ c) := by simp [wi, h]
    rw [hw]
    clear hw
    go_enter Try.func127, Try.ntmps127
    go_wp2
    go_ret
    exact ⟨rfl, rfl⟩
  · have hw : wi a b c = false := by simp [wi, h]
    rw [hw]
    clear hw
    have h' : a < b := by omega
    go_enter Try.func127, Try.ntmps127
    go_wp2
    go_ret
    exact ⟨rfl, rfl⟩

/-- The greatest integer that is at most a / b. -/
def fl (a b : Int) : Int := a.fdiv b
theorem fl_of {a b q : Int} (hb : b ≠ 0) (h : 0 < b ∧ b * q ≤ a ∧ a < b * q + b ∨ b < 0 ∧ a ≤ b * q ∧ b * q + b < a) : fl a b = q := by
  have h1 := Int.mul_fdiv_add_fmod a b
  unfold fl
  rcases h with ⟨h0, h2, h3⟩ | ⟨h0, h2, h3⟩
  · have h4 := Int.fmod_nonneg_of_pos a h0
    have h5 := Int.fmod_lt_of_pos a h0
    rcases Int.lt_trichotomy (a.fdiv b) q with c | c | c
    · have : b * (a.fdiv b + 1) ≤ b * q := Int.mul_le_mul_of_nonneg_left c (Int.le_of_lt h0)
      rw [Int.mul_add, Int.mul_one] at this
      omega
    · exact c
    · have : b * (q + 1) ≤ b * a.fdiv b := Int.mul_le_mul_of_nonneg_left c (Int.le_of_lt h0)
      rw [Int.mul_add, Int.mul_one] at this
      omega
  · have h4 : a.fmod b ≤ 0 ∧ b < a.fmod b := by
      have e : a.fmod b = -((-a).fmod (-b)) := by
        rw [Int.neg_fmod_neg]; omega
      have g1 := Int.fmod_nonneg_of_pos (-a) (show 0 < -b by omega)
      have g2 := Int.fmod_lt_of_pos (-a) (show 0 < -b by omega)
      omega
    rcases Int.lt_trichotomy (a.fdiv b) q with c | c | c
    · have : b * q ≤ b * (a.fdiv b + 1) := Int.mul_le_mul_of_nonpos_left (Int.le_of_lt h0) c
      rw [Int.mul_add, Int.mul_one] at this
      omega
    · exact c
    · have : b * a.fdiv b ≤ b * (q + 1) := Int.mul_le_mul_of_nonpos_left (Int.le_of_lt h0) c
      rw [Int.mul_add, Int.mul_one] at this
      omega
theorem fl_spec (a b : Int) (hb : b ≠ 0) : 0 < b ∧ b * fl a b ≤ a ∧ a < b * fl a b + b ∨ b < 0 ∧ a ≤ b * fl a b ∧ b * fl a b + b < a := by
  have h1 := Int.mul_fdiv_add_fmod a b
  unfold fl
  rcases Int.lt_or_gt_of_ne hb with h0 | h0
  · right
    have e : a.fmod b = -((-a).fmod (-b)) := by
      rw [Int.neg_fmod_neg]; omega
    have g1 := Int.fmod_nonneg_of_pos (-a) (show 0 < -b by omega)
    have g2 := Int.fmod_lt_of_pos (-a) (show 0 < -b by omega)
    omega
  · left
    have h4 := Int.fmod_nonneg_of_pos a h0
    have h5 := Int.fmod_lt_of_pos a h0
    omega

theorem tmod_lo (a b : Int) (hb : b ≠ 0) : (0 ≤ a → 0 ≤ a.tmod b) ∧ (a < 0 → a.tmod b ≤ 0) ∧ -(b.natAbs : Int) < a.tmod b ∧ a.tmod b < b.natAbs := by
  have h1 : 0 ≤ a → 0 ≤ a.tmod b := fun h => Int.tmod_nonneg b h
  have h2 : a < 0 → a.tmod b ≤ 0 := fun h => by
    have := Int.tmod_nonneg b (show 0 ≤ -a by omega)
    rw [Int.neg_tmod] at this
    omega
  have h3 : (a.tmod b).natAbs < b.natAbs := by
    rw [Int.natAbs_tmod]
    exact Nat.mod_lt _ (by omega)
  exact ⟨h1, h2, by omega, by omega⟩
theorem fl_t (a b : Int) (hb : b ≠ 0) : fl a b = if a.tmod b ≠ 0 ∧ ¬ (a < 0 ↔ b < 0) then a.tdiv b - 1 else a.tdiv b := by
  have h1 := Int.mul_tdiv_add_tmod a b
  obtain ⟨h2, h3, h4, h5⟩ := tmod_lo a b hb
  split
  · rename_i h
    apply fl_of hb
    rw [Int.mul_sub, Int.mul_one]
    obtain ⟨g1, g2⟩ := h
    rcases Int.lt_or_gt_of_ne hb with h0 | h0
    · right
      have : 0 ≤ a := by
        rcases Int.lt_or_le a 0 with c | c
        · exact absurd (iff_of_true c h0) g2
        · exact c
      have := h2 this
      omega
    · left
      have : a < 0 := by
        rcases Int.lt_or_le a 0 with c | c
        · exact c
        · exact absurd (iff_of_false (by omega) (by omega)) g2
      have := h3 this
      omega
  · rename_i h
    apply fl_of hb
    by_cases g1 : a.tmod b = 0
    · rcases Int.lt_or_gt_of_ne hb with h0 | h0
      · right; omega
      · left; omega
    · have g2 : a < 0 ↔ b < 0 := Classical.byContradiction fun e => h ⟨g1, e⟩
      rcases Int.lt_or_gt_of_ne hb with h0 | h0
      · have := h3 (g2.2 h0)
        right; omega
      · have : 0 ≤ a := by
          rcases Int.lt_or_le a 0 with c | c
          · have := g2.1 c; omega
          · exact c
        have := h2 this
        left; omega
theorem fl_abs (a b : Int) (hb : b ≠ 0) : (fl a b).natAbs ≤ a.natAbs + 1 := by
  rw [fl_t a b hb]
  have h : (a.tdiv b).natAbs ≤ a.natAbs := by
    rw [Int.natAbs_tdiv]
    exact Nat.div_le_self _ _
  split <;> omega

set_option maxHeartbeats 1000000 in
theorem floor_any (a b : Int) (hb : b ≠ 0) (ha1 : -4000000000000000000 ≤ a) (ha2 : a ≤ 4000000000000000000) (w : World) : Calls Try.prog 139 #[.int .i64 a, .int .i64 b] w fun e w' => e = .returned (.int .i64 (fl a b)) ∧ w = w' := by
  have hf := fl_t a b hb
  have hq : (a.tdiv b).natAbs ≤ a.natAbs := by
    rw [Int.natAbs_tdiv]
    exact Nat.div_le_self _ _
  obtain ⟨F, hF⟩ : ∃ F, F = fl a b := ⟨_, rfl⟩
  rw [← hF] at hf ⊢
  have HF := Lib.hid hf
  clear hf hF
  obtain ⟨Q, hQ⟩ : ∃ Q, Q = a.tdiv b := ⟨_, rfl⟩
  rw [← hQ] at hq
  have hQ1 : -4000000000000000000 ≤ Q := by omega
  have hQ2 : Q ≤ 4000000000000000000 := by omega
  have eq1 : IntKind.i64.wrap (a.tdiv b) = Q := by
    rw [hQ]
    exact IntWalk.i64_in _ (by omega)
  have hf := HF.out
  rw [← hQ] at hf
  have HF2 := Lib.hid hf
  have hb0 : ¬ b = 0 := hb
  clear hf hQ hq
  have close : ∀ x : Int, F = x → (Ending.returned (.int .i64 x) = Ending.returned (.int .i64 F)) := fun x h => by rw [h]
  have HC := Lib.hid close
  clear close
  by_cases h1 : a.tmod b = 0
  · have b1 : (a.tmod b != 0) = false := by rw [h1]; rfl
    have H1 := Lib.hid h1
    clear h1
    go_enter Try.func139, Try.ntmps139
    go_wp2
    go_ret
    exact ⟨HC.out _ (by rw [HF2.out, if_neg (fun h => h.1 H1.out)]), rfl⟩
  · have b1 : (a.tmod b != 0) = true := bne_iff_ne.2 h1
    have H1 := Lib.hid h1
    clear h1
    have b2 : 0 ≤ a → (a % b != 0) = true := fun h => by rw [← Int.tmod_eq_emod_of_nonneg h]; exact b1
    by_cases ha : a < 0
    all_goals by_cases hbn : b < 0
    · clear b2
      go_enter Try.func139, Try.ntmps139
      go_wp2
      go_ret
      exact ⟨HC.out _ (by rw [HF2.out, if_neg (fun h => h.2 (iff_of_true (by omega) (by omega)))]), rfl⟩
    · clear b2
      go_enter Try.func139, Try.ntmps139
      go_wp2
      go_ret
      exact ⟨HC.out _ (by rw [HF2.out, if_pos ⟨H1.out, fun h => by omega⟩]), rfl⟩
    · have b3 := b2 (by omega)
      clear b2
      go_enter Try.func139, Try.ntmps139
      go_wp2
      go_ret
      exact ⟨HC.out _ (by rw [HF2.out, if_pos ⟨H1.out, fun h => by omega⟩]), rfl⟩
    · have b3 := b2 (by omega)
      clear b2
      go_enter Try.func139, Try.ntmps139
      go_wp2
      go_ret
      exact ⟨HC.out _ (by rw [HF2.out, if_neg (fun h => h.2 (iff_of_false (by omega) (by omega)))]), rfl⟩

set_option maxHeartbeats 1000000 in
theorem refFloor_any (a b : Int) (hb : b ≠ 0) (ha1 : -4000000000000000000 ≤ a) (ha2 : a ≤ 4000000000000000000) (w : World) : Calls Try.prog 174 #[.int .i64 a, .int .i64 b] w fun e w' => e = .returned (.int .i64 (fl a b)) ∧ w = w' := by
  have hf := fl_t a b hb
  have hq : (a.tdiv b).natAbs ≤ a.natAbs := by
    rw [Int.natAbs_tdiv]
    exact Nat.div_le_self _ _
  obtain ⟨F, hF⟩ : ∃ F, F = fl a b := ⟨_, rfl⟩
  rw [← hF] at hf ⊢
  have HF := Lib.hid hf
  clear hf hF
  obtain ⟨Q, hQ⟩ : ∃ Q, Q = a.tdiv b := ⟨_, rfl⟩
  rw [← hQ] at hq
  have hQ1 : -4000000000000000000 ≤ Q := by omega
  have hQ2 : Q ≤ 4000000000000000000 := by omega
  have eq1 : IntKind.i64.wrap (a.tdiv b) = Q := by
    rw [hQ]
    exact IntWalk.i64_in _ (by omega)
  have hf := HF.out
  rw [← hQ] at hf
  have HF2 := Lib.hid hf
  have hb0 : ¬ b = 0 := hb
  clear hf hQ hq
  have close : ∀ x : Int, F = x → (Ending.returned (.int .i64 x) = Ending.returned (.int .i64 F)) := fun x h => by rw [h]
  have HC := Lib.hid close
  clear close
  by_cases h1 : a.tmod b = 0
  · have b1 : (a.tmod b != 0) = false := by rw [h1]; rfl
    have H1 := Lib.hid h1
    clear h1
    go_enter Try.func174, Try.ntmps174
    go_wp2
    go_ret
    exact ⟨HC.out _ (by rw [HF2.out, if_neg (fun h => h.1 H1.out)]), rfl⟩
  · have b1 : (a.tmod b != 0) = true := bne_iff_ne.2 h1
    have H1 := Lib.hid h1
    clear h1
    have b2 : 0 ≤ a → (a % b != 0) = true := fun h => by rw [← Int.tmod_eq_emod_of_nonneg h]; exact b1
    by_cases ha : a < 0
    all_goals by_cases hbn : b < 0
    · clear b2
      go_enter Try.func174, Try.ntmps174
      go_wp2
      go_ret
      exact ⟨HC.out _ (by rw [HF2.out, if_neg (fun h => h.2 (iff_of_true (by omega) (by omega)))]), rfl⟩
    · clear b2
      go_enter Try.func174, Try.ntmps174
      go_wp2
      go_ret
      exact ⟨HC.out _ (by rw [HF2.out, if_pos ⟨H1.out, fun h => by omega⟩]), rfl⟩
    · have b3 := b2 (by omega)
      clear b2
      go_enter Try.func174, Try.ntmps174
      go_wp2
      go_ret
      exact ⟨HC.out _ (by rw [HF2.out, if_pos ⟨H1.out, fun h => by omega⟩]), rfl⟩
    · have b3 := b2 (by omega)
      clear b2
      go_enter Try.func174, Try.ntmps174
      go_wp2
      go_ret
      exact ⟨HC.out _ (by rw [HF2.out, if_neg (fun h => h.2 (iff_of_false (by omega) (by omega)))]), rfl⟩
end Go.Proofs.Ytcfaammnkbkfcaa
