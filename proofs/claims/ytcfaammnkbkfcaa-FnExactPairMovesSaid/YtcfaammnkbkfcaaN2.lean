/- Products; cells. -/
import Derived.Test.YtcfaammnkbkfcaaN1
import Derived.Lib.Mul64
import Derived.Laws.BitsAllLaws
import Derived.WalkLawsBesides
set_option linter.unusedVariables false
set_option linter.unusedSimpArgs false
namespace Go.Proofs.Ytcfaammnkbkfcaa
open Go.RowKit


theorem bits_and_nat (a : Nat) (ha : a < 18446744073709551616) : bits .and .u64 (a : Int) 4294967295 = ((a % 4294967296 : Nat) : Int) := by
  have h := u64_and_nat a 4294967295 ha (by omega)
  have e : a &&& 4294967295 = a % 4294967296 := Nat.and_two_pow_sub_one_eq_mod a 32
  rw [e] at h
  exact h
theorem divN (a : Nat) : (a : Int) / 4294967296 = ((a / 4294967296 : Nat) : Int) := by omega
theorem mulN (a b : Nat) : (a : Int) * (b : Int) = ((a * b : Nat) : Int) := (Int.natCast_mul a b).symm
theorem addN (a b : Nat) : (a : Int) + (b : Int) = ((a + b : Nat) : Int) := (Int.natCast_add a b).symm
theorem wrapN (a : Nat) (ha : a < 18446744073709551616) : IntKind.u64.wrap (a : Int) = (a : Int) := by rw [IntKind.wrap_u64]; omega
theorem wrapM (a : Nat) : IntKind.u64.wrap (a : Int) = ((a % 18446744073709551616 : Nat) : Int) := by rw [IntKind.wrap_u64]; omega

set_option maxHeartbeats 1000000 in
theorem mul64_any (x y : Nat) (hx : x < 18446744073709551616) (hy : y < 18446744073709551616) (w : World) :
    Calls Try.prog 171 #[.int .u64 x, .int .u64 y] w fun e w' => e = .returned (.tuple #[.int .u64 ((x * y / 18446744073709551616 : Nat) : Int), .int .u64 ((x * y % 18446744073709551616 : Nat) : Int)]) ∧ w = w' := by
  obtain ⟨bd, bt, bw, hhi⟩ := Lib.mul64_hi x y hx hy
  have ba := Lib.half_mul_le (a := x / 4294967296) (b := y / 4294967296) (by omega) (by omega)
  have bb := Lib.half_mul_le (a := x / 4294967296) (b := y % 4294967296) (by omega) (by omega)
  have bc := Lib.half_mul_le (a := x % 4294967296) (b := y / 4294967296) (by omega) (by omega)
  have ba' : x / 4294967296 * (y / 4294967296) < 18446744073709551616 := by omega
  have bb' : x / 4294967296 * (y % 4294967296) < 18446744073709551616 := by omega
  have bc' : x % 4294967296 * (y / 4294967296) < 18446744073709551616 := by omega
  have bh1 : x / 4294967296 * (y / 4294967296) + (x / 4294967296 * (y % 4294967296) + x % 4294967296 * (y % 4294967296) / 4294967296) / 4294967296 < 18446744073709551616 := by omega
  have bh : x / 4294967296 * (y / 4294967296) + (x / 4294967296 * (y % 4294967296) + x % 4294967296 * (y % 4294967296) / 4294967296) / 4294967296 + ((x / 4294967296 * (y % 4294967296) + x % 4294967296 * (y % 4294967296) / 4294967296) % 4294967296 + x % 4294967296 * (y / 4294967296)) / 4294967296 < 18446744073709551616 := by omega
  go_enter Try.func171, Try.ntmps171
  go_wp2
  simp only [bits_and_nat x hx, bits_and_nat y hy, divN, mulN, addN, wrapN _ bd, wrapN _ bb', wrapN _ bt, bits_and_nat _ bt, wrapN _ bc', wrapN _ bw, wrapN _ ba', wrapN _ bh1, wrapN _ bh, wrapM (x * y)]
  rw [hhi]
  go_ret2
  exact ⟨rfl, rfl⟩
/-- a * t + b, where the product is not too large. -/
def celV (a t b : Int) : Int := if a.natAbs * t.natAbs ≤ 2000000000000000 then a * t + b else 0
def celOk (a t b : Int) : Bool := decide (a.natAbs * t.natAbs ≤ 2000000000000000) && wi (a * t + b) (-1000000000000000) 1000000000000000
theorem max_abs (a : Int) : max a (-a) = (a.natAbs : Int) := by omega

theorem mul64_i (x y : Int) (A T : Nat) (hx : x = A) (hy : y = T) (hA : A < 18446744073709551616) (hT : T < 18446744073709551616) (w : World) :
    Calls Try.prog 171 #[.int .u64 x, .int .u64 y] w fun e w' => e = .returned (.tuple #[.int .u64 ((A * T / 18446744073709551616 : Nat) : Int), .int .u64 ((A * T % 18446744073709551616 : Nat) : Int)]) ∧ w = w' := by
  subst hx hy
  exact mul64_any A T hA hT w
theorem mul_int {a t : Int} {A T : Nat} (hA : A = a.natAbs) (hT : T = t.natAbs) : (a * t).natAbs = A * T := by rw [Int.natAbs_mul, hA, hT]

set_option maxHeartbeats 1000000 in
theorem cell_any (g : Nat) (m v : Value) (ov : Bool) (a t b : Int) (ha : a.natAbs ≤ 4000000000000000) (ht : t.natAbs ≤ 4000000000000000) (hb : b.natAbs ≤ 4000000000000000) (w : World) (hG : Blk w g 138 #[m, v, .bool ov]) :
    Calls Try.prog 166 #[.pointer (some ⟨g, 0, none⟩), .int .i64 a, .int .i64 t, .int .i64 b] w fun e w' => e = .returned (.int .i64 (celV a t b)) ∧ Chg w w' g ∧ Blk w' g 138 #[m, v, .bool (ov || !celOk a t b)] := by
  have na : IntKind.i64.wrap (-a) = -a := IntWalk.i64_in _ (by omega)
  have nt : IntKind.i64.wrap (-t) = -t := IntWalk.i64_in _ (by omega)
  obtain ⟨A, hA⟩ : ∃ A, A = a.natAbs := ⟨_, rfl⟩
  obtain ⟨T, hT⟩ : ∃ T, T = t.natAbs := ⟨_, rfl⟩
  have hA1 : A < 18446744073709551616 := by omega
  have hT1 : T < 18446744073709551616 := by omega
  have HA := Lib.hid hA
  have HT := Lib.hid hT
  have hm := fun (x y : Int) hx hy w => mul64_i x y A T hx hy hA1 hT1 w
  have ha1 : -4000000000000000 ≤ a := by omega
  have ha2 : a ≤ 4000000000000000 := by omega
  have ht1 : -4000000000000000 ≤ t := by omega
  have ht2 : t ≤ 4000000000000000 := by omega
  have hc := hG.cell 2
  have hf := hG.frozen 2
  by_cases h : A * T ≤ 2000000000000000
  · have h1 : celOk a t b = wi (a * t + b) (-1000000000000000) 1000000000000000 := by
      unfold celOk
      rw [← hA, ← hT, decide_eq_true h, Bool.true_and]
    have h2 : celV a t b = a * t + b := by
      unfold celV
      rw [← hA, ← hT, if_pos h]
    have hp := mul_int hA hT
    obtain ⟨p, hpe⟩ : ∃ p, p = a * t := ⟨_, rfl⟩
    rw [h1, h2]
    rw [← hpe] at hp ⊢
    have hp1 : -2000000000000000 ≤ p := by omega
    have hp2 : p ≤ 2000000000000000 := by omega
    have hb1 : -4000000000000000 ≤ b := by omega
    have hb2 : b ≤ 4000000000000000 := by omega
    have ep : IntKind.i64.wrap (a * t) = p := by
      rw [← hpe]
      exact IntWalk.i64_in _ (by omega)
    have hhi : A * T / 18446744073709551616 = 0 := by omega
    have hlo : A * T % 18446744073709551616 = A * T := by omega
    obtain ⟨L, hL⟩ : ∃ L, L = A * T := ⟨_, rfl⟩
    rw [hhi, hlo, ← hL] at hm
    rw [← hL] at h
    have HM := Lib.hid hm
    have HP := Lib.hid hpe
    clear h1 h2 hp hA hT hhi hlo hA1 hT1 hm ha ht hL hpe hb
    have hwi := fun w => within_any (p + b) (-1000000000000000) 1000000000000000 w
    cases ov
    · obtain ⟨B, hB⟩ : ∃ B, B = wi (p + b) (-1000000000000000) 1000000000000000 := ⟨_, rfl⟩
      rw [← hB] at hwi ⊢
      clear hB
      go_enter Try.func166, Try.ntmps166
      go_wp2_with (first
        | (go_at_call 171; refine (HM.out _ _ (by have := HA.out; omega) (by have := HT.out; omega) _).mono ?_; rintro e w' ⟨rfl, rfl⟩)
        | (go_at_call 118; refine (hwi _).mono ?_; rintro e w' ⟨rfl, rfl⟩))
      all_goals
        go_ret
        exact ⟨rfl, (Chg.refl _ _).set _ _, by exact hG.set_ 2 _⟩
    · clear hwi
      go_enter Try.func166, Try.ntmps166
      go_wp2_with (go_at_call 171; refine (HM.out _ _ (by have := HA.out; omega) (by have := HT.out; omega) _).mono ?_; rintro e w' ⟨rfl, rfl⟩)
      all_goals
        go_ret
        exact ⟨rfl, (Chg.refl _ _).set _ _, by exact hG.set_ 2 _⟩
  · have h1 : celOk a t b = false := by
      unfold celOk
      rw [← hA, ← hT, decide_eq_false h, Bool.false_and]
    have h2 : celV a t b = 0 := by
      unfold celV
      rw [← hA, ← hT, if_neg h]
    rw [h1, h2]
    have hM : A * T / 18446744073709551616 ≠ 0 ∨ A * T / 18446744073709551616 = 0 ∧ 2000000000000000 < A * T % 18446744073709551616 := by omega
    obtain ⟨hi, hhi⟩ : ∃ hi, hi = A * T / 18446744073709551616 := ⟨_, rfl⟩
    obtain ⟨lo, hlo⟩ : ∃ lo, lo = A * T % 18446744073709551616 := ⟨_, rfl⟩
    rw [← hhi, ← hlo] at hM hm
    have HM := Lib.hid hm
    clear h1 h2 h hA hT hhi hlo hA1 hT1 hm ha ht
    rcases hM with hM | ⟨hM, hM2⟩
    · have b1 : ((hi : Int) != 0) = true := bne_iff_ne.2 (by omega)
      clear hM
      go_enter Try.func166, Try.ntmps166
      go_wp2_with (go_at_call 171; refine (HM.out _ _ (by have := HA.out; omega) (by have := HT.out; omega) _).mono ?_; rintro e w' ⟨rfl, rfl⟩)
      all_goals
        go_ret
        exact ⟨rfl, (Chg.refl _ _).set _ _, by cases ov <;> exact hG.set_ 2 _⟩
    · have b1 : ((hi : Int) != 0) = false := bne_eq_false_iff_eq.2 (by omega)
      have b2 : decide (2000000000000000 < lo) = true := decide_eq_true hM2
      clear hM
      go_enter Try.func166, Try.ntmps166
      go_wp2_with (go_at_call 171; refine (HM.out _ _ (by have := HA.out; omega) (by have := HT.out; omega) _).mono ?_; rintro e w' ⟨rfl, rfl⟩)
      all_goals
        go_ret
        exact ⟨rfl, (Chg.refl _ _).set _ _, by cases ov <;> exact hG.set_ 2 _⟩
end Go.Proofs.Ytcfaammnkbkfcaa
