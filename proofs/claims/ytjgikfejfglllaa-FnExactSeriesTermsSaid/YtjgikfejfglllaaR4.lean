/- The terms of roots, as the reference finds them. -/
import Derived.Test.YtjgikfejfglllaaR2
set_option linter.unusedVariables false
set_option linter.unusedSimpArgs false
namespace Go.Proofs.Ytjgikfejfglllaa
open Go.RowKit

set_option maxHeartbeats 1000000 in
theorem refPeriod_out (n : Int) (h : wi n 0 1000000 = false) (w : World) : Calls Try.prog 58 #[.int .i64 n] w fun e w' => ∃ v, e = .returned (.tuple #[.int .i64 0, v, .int .i64 2]) ∧ Rd w' v [] ∧ Below w.heap.size w w' := by
  go_enter Try.func58, Try.ntmps58
  go_wp2_with (go_at_call 110; refine (in_any n 0 1000000 _).mono ?_; rintro e w' ⟨rfl, rfl⟩)
  go_ret3
  exact ⟨_, rfl, Rd.nil _ _ _, below_alloc (Below.refl _ _) _⟩
set_option maxHeartbeats 1000000 in
theorem refPeriod_sq (n : Nat) (hn : n ≤ 1000000) (hs : isq n * isq n = n) (w : World) : Calls Try.prog 58 #[.int .i64 n] w fun e w' => ∃ v, e = .returned (.tuple #[.int .i64 (isq n), v, .int .i64 0]) ∧ Rd w' v [] ∧ Below w.heap.size w w' := by
  have h : wi n 0 1000000 = true := by simp [wi]; omega
  have hq := isq_small hn
  have e1 : ((isq n : Nat) : Int) * ((isq n : Nat) : Int) = (n : Int) := by rw [← Int.natCast_mul, hs]
  clear hs
  go_enter Try.func58, Try.ntmps58
  go_wp2_with (first
    | (go_at_call 110; refine (in_any n 0 1000000 _).mono ?_; rintro e w' ⟨rfl, rfl⟩)
    | (go_at_call 111; refine (refRoot_any n hn _).mono ?_; rintro e w' ⟨rfl, rfl⟩))
  go_ret3
  exact ⟨_, rfl, Rd.nil _ _ _, below_alloc (Below.refl _ _) _⟩
set_option maxHeartbeats 4000000 in
theorem refPeriod_in (n : Nat) (hn : n ≤ 1000000) (hs : isq n * isq n ≠ n) (w : World) : Calls Try.prog 58 #[.int .i64 n] w fun e w' => ∃ v, e = .returned (.tuple #[.int .i64 (rootT n).1, v, .int .i64 (rootT n).2.2]) ∧ Rd w' v (rootT n).2.1 ∧ Below w.heap.size w w' := by
  have HR := Lib.hid (rootT_in hn hs)
  have h : wi n 0 1000000 = true := by simp [wi]; omega
  obtain ⟨h1, h2⟩ := isq_at hn
  have hq := isq_small hn
  have hf1 : 1 ≤ isq n := by
    rcases Nat.eq_zero_or_pos (isq n) with c | c
    · rw [c] at h1 h2 hs
      omega
    · exact c
  have HF := Lib.hid (show isq n * isq n < n by omega)
  have HN := Lib.hid h2
  have e1 : (((isq n : Nat) : Int) * ((isq n : Nat) : Int) == (n : Int)) = false := beq_eq_false_iff_ne.2 (by
    rw [← Int.natCast_mul]
    intro e
    exact hs (Int.ofNat.inj e))
  have hsq : isq n * isq n ≤ 1000000 := by omega
  have e0 : ((isq n : Nat) : Int) * ((isq n : Nat) : Int) = ((isq n * isq n : Nat) : Int) := by simp
  rw [e0] at e1
  obtain ⟨s, hse⟩ : ∃ s, s = isq n * isq n := ⟨_, rfl⟩
  rw [← hse] at e0 e1 hsq
  clear hs h1 h2 hse
  obtain ⟨i0, hi, hz0, hz1, hz2⟩ := info_parts info2
  have HP : Hid (period n = rper n (isq n) (3001 - 0) 0 1 (isq n) []) := Lib.hid rfl
  obtain ⟨P, hP⟩ : ∃ P, P = period n := ⟨_, rfl⟩
  have HPP := Lib.hid hP
  clear hP
  go_enter Try.func58, Try.ntmps58
  go_wp2_with (first
    | (go_at_call 110; refine (in_any n 0 1000000 _).mono ?_; rintro e w' ⟨rfl, rfl⟩)
    | (go_at_call 111; refine (refRoot_any n hn _).mono ?_; rintro e w' ⟨rfl, rfl⟩))
  clear e0 e1 h hsq
  obtain ⟨f, hf⟩ : ∃ f, f = isq n := ⟨_, rfl⟩
  rw [← hf] at hq hf1 ⊢
  rw [← hf] at HF HN HP
  have HFF := Lib.hid hf
  clear hf
  go_loopw [6, 7, 8, 9] (fun v m d a wr => ∃ (M D A : Nat) (acc : List Nat), m = .int .i64 M ∧ d = .int .i64 D ∧ a = .int .i64 A ∧ RInv n f M D A ∧ acc.length ≤ 3000 ∧ rper n f (3001 - acc.length) M D A acc = P ∧ wr.ownsRow w.heap.size 2 1 v acc.length (nz64 acc) ∧ Below w.heap.size w wr)
    (fun v _ _ _ _ => 3001 - slen v)
  case atStart =>
    refine ⟨0, 1, f, [], rfl, rfl, rfl, RInv.start hf1, by simp, ?_, ?_, ?_⟩
    · rw [HPP.out]
      exact HP.out.symm
    · have := World.ownsRow_lit (base := w.heap.size) (e := 2) (size := 1) w #[] 0 (Nat.le_refl _) (by simp [maxLen]) rfl
      exact this
    · exact below_alloc (Below.refl _ _) _
  case round =>
    obtain ⟨M, D, A, acc, rfl, rfl, rfl, hI, hl, hp, hown, hb⟩ := hrel
    have HI := Lib.hid hI
    have HPE := Lib.hid hp
    obtain ⟨g1, g2, g3, g4⟩ := hI.fits
    have hd1 := hI.d1
    have hdf := hI.df
    have hmf := hI.mf
    obtain ⟨hs1, hs2, hI2⟩ := hI.step HF.out HN.out
    clear hI hp
    obtain ⟨vA, vc, hv⟩ := own_slice hown
    rw [hv] at hown ⊢
    clear hv
    by_cases hA : A = 2 * f
    · have b0 : (((A : Nat) : Int) != 2 * (f : Int)) = false := bne_eq_false_iff_eq.2 (by omega)
      have HA := Lib.hid hA
      clear hA hs1 hs2 hI2
      go_wp2
      go_ret3
      have hp : rper n f (3001 - acc.length) M D A acc = some acc := by
        rw [show 3001 - acc.length = (3000 - acc.length) + 1 by omega, rper, if_pos HA.out]
      have hr : rootT n = (isq n, acc, 0) := by rw [HR.out, ← HPP.out, ← HPE.out, hp]
      rw [hr]
      exact ⟨_, by rw [← HFF.out]; rfl, Rd.of_own hown, hb⟩
    · have b0 : (((A : Nat) : Int) != 2 * (f : Int)) = true := bne_iff_ne.2 (by omega)
      have HA := Lib.hid hA
      clear hA
      by_cases hL : acc.length = 3000
      · have b1 : (((acc.length : Nat) : Int) == 3000) = true := beq_iff_eq.2 (by omega)
        have HL := Lib.hid hL
        obtain ⟨p, hp0⟩ : ∃ p, p = D * A := ⟨_, rfl⟩
        rw [← hp0] at g1 g2 g3 hs1 hs2 hI2
        have ep : (D : Int) * (A : Int) = (p : Int) := by rw [hp0]; simp
        have HP0 := Lib.hid hp0
        obtain ⟨x, hx0⟩ : ∃ x, x = p - M := ⟨_, rfl⟩
        rw [← hx0] at hs1 hs2 hI2
        have ex : (p : Int) - (M : Int) = (x : Int) := by omega
        have HX0 := Lib.hid hx0
        have hxf : x ≤ f := by omega
        obtain ⟨s, hs0⟩ : ∃ s, s = x * x := ⟨_, rfl⟩
        rw [← hs0] at hs1 hs2 hI2
        have es : (x : Int) * (x : Int) = (s : Int) := by rw [hs0]; simp
        have HS0 := Lib.hid hs0
        obtain ⟨u, hu0⟩ : ∃ u, u = n - s := ⟨_, rfl⟩
        rw [← hu0] at hs2 hI2
        have eu : (n : Int) - (s : Int) = (u : Int) := by omega
        have HU0 := Lib.hid hu0
        obtain ⟨y, hy0⟩ : ∃ y, y = u / D := ⟨_, rfl⟩
        rw [← hy0] at hs2 hI2
        have ey : (u : Int) / (D : Int) = (y : Int) := by rw [hy0]; simp
        have HY0 := Lib.hid hy0
        have hy1 := hI2.d1
        have hyf := hI2.df
        obtain ⟨z, hz0'⟩ : ∃ z, z = (f + x) / y := ⟨_, rfl⟩
        rw [← hz0'] at hI2
        have ez : ((f : Int) + (x : Int)) / (y : Int) = (z : Int) := by rw [hz0']; simp
        have HZ0 := Lib.hid hz0'
        have hzf := hI2.fits.2.2.2
        have HI2 := Lib.hid hI2
        have hsn : s ≤ 1000000 := by omega
        have hun : u ≤ 1000000 := by omega
        clear hp0 hx0 hs0 hu0 hy0 hz0' hs1 hs2 hI2 g3
        clear hL
        go_wp2
        go_ret3
        have hp : rper n f (3001 - acc.length) M D A acc = none := by
          rw [show 3001 - acc.length = (3000 - acc.length) + 1 by omega, rper, if_neg HA.out, if_pos HL.out]
        have hr : rootT n = (0, [], 3) := by rw [HR.out, ← HPP.out, ← HPE.out, hp]
        rw [hr]
        exact ⟨_, rfl, Rd.nil _ _ _, below_alloc hb _⟩
      · have b1 : (((acc.length : Nat) : Int) == 3000) = false := beq_eq_false_iff_ne.2 (by omega)
        have HL := Lib.hid hL
        obtain ⟨p, hp0⟩ : ∃ p, p = D * A := ⟨_, rfl⟩
        rw [← hp0] at g1 g2 g3 hs1 hs2 hI2
        have ep : (D : Int) * (A : Int) = (p : Int) := by rw [hp0]; simp
        have HP0 := Lib.hid hp0
        obtain ⟨x, hx0⟩ : ∃ x, x = p - M := ⟨_, rfl⟩
        rw [← hx0] at hs1 hs2 hI2
        have ex : (p : Int) - (M : Int) = (x : Int) := by omega
        have HX0 := Lib.hid hx0
        have hxf : x ≤ f := by omega
        obtain ⟨s, hs0⟩ : ∃ s, s = x * x := ⟨_, rfl⟩
        rw [← hs0] at hs1 hs2 hI2
        have es : (x : Int) * (x : Int) = (s : Int) := by rw [hs0]; simp
        have HS0 := Lib.hid hs0
        obtain ⟨u, hu0⟩ : ∃ u, u = n - s := ⟨_, rfl⟩
        rw [← hu0] at hs2 hI2
        have eu : (n : Int) - (s : Int) = (u : Int) := by omega
        have HU0 := Lib.hid hu0
        obtain ⟨y, hy0⟩ : ∃ y, y = u / D := ⟨_, rfl⟩
        rw [← hy0] at hs2 hI2
        have ey : (u : Int) / (D : Int) = (y : Int) := by rw [hy0]; simp
        have HY0 := Lib.hid hy0
        have hy1 := hI2.d1
        have hyf := hI2.df
        obtain ⟨z, hz0'⟩ : ∃ z, z = (f + x) / y := ⟨_, rfl⟩
        rw [← hz0'] at hI2
        have ez : ((f : Int) + (x : Int)) / (y : Int) = (z : Int) := by rw [hz0']; simp
        have HZ0 := Lib.hid hz0'
        have hzf := hI2.fits.2.2.2
        have HI2 := Lib.hid hI2
        have hsn : s ≤ 1000000 := by omega
        have hun : u ≤ 1000000 := by omega
        clear hp0 hx0 hs0 hu0 hy0 hz0' hs1 hs2 hI2 g3
        have hl2 : acc.length < 3000 := by omega
        clear hL
        go_wp2_with (at_builtin; refine wpList_append_own _ rfl _ _ 42 rfl w.heap.size 2 i0 (.int .i64 0) 1 8 Try.underlying42 hi hz0 hz1 hz2 rfl (by decide) _ _ _ rfl (hown.alloc _) ⟨wr.heap.size, 0, none⟩ 1 1 [.int .i64 z] rfl rfl (cell_one_new _ _ _) (by intro u hu; simp only [List.mem_singleton] at hu; subst hu; rfl) (by simp only [maxLen]; omega) (by omega) (by have := hb.size; simp only [World.size_alloc]; omega) ?_; intro v1 w1 hown1 hg1 _)
        go_roundw
        case rel =>
          have hb1 : Below w.heap.size w w1 := (below_alloc hb _).grown hg1 (by have := hb.size; simp only [World.size_alloc]; omega) (own_base hown)
          refine ⟨x, y, z, acc ++ [z], rfl, rfl, rfl, HI2.out, by simp; omega, ?_, ?_, hb1⟩
          · have e := HPE.out
            rw [show 3001 - acc.length = (3001 - (acc ++ [z]).length) + 1 by simp; omega, rper, if_neg HA.out, if_neg HL.out] at e
            rw [← e, ← HP0.out, ← HX0.out, ← HS0.out, ← HU0.out, ← HY0.out, ← HZ0.out]
          · rw [nz64_snoc]
            simpa using hown1
        case measure =>
          obtain ⟨A1, c1, hv1⟩ := own_slice hown1
          rw [hv1]
          simp [slen]
          omega
end Go.Proofs.Ytjgikfejfglllaa
