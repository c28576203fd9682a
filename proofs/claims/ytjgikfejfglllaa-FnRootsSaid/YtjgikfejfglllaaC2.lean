/- The convergents of roots, as the reference makes them. -/
import Derived.Test.YtjgikfejfglllaaC1
set_option linter.unusedVariables false
set_option linter.unusedSimpArgs false
namespace Go.Proofs.Ytjgikfejfglllaa
open Go.RowKit


def mcd (a b : Nat) : Int := if a * b < pw 6 then 0 else 3
def acd (a b : Nat) : Int := if a + b < pw 6 then 0 else 3
def asz (a b : Nat) : Nat := if a + b < pw 6 then a + b else 0
theorem refAddZ (M N : Nat) (hM : M < pw 6) (hN : N < pw 6) (w : World) :
    Calls Try.prog 72 #[wdv false M, wdv false N] w fun e w' => e = .returned (.tuple #[wdv false (asz M N), .int .i64 (acd M N)]) ∧ Below w.heap.size w w' := refAddN M N hM hN w
theorem refMulZ (M N : Nat) (hM : M < pw 6) (hN : N < pw 6) (w : World) :
    Calls Try.prog 70 #[wdv false M, wdv false N] w fun e w' => e = .returned (.tuple #[wdv false (mz M N), .int .i64 (mcd M N)]) ∧ Below w.heap.size w w' := refMulN M N hM hN w
theorem ref1 (w : World) : Calls Try.prog 71 #[.int .i64 1] w fun e w' => e = .returned (wdv false 1) ∧ Below w.heap.size w w' := refOfN 1 (by decide) w
theorem ref0 (w : World) : Calls Try.prog 71 #[.int .i64 0] w fun e w' => e = .returned (wdv false 0) ∧ Below w.heap.size w w' := refOfN 0 (by decide) w
theorem asz_lt (a b : Nat) : asz a b < pw 6 := by
  unfold asz
  split
  · assumption
  · exact pw_pos 6

set_option maxHeartbeats 4000000 in
theorem refParts_any (f : Nat) (v : Value) (l : List Nat) (k : Nat) (hk : k ≤ 1000000) (hf : f ≤ 2000) (hle : ∀ x ∈ l, x ≤ 2000) (hl : 0 < k → l ≠ []) (hl2 : l.length ≤ 3000) (w : World) (hv : Rd w v l) :
    Calls Try.prog 59 #[.int .i64 f, v, .int .i64 k] w fun e w' => e = .returned (cvalue (crun f l (k + 1) 0 1 0 0 1)) ∧ Below w.heap.size w w' := by
  obtain ⟨R, hR⟩ : ∃ R, R = crun f l (k + 1) 0 1 0 0 1 := ⟨_, rfl⟩
  rw [← hR]
  have HR := Lib.hid hR
  clear hR
  have E0 : lb 0 = fun _ => 0 := funext fun k => lb_zero k
  have P1 : 1 < pw 6 := by decide
  have P0 : 0 < pw 6 := by decide
  go_enter Try.func59, Try.ntmps59
  go_wp2_with fail
  refine (ref1 _).mono ?_
  rintro e w1 ⟨rfl, hb⟩
  have d6 : Blk w1 w.heap.size 32 (wcl false fun _ => 0) := ((Blk.newAt (by simp) 32 (wcl false fun _ => 0)).alloc _).later hb
  have d7 : Blk w1 (w.heap.size + 1) 32 (wcl false fun _ => 0) := (Blk.newAt (by simp) 32 (wcl false fun _ => 0)).later hb
  have dB : Below w.heap.size w w1 := below_then (below_alloc (below_alloc (Below.refl _ _) _) _) hb
  have y6 := d6.lt
  have y7 := d7.lt
  clear hb
  go_wp2_with (first
    | ((with_reducible change wpList _ _ _ (Oper.mk none (Op.store 32 (Operand.tmp 9) _) _ _ _ _ :: _) _ _); refine wpList_store_row rfl 32 _ _ rfl (w1.heap.size) (wcl false (lb 1)) rfl rfl 32 _ (Blk.newAt rfl 32 (wcl false fun _ => 0)) sz32 rfl (wcl_all _ _) ?_))
  refine (ref0 _).mono ?_
  rintro e w2 ⟨rfl, hb⟩
  replace d6 : Blk w2 w.heap.size 32 (wcl false fun _ => 0) := ((d6.alloc _).row_far (by omega) _).later hb
  replace d7 : Blk w2 (w.heap.size + 1) 32 (wcl false fun _ => 0) := ((d7.alloc _).row_far (by omega) _).later hb
  have d9 : Blk w2 w1.heap.size 32 (wcl false (lb 1)) := ((Blk.newAt rfl 32 (wcl false fun _ => 0)).row _).later hb
  replace dB : Below w.heap.size w w2 := below_then (below_row (below_alloc dB _) (by omega) _) hb
  have y9 := d9.lt
  clear hb
  go_wp2_with (first
    | ((with_reducible change wpList _ _ _ (Oper.mk none (Op.store 32 (Operand.tmp 10) _) _ _ _ _ :: _) _ _); refine wpList_store_row rfl 32 _ _ rfl (w2.heap.size) (wcl false (lb 0)) rfl rfl 32 _ (Blk.newAt rfl 32 (wcl false fun _ => 0)) sz32 rfl (wcl_all _ _) ?_))
  refine (ref0 _).mono ?_
  rintro e w3 ⟨rfl, hb⟩
  replace d6 : Blk w3 w.heap.size 32 (wcl false fun _ => 0) := ((d6.alloc _).row_far (by omega) _).later hb
  replace d7 : Blk w3 (w.heap.size + 1) 32 (wcl false fun _ => 0) := ((d7.alloc _).row_far (by omega) _).later hb
  replace d9 : Blk w3 w1.heap.size 32 (wcl false (lb 1)) := ((d9.alloc _).row_far (by omega) _).later hb
  have d10 : Blk w3 w2.heap.size 32 (wcl false (lb 0)) := ((Blk.newAt rfl 32 (wcl false fun _ => 0)).row _).later hb
  replace dB : Below w.heap.size w w3 := below_then (below_row (below_alloc dB _) (by omega) _) hb
  have y10 := d10.lt
  clear hb
  go_wp2_with (first
    | ((with_reducible change wpList _ _ _ (Oper.mk none (Op.store 32 (Operand.tmp 11) _) _ _ _ _ :: _) _ _); refine wpList_store_row rfl 32 _ _ rfl (w3.heap.size) (wcl false (lb 0)) rfl rfl 32 _ (Blk.newAt rfl 32 (wcl false fun _ => 0)) sz32 rfl (wcl_all _ _) ?_))
  refine (ref1 _).mono ?_
  rintro e w4 ⟨rfl, hb⟩
  replace d6 : Blk w4 w.heap.size 32 (wcl false fun _ => 0) := ((d6.alloc _).row_far (by omega) _).later hb
  replace d7 : Blk w4 (w.heap.size + 1) 32 (wcl false fun _ => 0) := ((d7.alloc _).row_far (by omega) _).later hb
  replace d9 : Blk w4 w1.heap.size 32 (wcl false (lb 1)) := ((d9.alloc _).row_far (by omega) _).later hb
  replace d10 : Blk w4 w2.heap.size 32 (wcl false (lb 0)) := ((d10.alloc _).row_far (by omega) _).later hb
  have d11 : Blk w4 w3.heap.size 32 (wcl false (lb 0)) := ((Blk.newAt rfl 32 (wcl false fun _ => 0)).row _).later hb
  replace dB : Below w.heap.size w w4 := below_then (below_row (below_alloc dB _) (by omega) _) hb
  have y11 := d11.lt
  clear hb
  go_wp2_with (first
    | ((with_reducible change wpList _ _ _ (Oper.mk none (Op.store 32 (Operand.tmp 12) _) _ _ _ _ :: _) _ _); refine wpList_store_row rfl 32 _ _ rfl (w4.heap.size) (wcl false (lb 1)) rfl rfl 32 _ (Blk.newAt rfl 32 (wcl false fun _ => 0)) sz32 rfl (wcl_all _ _) ?_))
  go_loopw [13] (fun i wr => ∃ (j p q p0 q0 : Nat), i = .int .i64 j ∧ j ≤ k + 1 ∧ (p < pw 6 ∧ q < pw 6 ∧ p0 < pw 6 ∧ q0 < pw 6) ∧ crun f l (k + 1 - j) j p q p0 q0 = R ∧ w4.heap.size < wr.heap.size ∧ Blk wr w.heap.size 32 (wcl false fun _ => 0) ∧ Blk wr (w.heap.size + 1) 32 (wcl false fun _ => 0) ∧ Blk wr w1.heap.size 32 (wcl false (lb p)) ∧ Blk wr w2.heap.size 32 (wcl false (lb q)) ∧ Blk wr w3.heap.size 32 (wcl false (lb p0)) ∧ Blk wr w4.heap.size 32 (wcl false (lb q0)) ∧ Below w.heap.size w wr)
    (fun i _ => k + 1 - (intOf i).toNat)
  case atStart =>
    refine ⟨0, 1, 0, 0, 1, rfl, by omega, ⟨P1, P0, P0, P1⟩, HR.out.symm, by simp [World.setRow], (d6.alloc _).row_far (by omega) _, (d7.alloc _).row_far (by omega) _, (d9.alloc _).row_far (by omega) _, (d10.alloc _).row_far (by omega) _, (d11.alloc _).row_far (by omega) _, (Blk.newAt rfl 32 (wcl false fun _ => 0)).row _, below_row (below_alloc dB _) (by omega) _⟩
  case round =>
    clear dB d6 d7 d9 d10 d11
    obtain ⟨j, p, q, p0, q0, rfl, hj, ⟨lp, lq, lp0, lq0⟩, hs0, hz, d6, d7, d9, d10, d11, d12, dB⟩ := hrel
    have HV := Lib.hid (hv.later dB)
    have HLE := Lib.hid hle
    by_cases hjk : j ≤ k
    · have hT := refRootAt_any f v l j (by omega) (fun h => hl (by omega)) hl2 wr HV.out
      have hA := rterm_le (f := f) (l := l) (B := 2000) hf HLE.out j
      rw [show k + 1 - j = k - j + 1 by omega, crun] at hs0
      obtain ⟨A, hAe⟩ : ∃ A, A = rterm f l j := ⟨_, rfl⟩
      rw [← hAe] at hT hA hs0
      have HS := Lib.hid hs0
      clear hAe hs0
      have hAp : A < pw 6 := Nat.lt_of_le_of_lt hA (by decide)
      go_wp2_with (go_at_call 68; refine hT.mono ?_; rintro e w' ⟨rfl, rfl⟩)
      refine (refOfN A (by omega) _).mono ?_
      rintro e w5 ⟨rfl, hb⟩
      have hz := hb.size
      try simp only [World.size_alloc, size_setRow] at hz
      replace d6 : Blk w5 w.heap.size 32 (wcl false fun _ => 0) := (d6).later hb
      replace d7 : Blk w5 (w.heap.size + 1) 32 (wcl false fun _ => 0) := (d7).later hb
      replace d9 : Blk w5 w1.heap.size 32 (wcl false (lb p)) := (d9).later hb
      replace d10 : Blk w5 w2.heap.size 32 (wcl false (lb q)) := (d10).later hb
      replace d11 : Blk w5 w3.heap.size 32 (wcl false (lb p0)) := (d11).later hb
      replace d12 : Blk w5 w4.heap.size 32 (wcl false (lb q0)) := (d12).later hb
      replace dB := below_then dB hb
      clear hb
      go_wp2_with (first
        | ((with_reducible change wpList _ _ _ (Oper.mk none (Op.store 32 (Operand.tmp 14) _) _ _ _ _ :: _) _ _); refine wpList_store_row rfl 32 _ _ rfl (w5.heap.size) (wcl false (lb A)) rfl rfl 32 _ (Blk.newAt rfl 32 (wcl false fun _ => 0)) sz32 rfl (wcl_all _ _) ?_)
        | ((with_reducible change wpList _ _ _ (Oper.mk (some 34) (Op.load 32 _) _ _ _ _ :: _) _ _); refine wpList_load_row rfl 32 _ rfl (w5.heap.size) rfl 32 _ _ _ ((Blk.newAt rfl 32 (wcl false fun _ => 0)).row _) Try.underlying32 rfl sz32 ?_)
        | ((with_reducible change wpList _ _ _ (Oper.mk (some 35) (Op.load 32 _) _ _ _ _ :: _) _ _); refine wpList_load_row rfl 32 _ rfl (w1.heap.size) rfl 32 _ _ _ ((d9.alloc _).row_far (by omega) _) Try.underlying32 rfl sz32 ?_))
      refine (calls_args (args' := #[wdv false A, wdv false p]) rfl (refMulZ A p hAp lp _)).mono ?_
      rintro e w6 ⟨rfl, hb⟩
      have hz := hb.size
      try simp only [World.size_alloc, size_setRow] at hz
      replace d6 : Blk w6 w.heap.size 32 (wcl false fun _ => 0) := ((d6.alloc _).row_far (by omega) _).later hb
      replace d7 : Blk w6 (w.heap.size + 1) 32 (wcl false fun _ => 0) := ((d7.alloc _).row_far (by omega) _).later hb
      replace d9 : Blk w6 w1.heap.size 32 (wcl false (lb p)) := ((d9.alloc _).row_far (by omega) _).later hb
      replace d10 : Blk w6 w2.heap.size 32 (wcl false (lb q)) := ((d10.alloc _).row_far (by omega) _).later hb
      replace d11 : Blk w6 w3.heap.size 32 (wcl false (lb p0)) := ((d11.alloc _).row_far (by omega) _).later hb
      replace d12 : Blk w6 w4.heap.size 32 (wcl false (lb q0)) := ((d12.alloc _).row_far (by omega) _).later hb
      have d14 : Blk w6 w5.heap.size 32 (wcl false (lb A)) := ((Blk.newAt rfl 32 (wcl false fun _ => 0)).row _).later hb
      replace dB := below_then (below_row (below_alloc dB _) (by omega) _) hb
      clear hb
      go_wp2_with (first
        | ((with_reducible change wpList _ _ _ (Oper.mk none (Op.store 32 (Operand.tmp 15) _) _ _ _ _ :: _) _ _); refine wpList_store_row rfl 32 _ _ rfl (w6.heap.size) (wcl false (lb (mz A p))) rfl rfl 32 _ (Blk.newAt rfl 32 (wcl false fun _ => 0)) sz32 rfl (wcl_all _ _) ?_)
        | ((with_reducible change wpList _ _ _ (Oper.mk (some 40) (Op.load 32 _) _ _ _ _ :: _) _ _); refine wpList_load_row rfl 32 _ rfl (w5.heap.size) rfl 32 _ _ _ ((d14.alloc _).row_far (by omega) _) Try.underlying32 rfl sz32 ?_)
        | ((with_reducible change wpList _ _ _ (Oper.mk (some 41) (Op.load 32 _) _ _ _ _ :: _) _ _); refine wpList_load_row rfl 32 _ rfl (w2.heap.size) rfl 32 _ _ _ ((d10.alloc _).row_far (by omega) _) Try.underlying32 rfl sz32 ?_))
      refine (calls_args (args' := #[wdv false A, wdv false q]) rfl (refMulZ A q hAp lq _)).mono ?_
      rintro e w7 ⟨rfl, hb⟩
      have hz := hb.size
      try simp only [World.size_alloc, size_setRow] at hz
      replace d6 : Blk w7 w.heap.size 32 (wcl false fun _ => 0) := ((d6.alloc _).row_far (by omega) _).later hb
      replace d7 : Blk w7 (w.heap.size + 1) 32 (wcl false fun _ => 0) := ((d7.alloc _).row_far (by omega) _).later hb
      replace d9 : Blk w7 w1.heap.size 32 (wcl false (lb p)) := ((d9.alloc _).row_far (by omega) _).later hb
      replace d10 : Blk w7 w2.heap.size 32 (wcl false (lb q)) := ((d10.alloc _).row_far (by omega) _).later hb
      replace d11 : Blk w7 w3.heap.size 32 (wcl false (lb p0)) := ((d11.alloc _).row_far (by omega) _).later hb
      replace d12 : Blk w7 w4.heap.size 32 (wcl false (lb q0)) := ((d12.alloc _).row_far (by omega) _).later hb
      replace d14 : Blk w7 w5.heap.size 32 (wcl false (lb A)) := ((d14.alloc _).row_far (by omega) _).later hb
      have d15 : Blk w7 w6.heap.size 32 (wcl false (lb (mz A p))) := ((Blk.newAt rfl 32 (wcl false fun _ => 0)).row _).later hb
      replace dB := below_then (below_row (below_alloc dB _) (by omega) _) hb
      clear hb
      by_cases m1 : A * p < pw 6
      case neg =>
        rw [show mcd A p = 3 from if_neg m1]
        go_wp2_with (first
          | ((with_reducible change wpList _ _ _ (Oper.mk none (Op.store 32 (Operand.tmp 17) _) _ _ _ _ :: _) _ _); refine wpList_store_row rfl 32 _ _ rfl (w7.heap.size) (wcl false (lb (mz A q))) rfl rfl 32 _ (Blk.newAt rfl 32 (wcl false fun _ => 0)) sz32 rfl (wcl_all _ _) ?_)
          | ((with_reducible change wpList _ _ _ (Oper.mk none (Op.store 32 (Operand.tmp 6) _) _ _ _ _ :: _) _ _); refine wpList_store_row rfl 32 _ _ rfl (w.heap.size) (wcl false fun _ => 0) rfl rfl 32 _ ((d6.alloc _).row_far (by omega) _) sz32 rfl (wcl_all _ _) ?_)
          | ((with_reducible change wpList _ _ _ (Oper.mk none (Op.store 32 (Operand.tmp 7) _) _ _ _ _ :: _) _ _); refine wpList_store_row rfl 32 _ _ rfl (w.heap.size + 1) (wcl false fun _ => 0) rfl rfl 32 _ (((d7.alloc _).row_far (by omega) _).row_far (by omega) _) sz32 rfl (wcl_all _ _) ?_))
        refine bodyPost_ret (v := cvalue R) ((res_row_row_tmp Try.results59 rfl ((((d6.alloc _).row_far (by omega) _).row (wcl false fun _ => 0)).row_far (by omega) (wcl false fun _ => 0)) rfl ((((d7.alloc _).row_far (by omega) _).row_far (by omega) (wcl false fun _ => 0)).row (wcl false fun _ => 0)) Try.underlying32 rfl sz32 Try.underlying32 rfl sz32).trans ?_) rfl ⟨rfl, below_row (below_row (below_row (below_alloc dB _) (by omega) _) (by omega) _) (by omega) _⟩
        have := HS.out
        rw [if_neg (by simp [cfit, m1])] at this
        rw [← this]; simp [cvalue, wdv, E0]
      rw [show mcd A p = 0 from if_pos m1]
      by_cases m2 : A * q < pw 6
      case neg =>
        rw [show mcd A q = 3 from if_neg m2]
        go_wp2_with (first
          | ((with_reducible change wpList _ _ _ (Oper.mk none (Op.store 32 (Operand.tmp 17) _) _ _ _ _ :: _) _ _); refine wpList_store_row rfl 32 _ _ rfl (w7.heap.size) (wcl false (lb (mz A q))) rfl rfl 32 _ (Blk.newAt rfl 32 (wcl false fun _ => 0)) sz32 rfl (wcl_all _ _) ?_)
          | ((with_reducible change wpList _ _ _ (Oper.mk none (Op.store 32 (Operand.tmp 6) _) _ _ _ _ :: _) _ _); refine wpList_store_row rfl 32 _ _ rfl (w.heap.size) (wcl false fun _ => 0) rfl rfl 32 _ ((d6.alloc _).row_far (by omega) _) sz32 rfl (wcl_all _ _) ?_)
          | ((with_reducible change wpList _ _ _ (Oper.mk none (Op.store 32 (Operand.tmp 7) _) _ _ _ _ :: _) _ _); refine wpList_store_row rfl 32 _ _ rfl (w.heap.size + 1) (wcl false fun _ => 0) rfl rfl 32 _ (((d7.alloc _).row_far (by omega) _).row_far (by omega) _) sz32 rfl (wcl_all _ _) ?_))
        refine bodyPost_ret (v := cvalue R) ((res_row_row_tmp Try.results59 rfl ((((d6.alloc _).row_far (by omega) _).row (wcl false fun _ => 0)).row_far (by omega) (wcl false fun _ => 0)) rfl ((((d7.alloc _).row_far (by omega) _).row_far (by omega) (wcl false fun _ => 0)).row (wcl false fun _ => 0)) Try.underlying32 rfl sz32 Try.underlying32 rfl sz32).trans ?_) rfl ⟨rfl, below_row (below_row (below_row (below_alloc dB _) (by omega) _) (by omega) _) (by omega) _⟩
        have := HS.out
        rw [if_neg (by simp [cfit, m2])] at this
        rw [← this]; simp [cvalue, wdv, E0]
      rw [show mcd A q = 0 from if_pos m2]
      go_wp2_with (first
        | ((with_reducible change wpList _ _ _ (Oper.mk none (Op.store 32 (Operand.tmp 17) _) _ _ _ _ :: _) _ _); refine wpList_store_row rfl 32 _ _ rfl (w7.heap.size) (wcl false (lb (mz A q))) rfl rfl 32 _ (Blk.newAt rfl 32 (wcl false fun _ => 0)) sz32 rfl (wcl_all _ _) ?_)
        | ((with_reducible change wpList _ _ _ (Oper.mk (some 54) (Op.load 32 _) _ _ _ _ :: _) _ _); refine wpList_load_row rfl 32 _ rfl (w6.heap.size) rfl 32 _ _ _ ((d15.alloc _).row_far (by omega) _) Try.underlying32 rfl sz32 ?_)
        | ((with_reducible change wpList _ _ _ (Oper.mk (some 55) (Op.load 32 _) _ _ _ _ :: _) _ _); refine wpList_load_row rfl 32 _ rfl (w3.heap.size) rfl 32 _ _ _ ((d11.alloc _).row_far (by omega) _) Try.underlying32 rfl sz32 ?_))
      refine (calls_args (args' := #[wdv false (mz A p), wdv false p0]) rfl (refAddZ (mz A p) p0 (mz_lt A p) lp0 _)).mono ?_
      rintro e w8 ⟨rfl, hb⟩
      have hz := hb.size
      try simp only [World.size_alloc, size_setRow] at hz
      replace d6 : Blk w8 w.heap.size 32 (wcl false fun _ => 0) := ((d6.alloc _).row_far (by omega) _).later hb
      replace d7 : Blk w8 (w.heap.size + 1) 32 (wcl false fun _ => 0) := ((d7.alloc _).row_far (by omega) _).later hb
      replace d9 : Blk w8 w1.heap.size 32 (wcl false (lb p)) := ((d9.alloc _).row_far (by omega) _).later hb
      replace d10 : Blk w8 w2.heap.size 32 (wcl false (lb q)) := ((d10.alloc _).row_far (by omega) _).later hb
      replace d11 : Blk w8 w3.heap.size 32 (wcl false (lb p0)) := ((d11.alloc _).row_far (by omega) _).later hb
      replace d12 : Blk w8 w4.heap.size 32 (wcl false (lb q0)) := ((d12.alloc _).row_far (by omega) _).later hb
      replace d14 : Blk w8 w5.heap.size 32 (wcl false (lb A)) := ((d14.alloc _).row_far (by omega) _).later hb
      replace d15 : Blk w8 w6.heap.size 32 (wcl false (lb (mz A p))) := ((d15.alloc _).row_far (by omega) _).later hb
      have d17 : Blk w8 w7.heap.size 32 (wcl false (lb (mz A q))) := ((Blk.newAt rfl 32 (wcl false fun _ => 0)).row _).later hb
      replace dB := below_then (below_row (below_alloc dB _) (by omega) _) hb
      clear hb
      go_wp2_with (first
        | ((with_reducible change wpList _ _ _ (Oper.mk none (Op.store 32 (Operand.tmp 15) _) _ _ _ _ :: _) _ _); refine wpList_store_row rfl 32 _ _ rfl (w6.heap.size) (wcl false (lb (asz (mz A p) p0))) rfl rfl 32 _ (d15) sz32 rfl (wcl_all _ _) ?_)
        | ((with_reducible change wpList _ _ _ (Oper.mk (some 60) (Op.load 32 _) _ _ _ _ :: _) _ _); refine wpList_load_row rfl 32 _ rfl (w7.heap.size) rfl 32 _ _ _ ((d17).row_far (by omega) _) Try.underlying32 rfl sz32 ?_)
        | ((with_reducible change wpList _ _ _ (Oper.mk (some 61) (Op.load 32 _) _ _ _ _ :: _) _ _); refine wpList_load_row rfl 32 _ rfl (w4.heap.size) rfl 32 _ _ _ ((d12).row_far (by omega) _) Try.underlying32 rfl sz32 ?_))
      refine (calls_args (args' := #[wdv false (mz A q), wdv false q0]) rfl (refAddZ (mz A q) q0 (mz_lt A q) lq0 _)).mono ?_
      rintro e w9 ⟨rfl, hb⟩
      have hz := hb.size
      try simp only [World.size_alloc, size_setRow] at hz
      replace d6 : Blk w9 w.heap.size 32 (wcl false fun _ => 0) := ((d6).row_far (by omega) _).later hb
      replace d7 : Blk w9 (w.heap.size + 1) 32 (wcl false fun _ => 0) := ((d7).row_far (by omega) _).later hb
      replace d9 : Blk w9 w1.heap.size 32 (wcl false (lb p)) := ((d9).row_far (by omega) _).later hb
      replace d10 : Blk w9 w2.heap.size 32 (wcl false (lb q)) := ((d10).row_far (by omega) _).later hb
      replace d11 : Blk w9 w3.heap.size 32 (wcl false (lb p0)) := ((d11).row_far (by omega) _).later hb
      replace d12 : Blk w9 w4.heap.size 32 (wcl false (lb q0)) := ((d12).row_far (by omega) _).later hb
      replace d14 : Blk w9 w5.heap.size 32 (wcl false (lb A)) := ((d14).row_far (by omega) _).later hb
      replace d15 : Blk w9 w6.heap.size 32 (wcl false (lb (asz (mz A p) p0))) := (d15.row _).later hb
      replace d17 : Blk w9 w7.heap.size 32 (wcl false (lb (mz A q))) := ((d17).row_far (by omega) _).later hb
      replace dB := below_then (below_row dB (by omega) _) hb
      clear hb
      have e1 := Lib.hid (show mz A p = A * p from if_pos m1)
      have e2 := Lib.hid (show mz A q = A * q from if_pos m2)
      by_cases m3 : mz A p + p0 < pw 6
      case neg =>
        rw [show acd (mz A p) p0 = 3 from if_neg m3]
        have m3 := m3
        go_wp2_with (first
          | ((with_reducible change wpList _ _ _ (Oper.mk none (Op.store 32 (Operand.tmp 17) _) _ _ _ _ :: _) _ _); refine wpList_store_row rfl 32 _ _ rfl (w7.heap.size) (wcl false (lb (asz (mz A q) q0))) rfl rfl 32 _ (d17) sz32 rfl (wcl_all _ _) ?_)
          | ((with_reducible change wpList _ _ _ (Oper.mk none (Op.store 32 (Operand.tmp 6) _) _ _ _ _ :: _) _ _); refine wpList_store_row rfl 32 _ _ rfl (w.heap.size) (wcl false fun _ => 0) rfl rfl 32 _ ((d6).row_far (by omega) _) sz32 rfl (wcl_all _ _) ?_)
          | ((with_reducible change wpList _ _ _ (Oper.mk none (Op.store 32 (Operand.tmp 7) _) _ _ _ _ :: _) _ _); refine wpList_store_row rfl 32 _ _ rfl (w.heap.size + 1) (wcl false fun _ => 0) rfl rfl 32 _ (((d7).row_far (by omega) _).row_far (by omega) _) sz32 rfl (wcl_all _ _) ?_))
        refine bodyPost_ret (v := cvalue R) ((res_row_row_tmp Try.results59 rfl ((((d6).row_far (by omega) _).row (wcl false fun _ => 0)).row_far (by omega) (wcl false fun _ => 0)) rfl ((((d7).row_far (by omega) _).row_far (by omega) (wcl false fun _ => 0)).row (wcl false fun _ => 0)) Try.underlying32 rfl sz32 Try.underlying32 rfl sz32).trans ?_) rfl ⟨rfl, below_row (below_row (below_row dB (by omega) _) (by omega) _) (by omega) _⟩
        have := HS.out
        rw [if_neg (by simp [cfit, show ¬ A * p + p0 < pw 6 by rw [← e1.out]; exact m3])] at this
        rw [← this]; simp [cvalue, wdv, E0]
      rw [show acd (mz A p) p0 = 0 from if_pos m3]
      by_cases m4 : mz A q + q0 < pw 6
      case neg =>
        rw [show acd (mz A q) q0 = 3 from if_neg m4]
        go_wp2_with (first
          | ((with_reducible change wpList _ _ _ (Oper.mk none (Op.store 32 (Operand.tmp 17) _) _ _ _ _ :: _) _ _); refine wpList_store_row rfl 32 _ _ rfl (w7.heap.size) (wcl false (lb (asz (mz A q) q0))) rfl rfl 32 _ (d17) sz32 rfl (wcl_all _ _) ?_)
          | ((with_reducible change wpList _ _ _ (Oper.mk none (Op.store 32 (Operand.tmp 6) _) _ _ _ _ :: _) _ _); refine wpList_store_row rfl 32 _ _ rfl (w.heap.size) (wcl false fun _ => 0) rfl rfl 32 _ ((d6).row_far (by omega) _) sz32 rfl (wcl_all _ _) ?_)
          | ((with_reducible change wpList _ _ _ (Oper.mk none (Op.store 32 (Operand.tmp 7) _) _ _ _ _ :: _) _ _); refine wpList_store_row rfl 32 _ _ rfl (w.heap.size + 1) (wcl false fun _ => 0) rfl rfl 32 _ (((d7).row_far (by omega) _).row_far (by omega) _) sz32 rfl (wcl_all _ _) ?_))
        refine bodyPost_ret (v := cvalue R) ((res_row_row_tmp Try.results59 rfl ((((d6).row_far (by omega) _).row (wcl false fun _ => 0)).row_far (by omega) (wcl false fun _ => 0)) rfl ((((d7).row_far (by omega) _).row_far (by omega) (wcl false fun _ => 0)).row (wcl false fun _ => 0)) Try.underlying32 rfl sz32 Try.underlying32 rfl sz32).trans ?_) rfl ⟨rfl, below_row (below_row (below_row dB (by omega) _) (by omega) _) (by omega) _⟩
        have := HS.out
        rw [if_neg (by simp [cfit, show ¬ A * q + q0 < pw 6 by rw [← e2.out]; exact m4])] at this
        rw [← this]; simp [cvalue, wdv, E0]
      rw [show acd (mz A q) q0 = 0 from if_pos m4]
      go_wp2_with (first
        | ((with_reducible change wpList _ _ _ (Oper.mk none (Op.store 32 (Operand.tmp 17) _) _ _ _ _ :: _) _ _); refine wpList_store_row rfl 32 _ _ rfl (w7.heap.size) (wcl false (lb (asz (mz A q) q0))) rfl rfl 32 _ (d17) sz32 rfl (wcl_all _ _) ?_)
        | ((with_reducible change wpList _ _ _ (Oper.mk (some 73) (Op.load 32 _) _ _ _ _ :: _) _ _); refine wpList_load_row rfl 32 _ rfl (w1.heap.size) rfl 32 _ _ _ ((d9).row_far (by omega) _) Try.underlying32 rfl sz32 ?_)
        | ((with_reducible change wpList _ _ _ (Oper.mk none (Op.store 32 (Operand.tmp 11) _) _ _ _ _ :: _) _ _); refine wpList_store_row rfl 32 _ _ rfl (w3.heap.size) (wcl false (lb p)) rfl rfl 32 _ ((d11).row_far (by omega) _) sz32 rfl (wcl_all _ _) ?_)
        | ((with_reducible change wpList _ _ _ (Oper.mk (some 74) (Op.load 32 _) _ _ _ _ :: _) _ _); refine wpList_load_row rfl 32 _ rfl (w2.heap.size) rfl 32 _ _ _ (((d10).row_far (by omega) _).row_far (by omega) _) Try.underlying32 rfl sz32 ?_)
        | ((with_reducible change wpList _ _ _ (Oper.mk none (Op.store 32 (Operand.tmp 12) _) _ _ _ _ :: _) _ _); refine wpList_store_row rfl 32 _ _ rfl (w4.heap.size) (wcl false (lb q)) rfl rfl 32 _ (((d12).row_far (by omega) _).row_far (by omega) _) sz32 rfl (wcl_all _ _) ?_)
        | ((with_reducible change wpList _ _ _ (Oper.mk (some 75) (Op.load 32 _) _ _ _ _ :: _) _ _); refine wpList_load_row rfl 32 _ rfl (w6.heap.size) rfl 32 _ _ _ ((((d15).row_far (by omega) _).row_far (by omega) _).row_far (by omega) _) Try.underlying32 rfl sz32 ?_)
        | ((with_reducible change wpList _ _ _ (Oper.mk none (Op.store 32 (Operand.tmp 9) _) _ _ _ _ :: _) _ _); refine wpList_store_row rfl 32 _ _ rfl (w1.heap.size) (wcl false (lb (asz (mz A p) p0))) rfl rfl 32 _ ((((d9).row_far (by omega) _).row_far (by omega) _).row_far (by omega) _) sz32 rfl (wcl_all _ _) ?_)
        | ((with_reducible change wpList _ _ _ (Oper.mk (some 76) (Op.load 32 _) _ _ _ _ :: _) _ _); refine wpList_load_row rfl 32 _ rfl (w7.heap.size) rfl 32 _ _ _ ((((((d17.row _)).row_far (by omega) _).row_far (by omega) _).row_far (by omega) _)) Try.underlying32 rfl sz32 ?_)
        | ((with_reducible change wpList _ _ _ (Oper.mk none (Op.store 32 (Operand.tmp 10) _) _ _ _ _ :: _) _ _); refine wpList_store_row rfl 32 _ _ rfl (w2.heap.size) (wcl false (lb (asz (mz A q) q0))) rfl rfl 32 _ (((((d10).row_far (by omega) _).row_far (by omega) _).row_far (by omega) _).row_far (by omega) _) sz32 rfl (wcl_all _ _) ?_))
      try go_frame
      go_wp2
      go_roundw
      case rel =>
        have hs := HS.out
        rw [if_pos (by rw [e1.out] at m3; rw [e2.out] at m4; simp [cfit, m1, m2, m3, m4])] at hs
        have e3 : asz (mz A p) p0 = A * p + p0 := by rw [← e1.out]; exact if_pos m3
        have e4 : asz (mz A q) q0 = A * q + q0 := by rw [← e2.out]; exact if_pos m4
        refine ⟨j + 1, asz (mz A p) p0, asz (mz A q) q0, p, q, by go_num, by omega, ⟨asz_lt _ _, asz_lt _ _, lp, lq⟩, ?_, ?_, (((((d6).row_far (by omega) _).row_far (by omega) _).row_far (by omega) _).row_far (by omega) _).row_far (by omega) _, (((((d7).row_far (by omega) _).row_far (by omega) _).row_far (by omega) _).row_far (by omega) _).row_far (by omega) _, (((((d9).row_far (by omega) _).row_far (by omega) _).row_far (by omega) _).row _).row_far (by omega) _, (((((d10).row_far (by omega) _).row_far (by omega) _).row_far (by omega) _).row_far (by omega) _).row _, (((((d11).row_far (by omega) _).row _).row_far (by omega) _).row_far (by omega) _).row_far (by omega) _, (((((d12).row_far (by omega) _).row_far (by omega) _).row _).row_far (by omega) _).row_far (by omega) _, below_row (below_row (below_row (below_row (below_row dB (by omega) _) (by omega) _) (by omega) _) (by omega) _) (by omega) _⟩
        · rw [e3, e4, show k + 1 - (j + 1) = k - j by omega]; exact hs
        · simp only [size_setRow]; omega
      case measure => simp [intOf] <;> omega
    · obtain rfl : j = k + 1 := by omega
      rw [Nat.sub_self, crun] at hs0
      have HS := Lib.hid hs0
      clear hs0 hjk hj
      go_wp2
      try go_frame
      refine wp_region_till (fun w' => Blk w' w1.heap.size 32 (wcl false (lb p)) ∧ Blk w' w2.heap.size 32 (wcl false (lb q))) 5 5 #[false, false, false, false, false] rfl rfl rfl ?_
      have hS := And.intro (d9.drewN 1) (d10.drewN 1)
      refine wpAnyT_take (i := 0) #[true, false, false, false, false] (by kernel_rfl) 77 rfl rfl (by kernel_rfl) (by kernel_rfl) (by kernel_rfl) (by kernel_rfl) (by kernel_rfl) (fun _ _ _ h => h) (yields_row 32 _ rfl rfl (w1.heap.size) rfl 32 _ _ (fun w h => h.1) Try.underlying32 rfl sz32) hS ?_
      try simp only [List.setIfInBounds_toArray, List.set_cons_zero, List.set_cons_succ]
      refine wpAnyT_take (i := 1) #[true, true, false, false, false] (by kernel_rfl) 78 rfl rfl (by kernel_rfl) (by kernel_rfl) (by kernel_rfl) (by kernel_rfl) (by kernel_rfl) (fun _ _ _ h => h) (yields_row 32 _ rfl rfl (w2.heap.size) rfl 32 _ _ (fun w h => h.2) Try.underlying32 rfl sz32) hS ?_
      try simp only [List.setIfInBounds_toArray, List.set_cons_zero, List.set_cons_succ]
      clear hS
      replace d6 := d6.drewN 1
      replace d7 := d7.drewN 1
      replace d9 := d9.drewN 1
      replace d10 := d10.drewN 1
      replace dB := below_drewN dB 1
      refine wpAnyT_store (i := 2) #[true, true, true, false, false] (by kernel_rfl) rfl (by kernel_rfl) rfl rfl 32 _ _ rfl w.heap.size (wcl false (lb p)) rfl rfl 32 _ d6 sz32 rfl (wcl_all _ _) ⟨fun _ => ⟨d9.row_far (by omega) _, d10.row_far (by omega) _⟩, ?_⟩
      replace d6 := d6.row (wcl false (lb p))
      replace d7 := d7.row_far (k := w.heap.size) (by omega) (wcl false (lb p))
      replace d9 := d9.row_far (k := w.heap.size) (by omega) (wcl false (lb p))
      replace d10 := d10.row_far (k := w.heap.size) (by omega) (wcl false (lb p))
      replace dB := below_row (g := w.heap.size) dB (by omega) (wcl false (lb p))
      refine wpAnyT_store (i := 3) #[true, true, true, true, false] (by kernel_rfl) rfl (by kernel_rfl) rfl rfl 32 _ _ rfl (w.heap.size + 1) (wcl false (lb q)) rfl rfl 32 _ d7 sz32 rfl (wcl_all _ _) ⟨fun _ => ⟨d9.row_far (by omega) _, d10.row_far (by omega) _⟩, ?_⟩
      replace d6 := d6.row_far (k := (w.heap.size + 1)) (by omega) (wcl false (lb q))
      replace d7 := d7.row (wcl false (lb q))
      replace d9 := d9.row_far (k := (w.heap.size + 1)) (by omega) (wcl false (lb q))
      replace d10 := d10.row_far (k := (w.heap.size + 1)) (by omega) (wcl false (lb q))
      replace dB := below_row (g := (w.heap.size + 1)) dB (by omega) (wcl false (lb q))
      refine wpAnyT_take (i := 4) #[true, true, true, true, true] (by kernel_rfl) 8 rfl rfl (by kernel_rfl) (by kernel_rfl) (by kernel_rfl) (by kernel_rfl) (by kernel_rfl) (fun _ _ _ h => h) (.inl ⟨rfl, fun _ _ => rfl⟩) ⟨d9, d10⟩ ?_
      try simp only [List.setIfInBounds_toArray, List.set_cons_zero, List.set_cons_succ]
      refine wpAnyT_done (by kernel_rfl) ?_ _
      go_wp2
      refine bodyPost_ret (v := cvalue R) ((res_row_row_tmp Try.results59 rfl d6 rfl d7 Try.underlying32 rfl sz32 Try.underlying32 rfl sz32).trans ?_) rfl ⟨rfl, dB⟩
      rw [← HS.out]; rfl
end Go.Proofs.Ytjgikfejfglllaa
