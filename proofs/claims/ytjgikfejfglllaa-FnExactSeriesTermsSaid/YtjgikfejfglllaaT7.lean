/- A size times a power of two: the program's. -/
import Derived.Test.YtjgikfejfglllaaT6
import Derived.Test.YtjgikfejfglllaaT2
set_option linter.unusedVariables false
set_option linter.unusedSimpArgs false
namespace Go.Proofs.Ytjgikfejfglllaa
open Go.RowKit


theorem u32_shl (x r : Nat) : IntKind.u32.wrap ((x : Int) * 2 ^ r) = ((shH x r : Nat) : Int) := by
  rw [show (x : Int) * 2 ^ r = ((x * 2 ^ r : Nat) : Int) by simp]
  simp [IntKind.wrap, IntKind.bits, IntKind.signed, shH]
theorem u32_shr (x r : Nat) : (x : Int) / 2 ^ (32 - r) = ((shL x r : Nat) : Int) := by
  unfold shL
  simp
theorem u32_join (x y r : Nat) (hr : r ≤ 32) (hy : y < 4294967296) : bits .or .u32 ((shH x r : Nat) : Int) ((shL y r : Nat) : Int) = ((shH x r + shL y r : Nat) : Int) := by
  rw [u32_or_nat _ _ (shH_lt x r) (by have := shL_lt hr hy; have := pow_le32 hr; omega), sh_or hr hy]
/-- The limbs from k on are laid. -/
def fromk (k : Nat) (f : Nat → Nat) : Nat → Nat := fun j => if k ≤ j then f j else 0
theorem fromk_at (k : Nat) (f : Nat → Nat) : fromk (k + 1) f k = 0 := if_neg (by omega)
theorem fromk_six (f : Nat → Nat) : cl (fromk 6 f) = cl fun _ => 0 := rfl
theorem fromk_step {w : World} {b t : Nat} {k v : Nat} {f : Nat → Nat} (h : Blk w b t (cl (fromk (k + 1) f))) (hk : k < 6) (hv : f k = v) : Blk (w.setCell ⟨b, k, none⟩ (.int .u32 v)) b t (cl (fromk k f)) := by
  refine h.step hk (by simp [fromk, hv]) fun j _ hj => ?_
  by_cases e : k ≤ j
  · simp [fromk, e, show k + 1 ≤ j by omega]
  · simp [fromk, e, show ¬ k + 1 ≤ j by omega]

theorem fromk_twice {w : World} {b t : Nat} {k u v : Nat} {f : Nat → Nat} (n : Nat) (h : Blk w b t (cl (fromk (k + 1) f))) (hk : k < 6) (hv : f k = v) : Blk (((w.setCell ⟨b, k, none⟩ (.int .u32 u)).drewN n).setCell ⟨b, k, none⟩ (.int .u32 v)) b t (cl (fromk k f)) := by
  have h1 := h.set_ k (.int .u32 u)
  rw [cl_set _ k u hk] at h1
  refine (h1.drewN n).step hk (by simp [fromk, hv]) fun j _ hj => ?_
  by_cases e : k ≤ j
  · simp [fromk, e, hj, show k + 1 ≤ j by omega]
  · simp [fromk, e, hj, show ¬ k + 1 ≤ j by omega]
set_option maxHeartbeats 1000000 in
theorem up_any (M b : Nat) (hb : b ≤ 191) (w : World) :
    Calls Try.prog 107 #[szv M, .int .i64 b] w fun e w' => e = .returned (szv (M * 2 ^ b)) ∧ Below w.heap.size w w' := by
  obtain ⟨L, r, hL, hr, hLr⟩ : ∃ L r, L ≤ 5 ∧ r ≤ 31 ∧ b = 32 * L + r := ⟨b / 32, b % 32, by omega, by omega, by omega⟩
  have e1 : (b : Int) / 32 = (L : Int) := by omega
  have e2 : (b : Int) % 32 = (r : Int) := by omega
  obtain ⟨R, hR⟩ : ∃ R, R = M * 2 ^ b := ⟨_, rfl⟩
  have g0 : ∀ k, k < L → lb R k = 0 := fun k hk => by rw [hR, hLr]; exact lb_up_low M L r k hk
  have g1 : lb R L = shH (lb M 0) r := by rw [hR, hLr]; exact lb_up_first M L r
  have g2 : ∀ i, lb R (L + (i + 1)) = shH (lb M (i + 1)) r + shL (lb M i) r := fun i => by rw [hR, hLr]; exact lb_up_next M L r i (by omega)
  rw [← hR]
  have G0 := Lib.hid g0
  have G1 := Lib.hid g1
  have G2 := Lib.hid g2
  clear g0 g1 g2 hR hLr
  unfold szv
  go_enter Try.func107, Try.ntmps107
  go_wp2
  rw [e2]
  have K2 := Lib.hid e2
  have K1 := Lib.hid e1
  clear e1 e2
  go_loopw [8] (fun i wr => ∃ k : Nat, L ≤ k ∧ k ≤ 6 ∧ i = .int .i64 ((k : Int) - 1) ∧ Blk wr w.heap.size 136 (cl (lb M)) ∧ Blk wr (w.heap.size + 1) 136 (cl fun _ => 0) ∧ Blk wr (w.heap.size + 1 + 1) 136 (cl (fromk k (lb R))) ∧ Below w.heap.size w wr)
    (fun i _ => (intOf i + 1).toNat)
  case atStart =>
    refine ⟨6, by omega, by omega, rfl, ?_, ?_, ?_, ?_⟩
    · exact ((Blk.newAt rfl 136 (cl (lb M))).alloc _).alloc _
    · exact (Blk.newAt (by simp) 136 (cl fun _ => 0)).alloc _
    · exact Blk.newAt (by simp) 136 (cl fun _ => 0)
    · exact below_alloc (below_alloc (below_alloc (Below.refl _ _) _) _) _
  case round =>
    obtain ⟨k, hk1, hk, rfl, hA, hR, hO, hb⟩ := hrel
    by_cases h0 : L < k
    · obtain ⟨K, rfl⟩ : ∃ K, k = K + 1 := ⟨k - 1, by omega⟩
      rw [show (((K + 1 : Nat) : Int) - 1) = (K : Int) by omega]
      have hK : K < 6 := by omega
      have fO := hO.frozen K
      have cO := hO.at_ hK
      rw [fromk_at] at cO
      by_cases h1 : L < K
      · obtain ⟨i, hi⟩ : ∃ i, K = L + (i + 1) := ⟨K - L - 1, by omega⟩
        obtain ⟨J, hJ⟩ : ∃ J, J = i + 1 := ⟨_, rfl⟩
        have e3 : (K : Int) - (L : Int) = (J : Int) := by omega
        have e4 : (J : Int) - 1 = (i : Int) := by omega
        have cA := hA.at_ (show J < 6 by omega)
        have cB := hA.at_ (show i < 6 by omega)
        have hx := lb_le M J
        have hy := lb_le M i
        have es := u32_shl (lb M J) r
        have es2 := u32_shr (lb M i) r
        have hv : lb R K = shH (lb M J) r + shL (lb M i) r := by rw [hi, hJ]; exact G2.out i
        obtain ⟨s, hs⟩ : ∃ s, s = 32 - r := ⟨_, rfl⟩
        rw [← hs] at es2
        have e5 : (32 : Int) - (r : Int) = (s : Int) := by omega
        have eo := u32_join (lb M J) (lb M i) r (by omega) (by omega)
        rw [← hv] at eo
        have HV := Lib.hid hv
        have HI := Lib.hid hi
        clear hv hi hJ hs
        by_cases hr0 : 0 < r
        · go_wp2
          go_region
          go_wp2
          all_goals try go_roundw
          case rel => exact ⟨K, by omega, by omega, rfl, ((hA.far (by simp <;> omega) _).drewN 1).far (by simp <;> omega) _, ((hR.far (by simp <;> omega) _).drewN 1).far (by simp <;> omega) _, fromk_twice 1 hO hK rfl, below_set (below_drewN (below_set hb (by simp <;> omega) _) 1) (by simp <;> omega) _⟩
          case measure => simp [intOf] <;> omega
        · obtain rfl : r = 0 := by omega
          have hz : shH (lb M J) 0 = lb R K := by rw [HV.out, shL_zero (by omega), Nat.add_zero]
          rw [hz] at es
          clear hz es2 eo e5
          go_wp2
          go_roundw
          case rel => exact ⟨K, by omega, by omega, rfl, hA.far (by simp <;> omega) _, hR.far (by simp <;> omega) _, fromk_step hO hK (by rw [HV.out, shL_zero (by omega), Nat.add_zero, shH_zero (by omega)]), below_set hb (by simp <;> omega) _⟩
          case measure => simp [intOf] <;> omega
      · obtain rfl : K = L := by omega
        have cA := hA.at_ (show 0 < 6 by omega)
        have hx := lb_le M 0
        have es := u32_shl (lb M 0) r
        rw [← G1.out] at es
        go_wp2
        all_goals go_roundw
        case rel => exact ⟨K, by omega, by omega, rfl, hA.far (by simp <;> omega) _, hR.far (by simp <;> omega) _, fromk_step hO hK rfl, below_set hb (by simp <;> omega) _⟩
        case measure => simp [intOf] <;> omega
        case rel => exact ⟨K, by omega, by omega, rfl, hA.far (by simp <;> omega) _, hR.far (by simp <;> omega) _, fromk_step hO hK rfl, below_set hb (by simp <;> omega) _⟩
        case measure => simp [intOf] <;> omega
    · obtain rfl : k = L := by omega
      have hO' : Blk wr (w.heap.size + 1 + 1) 136 (cl (lb R)) := by
        rw [show cl (lb R) = cl (fromk k (lb R)) from cl_congr fun j _ => ?_]
        · exact hO
        · by_cases e : k ≤ j
          · simp [fromk, e]
          · simp [fromk, e, G0.out j (by omega)]
      obtain ⟨c0, c1, c2, c3, c4, c5⟩ := hO'.six
      obtain ⟨f0, f1, f2, f3, f4, f5, f6⟩ := hR.froz
      obtain ⟨d0, d1, d2, d3, d4, d5⟩ := hR.six
      go_wp2
      refine bodyPost_ret (v := szv R) ?_ rfl ⟨rfl, below_put6 hb (by omega) _ _ _ _ _ _⟩
      rw [res_row Try.results107 rfl (hR.put6 rfl _ _ _ _ _ _) Try.underlying136 rfl sz136]
      simp [szv, cl]
end Go.Proofs.Ytjgikfejfglllaa
