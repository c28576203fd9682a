/- The product of sizes. -/
import Derived.Test.YtjgikfejfglllaaNum2
import Derived.Test.YtjgikfejfglllaaW1
set_option linter.unusedVariables false
set_option linter.unusedSimpArgs false
namespace Go.Proofs.Ytjgikfejfglllaa
open Go.RowKit


theorem idx136_0 (x0 x1 x2 x3 x4 x5 : Int) (w : World) : (Instr.index 136 (.agg #[.int .u32 x0, .int .u32 x1, .int .u32 x2, .int .u32 x3, .int .u32 x4, .int .u32 x5]) (.int .i64 0)).run Try.prog w = .ok (.int .u32 x0) w := by kernel_rfl
theorem idx136_1 (x0 x1 x2 x3 x4 x5 : Int) (w : World) : (Instr.index 136 (.agg #[.int .u32 x0, .int .u32 x1, .int .u32 x2, .int .u32 x3, .int .u32 x4, .int .u32 x5]) (.int .i64 1)).run Try.prog w = .ok (.int .u32 x1) w := by kernel_rfl
theorem idx136_2 (x0 x1 x2 x3 x4 x5 : Int) (w : World) : (Instr.index 136 (.agg #[.int .u32 x0, .int .u32 x1, .int .u32 x2, .int .u32 x3, .int .u32 x4, .int .u32 x5]) (.int .i64 2)).run Try.prog w = .ok (.int .u32 x2) w := by kernel_rfl
theorem idx136_3 (x0 x1 x2 x3 x4 x5 : Int) (w : World) : (Instr.index 136 (.agg #[.int .u32 x0, .int .u32 x1, .int .u32 x2, .int .u32 x3, .int .u32 x4, .int .u32 x5]) (.int .i64 3)).run Try.prog w = .ok (.int .u32 x3) w := by kernel_rfl
theorem idx136_4 (x0 x1 x2 x3 x4 x5 : Int) (w : World) : (Instr.index 136 (.agg #[.int .u32 x0, .int .u32 x1, .int .u32 x2, .int .u32 x3, .int .u32 x4, .int .u32 x5]) (.int .i64 4)).run Try.prog w = .ok (.int .u32 x4) w := by kernel_rfl
theorem idx136_5 (x0 x1 x2 x3 x4 x5 : Int) (w : World) : (Instr.index 136 (.agg #[.int .u32 x0, .int .u32 x1, .int .u32 x2, .int .u32 x3, .int .u32 x4, .int .u32 x5]) (.int .i64 5)).run Try.prog w = .ok (.int .u32 x5) w := by kernel_rfl
theorem idx136 (f : Nat → Nat) (k : Nat) (hk : k < 6) (w : World) : (Instr.index 136 (.agg #[.int .u32 (f 0), .int .u32 (f 1), .int .u32 (f 2), .int .u32 (f 3), .int .u32 (f 4), .int .u32 (f 5)]) (.int .i64 k)).run Try.prog w = .ok (.int .u32 (f k)) w := by
  match k, hk with
  | 0, _ => exact idx136_0 _ _ _ _ _ _ w
  | 1, _ => exact idx136_1 _ _ _ _ _ _ w
  | 2, _ => exact idx136_2 _ _ _ _ _ _ w
  | 3, _ => exact idx136_3 _ _ _ _ _ _ w
  | 4, _ => exact idx136_4 _ _ _ _ _ _ w
  | 5, _ => exact idx136_5 _ _ _ _ _ _ w

theorem arr136 (g : Nat) (w : World) : (Instr.arrayAt 136 (.slice (some ⟨g, 0, none⟩) 6 12)).run Try.prog w = .ok (.pointer (some ⟨g, 0, none⟩)) w := by kernel_rfl
set_option maxHeartbeats 1000000 in
set_option maxRecDepth 100000 in
theorem times_any (M N : Nat) (hM : M < pw 6) (hN : N < pw 6) (w : World) :
    Calls Try.prog 108 #[szv M, szv N] w fun e w' => e = .returned (.tuple #[szv (if M * N < pw 6 then M * N else 0), .bool (decide (¬ M * N < pw 6))]) ∧ Below w.heap.size w w' := by
  unfold szv cl
  go_enter Try.func108, Try.ntmps108
  go_wp2
  go_loopw [15] (fun i wr => ∃ k : Nat, k ≤ 6 ∧ i = .int .i64 k ∧ Blk wr (w.heap.size + 1) 136 (cl (lb N)) ∧ Blk wr (w.heap.size + 1 + 1) 136 (cl fun _ => 0) ∧ Blk wr (w.heap.size + 1 + 1 + 1) 144 (c12 (lb (M % pw k * N))) ∧ Below w.heap.size w wr)
    (fun i _ => 6 - (intOf i).toNat)
  case atStart =>
    refine ⟨0, by omega, rfl, ?_, ?_, ?_, ?_⟩
    · exact ((Blk.newAt (by simp) 136 (cl (lb N))).alloc _).alloc _
    · exact (Blk.newAt (by simp) 136 (cl fun _ => 0)).alloc _
    · have e : c12 (lb (M % pw 0 * N)) = c12 (fun _ => 0) := c12_congr fun k _ => by rw [pw_zero, Nat.mod_one, Nat.zero_mul, lb_zero]
      rw [e]
      exact Blk.newAt (by simp) 144 (c12 fun _ => 0)
    · exact below_alloc (below_alloc (below_alloc (below_alloc (Below.refl _ _) _) _) _) _
  case round =>
    obtain ⟨i, hi, rfl, hA, hB, hO, hb⟩ := hrel
    by_cases hlt : i < 6
    · obtain ⟨c0, c1, c2, c3, c4, c5⟩ := hA.six
      have ix := idx136 (lb M) i hlt
      go_wp2
      obtain ⟨wo, rfl⟩ : ∃ wo : World, wo = wr := ⟨_, rfl⟩
      clear c0 c1 c2 c3 c4 c5 ix
      go_loopw [9, 20] (fun c j wr => ∃ k : Nat, k ≤ 6 ∧ j = .int .i64 k ∧ c = .int .u64 (mc (M % pw i * N) (lb M i) N i k) ∧ Blk wr (w.heap.size + 1) 136 (cl (lb N)) ∧ Blk wr (w.heap.size + 1 + 1) 136 (cl fun _ => 0) ∧ Blk wr (w.heap.size + 1 + 1 + 1) 144 (c12 (upto (i + k) (lb (M % pw (i + 1) * N)) (lb (M % pw i * N)))) ∧ Below w.heap.size w wr)
        (fun _ j _ => 6 - (intOf j).toNat)
      case atStart =>
        refine ⟨0, by omega, rfl, by rw [mc_zero]; rfl, hA, hB, ?_, hb⟩
        have e : c12 (upto (i + 0) (lb (M % pw (i + 1) * N)) (lb (M % pw i * N))) = c12 (lb (M % pw i * N)) := c12_congr fun j _ => by
          unfold upto
          split
          · rw [← mod_row, lb_low _ _ _ (by omega)]
          · rfl
        rw [e]
        exact hO
      case round =>
        obtain ⟨k, hk, rfl, rfl, hA1, hB1, hO1, hb1⟩ := hrel
        by_cases hlk : k < 6
        · have ix := idx136 (lb N) k hlk
          have hik : i + k < 12 := by omega
          have cO := hO1.at12 hik
          rw [upto_at] at cO
          have fO := hO1.frozen (i + k)
          have hx := lb_le M i
          have hy := lb_le N k
          have ho := lb_le (M % pw i * N) (i + k)
          have HS := Lib.hid (u64_step _ _ _ _ hx hy ho (mc_le (M % pw i * N) (lb M i) N i k hx))
          have HC := Lib.hid (mc_succ (M % pw i * N) (lb M i) N i k)
          have HL := Lib.hid (lb_row (M % pw i * N) (lb M i) N i k hlk)
          go_wp2
          go_roundw
          case rel =>
            rw [HS.out]
            refine ⟨k + 1, by omega, by go_num, ?_, ?_, ?_, ?_, ?_⟩
            · rw [HC.out]; rfl
            · exact hA1.far (by simp <;> omega) _
            · exact hB1.far (by simp <;> omega) _
            · have e := HL.out
              rw [mod_row] at e
              refine hO1.step12 hik (by simp only [upto]; rw [if_pos (by omega), e]; rfl) fun j hj hne => ?_
              by_cases g : j < i + k
              · simp [upto, g, show j < i + (k + 1) by omega]
              · simp [upto, g, show ¬ j < i + (k + 1) by omega]
            · exact below_set hb1 (by simp <;> omega) _
          case measure => simp [intOf] <;> omega
        · obtain rfl : k = 6 := by omega
          have hi6 : i + 6 < 12 := by omega
          have cO := hO1.at12 hi6
          have fO := hO1.frozen (i + 6)
          have hm := mc_le (M % pw i * N) (lb M i) N i 6 (lb_le M i)
          clear hk hlk
          go_wp2
          go_roundw
          case rel =>
            refine ⟨i + 1, by omega, by go_num, ?_, ?_, ?_, ?_⟩
            · exact hA1.far (by simp <;> omega) _
            · exact hB1.far (by simp <;> omega) _
            · refine hO1.step12 hi6 (mc_last M N i hN) fun j hj hne => ?_
              by_cases g : j < i + 6
              · simp [upto, g]
              · simp only [upto, if_neg g]
                rw [lb_ge (Nat.lt_of_lt_of_le (row_lt M N (i + 1) hN) (pw_mono (by omega))), lb_ge (Nat.lt_of_lt_of_le (row_lt M N i hN) (pw_mono (by omega)))]
            · exact below_set hb1 (by simp <;> omega) _
          case measure => simp [intOf] <;> omega
    · obtain rfl : i = 6 := by omega
      rw [Nat.mod_eq_of_lt hM] at hO
      clear hi hlt
      go_wp2
      go_loopw [55] (fun j wr => ∃ k : Nat, k ≤ 6 ∧ j = .int .i64 k ∧ (∀ t, t < k → lb (M * N) (6 + t) = 0) ∧ Blk wr (w.heap.size + 1 + 1) 136 (cl fun _ => 0) ∧ Blk wr (w.heap.size + 1 + 1 + 1) 144 (c12 (lb (M * N))) ∧ Below w.heap.size w wr)
        (fun j _ => 6 - (intOf j).toNat)
      case atStart => exact ⟨0, by omega, rfl, fun t ht => by omega, hB, hO, hb⟩
      case round =>
        obtain ⟨k, hk, rfl, hall, hB1, hO1, hb1⟩ := hrel
        have HA := Lib.hid hall
        clear hall
        by_cases hlt : k < 6
        · have cO := hO1.at12 (show 6 + k < 12 by omega)
          by_cases z : lb (M * N) (6 + k) = 0
          · rw [z] at cO
            have HN := Lib.hid z
            clear z
            go_wp2
            go_roundw
            case rel =>
              refine ⟨k + 1, by omega, by go_num, fun t ht => ?_, hB1, hO1, hb1⟩
              by_cases e : t = k
              · rw [e]; exact HN.out
              · exact HA.out t (by omega)
            case measure => simp [intOf] <;> omega
          · have hbig : ¬ M * N < pw 6 := fun h => z (lb_ge (Nat.lt_of_lt_of_le h (pw_mono (by omega))))
            have b1 : (((lb (M * N) (6 + k) : Nat) : Int) != 0) = true := bne_iff_ne.2 (by omega)
            obtain ⟨f0, f1, f2, f3, f4, f5, f6⟩ := hB1.froz
            obtain ⟨d0, d1, d2, d3, d4, d5⟩ := hB1.six
            have HBIG := Lib.hid hbig
            clear z hbig
            go_wp2
            have hbig := HBIG.out
            refine bodyPost_ret (v := .tuple #[szv 0, .bool true]) ?_ rfl ⟨by simp [szv, cl], below_put6 hb1 (by omega) _ _ _ _ _ _⟩
            rw [res_row_tmp Try.results108 rfl (hB1.put6 rfl _ _ _ _ _ _) Try.underlying136 rfl sz136]
            simp [szv, cl, lb_zero]
        · obtain rfl : k = 6 := by omega
          have hsm : M * N < pw 6 := lt_of_high (M * N) 6 6 (mul_lt_pw hM hN) HA.out
          have HSM := Lib.hid hsm
          obtain ⟨f0, f1, f2, f3, f4, f5, f6⟩ := hB1.froz
          obtain ⟨d0, d1, d2, d3, d4, d5⟩ := hB1.six
          have c0 := hO1.at12 (show 0 < 12 by omega)
          have c1 := hO1.at12 (show 1 < 12 by omega)
          have c2 := hO1.at12 (show 2 < 12 by omega)
          have c3 := hO1.at12 (show 3 < 12 by omega)
          have c4 := hO1.at12 (show 4 < 12 by omega)
          have c5 := hO1.at12 (show 5 < 12 by omega)
          clear hsm hk hlt
          have ha := arr136 (w.heap.size + 1 + 1 + 1)
          go_wp2
          have hsm := HSM.out
          refine bodyPost_ret (v := .tuple #[szv (M * N), .bool false]) ?_ rfl ⟨by simp [szv, cl, hsm], below_put6 hb1 (by omega) _ _ _ _ _ _⟩
          rw [res_row_tmp Try.results108 rfl (hB1.put6 rfl _ _ _ _ _ _) Try.underlying136 rfl sz136]
          simp [szv, cl]
end Go.Proofs.Ytjgikfejfglllaa
