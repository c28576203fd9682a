/- The reference's product of wide integers. -/
import Derived.Test.YtjgikfejfglllaaNum2
import Derived.Test.YtjgikfejfglllaaNz
import Derived.Test.YtjgikfejfglllaaW1
set_option linter.unusedVariables false
set_option linter.unusedSimpArgs false
namespace Go.Proofs.Ytjgikfejfglllaa
open Go.RowKit


theorem Blk.wat {w : World} {g t : Nat} {n : Bool} {f : Nat → Nat} (h : Blk w g t (wcl n f)) {k : Nat} (hk : k < 6) : w.cell? ⟨g, 1 + k, none⟩ = some (.int .u32 (f k)) := by
  rw [h.cell]
  match k, hk with
  | 0, _ | 1, _ | 2, _ | 3, _ | 4, _ | 5, _ => rfl
theorem u64_step2 (a b o c : Nat) (ha : a ≤ 4294967295) (hb : b ≤ 4294967295) (ho : o ≤ 4294967295) (hc : c ≤ 4294967295) :
    IntKind.u64.wrap (IntKind.u64.wrap (IntKind.u64.wrap ((a : Int) * b) + o) + c) = ((a * b + o + c : Nat) : Int) := by
  have h := u64_step a b o c ha hb ho hc
  rw [← h, Int.add_comm]

set_option maxHeartbeats 2000000 in
set_option maxRecDepth 100000 in
theorem refMul_any (n1 n2 : Bool) (M N : Nat) (hM : M < pw 6) (hN : N < pw 6) (w : World) :
    Calls Try.prog 70 #[wdv n1 M, wdv n2 N] w fun e w' => e = .returned (if M * N < pw 6 then .tuple #[wdv (sg (n1 != n2) (M * N)) (M * N), .int .i64 0] else .tuple #[wdv false 0, .int .i64 3]) ∧ Below w.heap.size w w' := by
  unfold wdv wcl
  go_enter Try.func70, Try.ntmps70
  go_wp2
  go_loopw [7] (fun i wr => ∃ k : Nat, k ≤ 6 ∧ i = .int .i64 k ∧ Blk wr w.heap.size 32 (wcl n1 (lb M)) ∧ Blk wr (w.heap.size + 1) 32 (wcl n2 (lb N)) ∧ Blk wr (w.heap.size + 1 + 1) 32 (wcl false fun _ => 0) ∧ Blk wr (w.heap.size + 1 + 1 + 1) 144 (c12 (lb (M % pw k * N))) ∧ Below w.heap.size w wr)
    (fun i _ => 6 - (intOf i).toNat)
  case atStart =>
    refine ⟨0, by omega, rfl, ?_, ?_, ?_, ?_, ?_⟩
    · exact (((Blk.newAt (by simp) 32 (wcl n1 (lb M))).alloc _).alloc _).alloc _
    · exact ((Blk.newAt (by simp) 32 (wcl n2 (lb N))).alloc _).alloc _
    · exact (Blk.newAt (by simp) 32 (wcl false fun _ => 0)).alloc _
    · have e : c12 (lb (M % pw 0 * N)) = c12 (fun _ => 0) := c12_congr fun k _ => by rw [pw_zero, Nat.mod_one, Nat.zero_mul, lb_zero]
      rw [e]
      exact Blk.newAt (by simp) 144 (c12 fun _ => 0)
    · exact below_alloc (below_alloc (below_alloc (below_alloc (Below.refl _ _) _) _) _) _
  case round =>
    obtain ⟨i, hi, rfl, hA, hN1, hB, hO, hb⟩ := hrel
    by_cases hlt : i < 6
    · go_wp2
      obtain ⟨wo, rfl⟩ : ∃ wo : World, wo = wr := ⟨_, rfl⟩
      go_loopw [8, 9] (fun c j wr => ∃ k : Nat, k ≤ 6 ∧ j = .int .i64 k ∧ c = .int .u64 (mc (M % pw i * N) (lb M i) N i k) ∧ Blk wr w.heap.size 32 (wcl n1 (lb M)) ∧ Blk wr (w.heap.size + 1) 32 (wcl n2 (lb N)) ∧ Blk wr (w.heap.size + 1 + 1) 32 (wcl false fun _ => 0) ∧ Blk wr (w.heap.size + 1 + 1 + 1) 144 (c12 (upto (i + k) (lb (M % pw (i + 1) * N)) (lb (M % pw i * N)))) ∧ Below w.heap.size w wr)
        (fun _ j _ => 6 - (intOf j).toNat)
      case atStart =>
        refine ⟨0, by omega, rfl, by rw [mc_zero]; rfl, hA, hN1, hB, ?_, hb⟩
        have e : c12 (upto (i + 0) (lb (M % pw (i + 1) * N)) (lb (M % pw i * N))) = c12 (lb (M % pw i * N)) := c12_congr fun j _ => by
          unfold upto
          split
          · rw [← mod_row, lb_low _ _ _ (by omega)]
          · rfl
        rw [e]
        exact hO
      case round =>
        obtain ⟨k, hk, rfl, rfl, hA1, hM1, hB1, hO1, hb1⟩ := hrel
        by_cases hlk : k < 6
        · have hik : i + k < 12 := by omega
          have cA := hA1.wat hlt
          have cN := hM1.wat hlk
          have cO := hO1.at12 hik
          rw [upto_at] at cO
          have fO := hO1.frozen (i + k)
          have hx := lb_le M i
          have hy := lb_le N k
          have ho := lb_le (M % pw i * N) (i + k)
          have HS := Lib.hid (u64_step2 _ _ _ _ hx hy ho (mc_le (M % pw i * N) (lb M i) N i k hx))
          have HC := Lib.hid (mc_succ (M % pw i * N) (lb M i) N i k)
          have HL := Lib.hid (lb_row (M % pw i * N) (lb M i) N i k hlk)
          go_wp2
          go_quiet (fail)
          go_wp2
          go_roundw
          case rel =>
            rw [HS.out]
            refine ⟨k + 1, by omega, by go_num, ?_, ?_, ?_, ?_, ?_, ?_⟩
            · rw [HC.out]; rfl
            · exact (hA1.drewN _).far (by simp <;> omega) _
            · exact (hM1.drewN _).far (by simp <;> omega) _
            · exact (hB1.drewN _).far (by simp <;> omega) _
            · have e := HL.out
              rw [mod_row] at e
              refine (hO1.drewN _).step12 hik (by simp only [upto]; rw [if_pos (by omega), e]; rfl) fun j hj hne => ?_
              by_cases g : j < i + k
              · simp [upto, g, show j < i + (k + 1) by omega]
              · simp [upto, g, show ¬ j < i + (k + 1) by omega]
            · exact below_set (below_drewN hb1 _) (by simp <;> omega) _
          case measure => simp [intOf] <;> omega
        · obtain rfl : k = 6 := by omega
          have hi6 : i + 6 < 12 := by omega
          have cO := hO1.at12 hi6
          have fO := hO1.frozen (i + 6)
          have hm := mc_le (M % pw i * N) (lb M i) N i 6 (lb_le M i)
          clear hk hlk
          go_wp2
          go_roundw
          case rel =>
            refine ⟨i + 1, by omega, by go_num, ?_, ?_, ?_, ?_, ?_⟩
            · exact hA1.far (by simp <;> omega) _
            · exact hM1.far (by simp <;> omega) _
            · exact hB1.far (by simp <;> omega) _
            · refine hO1.step12 hi6 (mc_last M N i hN) fun j hj hne => ?_
              by_cases g : j < i + 6
              · simp [upto, g]
              · simp only [upto, if_neg g]
                rw [lb_ge (Nat.lt_of_lt_of_le (row_lt M N (i + 1) hN) (pw_mono (by omega))), lb_ge (Nat.lt_of_lt_of_le (row_lt M N i hN) (pw_mono (by omega)))]
            · exact below_set hb1 (by simp <;> omega) _
          case measure => simp [intOf] <;> omega
    · obtain rfl : i = 6 := by omega
      rw [Nat.mod_eq_of_lt hM] at hO
      clear hi hlt
      go_wp2
      have z0 : w.heap.size < wr.heap.size := hA.lt
      have z1 : w.heap.size + 1 < wr.heap.size := hN1.lt
      have z2 : w.heap.size + 1 + 1 < wr.heap.size := hB.lt
      have z3 : w.heap.size + 1 + 1 + 1 < wr.heap.size := hO.lt
      obtain ⟨wo, rfl⟩ : ∃ wo : World, wo = wr := ⟨_, rfl⟩
      go_loopw [12] (fun j w2 => ∃ k : Nat, k ≤ 6 ∧ j = .int .i64 k ∧ (∀ t, t < k → lb (M * N) (6 + t) = 0) ∧ Blk w2 w.heap.size 32 (wcl n1 (lb M)) ∧ Blk w2 (w.heap.size + 1) 32 (wcl n2 (lb N)) ∧ Blk w2 (w.heap.size + 1 + 1) 32 (wcl false fun _ => 0) ∧ Blk w2 (w.heap.size + 1 + 1 + 1) 144 (c12 (lb (M * N))) ∧ Blk w2 wo.heap.size 147 (cl (upto k (lb (M * N)) fun _ => 0)) ∧ Below w.heap.size w w2)
        (fun j _ => 6 - (intOf j).toNat)
      case atStart =>
        refine ⟨0, by omega, rfl, fun t ht => by omega, hA.alloc _, hN1.alloc _, hB.alloc _, hO.alloc _, ?_, below_alloc hb _⟩
        rw [upto_zero]
        exact Blk.newAt rfl 147 (cl fun _ => 0)
      case round =>
        obtain ⟨k, hk, rfl, hall, hA1, hM1, hB1, hO1, hD1, hb1⟩ := hrel
        have HA := Lib.hid hall
        clear hall
        by_cases hlt : k < 6
        · have cO := hO1.at12 (show k < 12 by omega)
          have cP := hO1.at12 (show k + 6 < 12 by omega)
          have cD := hD1.at_ hlt
          have fD := hD1.frozen k
          by_cases z : lb (M * N) (k + 6) = 0
          · rw [z] at cP
            have HN := Lib.hid z
            clear z
            go_wp2
            go_roundw
            case rel =>
              refine ⟨k + 1, by omega, by go_num, fun t ht => ?_, hA1.far (by simp <;> omega) _, hM1.far (by simp <;> omega) _, hB1.far (by simp <;> omega) _, hO1.far (by simp <;> omega) _, upto_step hD1 hlt rfl, below_set hb1 (by simp <;> omega) _⟩
              by_cases e : t = k
              · rw [e, Nat.add_comm]; exact HN.out
              · exact HA.out t (by omega)
            case measure => simp [intOf] <;> omega
          · have hbig : ¬ M * N < pw 6 := fun h => z (lb_ge (Nat.lt_of_lt_of_le h (pw_mono (by omega))))
            have b1 : (((lb (M * N) (k + 6) : Nat) : Int) != 0) = true := bne_iff_ne.2 (by omega)
            have hB2 := hB1.far (p := ⟨wo.heap.size, k, none⟩) (by simp <;> omega) (.int .u32 (lb (M * N) k))
            have HBIG := Lib.hid hbig
            clear z hbig
            go_wp2_with (refine wpList_store_row rfl 32 _ _ rfl (w.heap.size + 1 + 1) (wcl false fun _ => 0) rfl rfl 32 _ hB2 sz32 rfl (wcl_all _ _) ?_)
            have hbig := HBIG.out
            refine bodyPost_ret (v := .tuple #[wdv false 0, .int .i64 3]) ((res_row_tmp Try.results70 rfl (hB2.row (wcl false fun _ => 0)) Try.underlying32 rfl sz32).trans ?_) rfl ⟨by simp [wdv, wcl, hbig], below_row (below_set hb1 (by simp <;> omega) _) (by omega) _⟩
            simp [wdv, wcl, lb_zero]
        · obtain rfl : k = 6 := by omega
          have hsm : M * N < pw 6 := lt_of_high (M * N) 6 6 (mul_lt_pw hM hN) HA.out
          have HSM := Lib.hid hsm
          rw [upto_six] at hD1
          obtain ⟨c0, c1, c2, c3, c4, c5⟩ := hD1.six
          obtain ⟨a0, a1, a2, a3, a4, a5, a6⟩ := hA1.seven
          obtain ⟨b0, b1, b2, b3, b4, b5, b6⟩ := hM1.seven
          clear hsm hk hlt
          go_wp2_with fail
          refine (calls_args (args' := #[.bool (n1 != n2), szv (M * N)]) rfl (made_sg _ _ HSM.out _)).mono ?_
          rintro e w3 ⟨rfl, hb3⟩
          have hR := hB1.later hb3
          go_wp2_with (refine wpList_store_row rfl 32 _ _ rfl (w.heap.size + 1 + 1) _ rfl rfl 32 _ hR sz32 rfl (wcl_all _ _) ?_)
          have hsm := HSM.out
          refine bodyPost_ret (v := .tuple #[wdv (sg (n1 != n2) (M * N)) (M * N), .int .i64 0]) (res_row_tmp Try.results70 rfl (hR.row _) Try.underlying32 rfl sz32) rfl ⟨by simp [wdv, wcl, hsm], below_row (below_then hb1 hb3) (by omega) _⟩
end Go.Proofs.Ytjgikfejfglllaa
