/- A size times a power of two: the reference's. -/
import Derived.Test.YtjgikfejfglllaaT8
set_option linter.unusedVariables false
set_option linter.unusedSimpArgs false
namespace Go.Proofs.Ytjgikfejfglllaa
open Go.RowKit


/-- What stands in the limbs behind k rounds. -/
def upf (M R L r k : Nat) : Nat → Nat := fun j => if j < L + k then lb R j else if j = L + k ∧ 0 < k then shL (lb M (k - 1)) r else 0
theorem u64_shl (x r : Nat) (hx : x < 4294967296) (hr : r ≤ 32) : IntKind.u64.wrap ((x : Int) * 2 ^ r) = ((x * 2 ^ r : Nat) : Int) := by
  rw [show (x : Int) * 2 ^ r = ((x * 2 ^ r : Nat) : Int) by simp]
  have h1 := pow_le32 hr
  have h2 : x * 2 ^ r ≤ 4294967295 * 4294967296 := Nat.mul_le_mul (by omega) h1
  have e : ∀ x : Int, IntKind.u64.wrap x = x % 18446744073709551616 := fun x => by simp [IntKind.wrap, IntKind.bits, IntKind.signed]
  rw [e]
  omega
theorem sh_whole (x r : Nat) (hr : r ≤ 32) : x * 2 ^ r / 4294967296 = shL x r := by
  unfold shL
  rw [← p32 hr, Nat.mul_div_mul_right _ _ (Nat.two_pow_pos r)]
theorem cl_put {f f' : Nat → Nat} {w : World} {b t k v : Nat} (h : Blk w b t (cl f)) (hk : k < 6) (h2 : ∀ j, j < 6 → f' j = if j = k then v else f j) : Blk (w.setCell ⟨b, k, none⟩ (.int .u32 v)) b t (cl f') :=
  h.step hk (by rw [h2 k hk, if_pos rfl]) fun j hj hne => by rw [h2 j hj, if_neg hne]

set_option maxHeartbeats 1000000 in
theorem upMag_over (g : Nat) (M b : Nat) (hM : M < pw 6) (hb : b ≤ 191) (ho : 192 < nb M + b) (w : World) (hG : Blk w g 147 (cl (lb M))) :
    Calls Try.prog 139 #[.pointer (some ⟨g, 0, none⟩), .int .i64 b] w fun e w' => e = .returned (.tuple #[szv 0, .bool false]) ∧ Below w.heap.size w w' := by
  have h1 := nb_size hM
  have hz : M ≠ 0 := by
    intro h
    subst h
    rw [nb_zero] at ho
    omega
  have hd : decide (M = 0) = false := decide_eq_false hz
  have hZ := hG.alloc (.cells #[.int .u32 0, .int .u32 0, .int .u32 0, .int .u32 0, .int .u32 0, .int .u32 0] 147)
  have hzr := zero_ref g M hM _ hZ
  rw [hd] at hzr
  clear hd
  have hR : Blk (w.alloc (.cells (cl fun _ => 0) 147)) w.heap.size 147 (cl fun _ => 0) := Blk.new _ _ _
  go_enter Try.func139, Try.ntmps139
  go_wp2_with (first
    | (go_at_call 161; refine (refBits_any g M hM _ hZ).mono ?_; rintro e w1 ⟨rfl, rfl⟩)
    | (go_at_call 141; refine hzr.mono ?_; rintro e w1 ⟨rfl, rfl⟩))
  refine bodyPost_ret (v := .tuple #[szv 0, .bool false]) (by simp [results, Try.results139, go_sem, szv, cl, lb_zero]) rfl ⟨rfl, ?_⟩
  exact below_alloc (Below.refl _ _) _
set_option maxHeartbeats 1000000 in
theorem upMag_fits (g : Nat) (M b : Nat) (hM : M < pw 6) (hb : b ≤ 191) (ho : nb M + b ≤ 192) (w : World) (hG : Blk w g 147 (cl (lb M))) :
    Calls Try.prog 139 #[.pointer (some ⟨g, 0, none⟩), .int .i64 b] w fun e w' => e = .returned (.tuple #[szv (M * 2 ^ b), .bool true]) ∧ Below w.heap.size w w' := by
  obtain ⟨L, r, hL, hr, hLr⟩ : ∃ L r, L ≤ 5 ∧ r ≤ 31 ∧ b = 32 * L + r := ⟨b / 32, b % 32, by omega, by omega, by omega⟩
  have e1 : (b : Int) / 32 = (L : Int) := by omega
  have e2 : (b : Int) % 32 = (r : Int) := by omega
  obtain ⟨R, hR⟩ : ∃ R, R = M * 2 ^ b := ⟨_, rfl⟩
  have g0 : ∀ k, k < L → lb R k = 0 := fun k hk => by rw [hR, hLr]; exact lb_up_low M L r k hk
  have g1 : lb R L = shH (lb M 0) r := by rw [hR, hLr]; exact lb_up_first M L r
  have g2 : ∀ i, lb R (L + (i + 1)) = shH (lb M (i + 1)) r + shL (lb M i) r := fun i => by rw [hR, hLr]; exact lb_up_next M L r i (by omega)
  rw [← hR]
  have G0 := Lib.hid g0
  have G1 := Lib.hid g1
  have G2 := Lib.hid g2
  clear g0 g1 g2 hR hLr
  have h1 := nb_size hM
  have HG := Lib.hid hG.lt
  have hZ := hG.alloc (.cells (cl fun _ => 0) 147)
  go_enter Try.func139, Try.ntmps139
  go_wp2_with (first
    | (go_at_call 161; refine (refBits_any g M hM _ hZ).mono ?_; rintro e w1 ⟨rfl, rfl⟩)
    | (go_at_call 141; refine (zero_ref g M hM _ hZ).mono ?_; rintro e w1 ⟨rfl, rfl⟩))
  have hO0 : cl (upf M R L r 0) = cl fun _ => 0 := cl_congr fun j _ => by
    unfold upf
    by_cases h : j < L
    · rw [if_pos (by omega), G0.out j h]
    · rw [if_neg (by omega), if_neg (by omega)]
  have HO0 := Lib.hid hO0
  have K1 := Lib.hid e1
  have K2 := Lib.hid e2
  clear e1 e2 hO0
  go_loopw [7] (fun i wr => ∃ k : Nat, L + k ≤ 6 ∧ i = .int .i64 k ∧ Blk wr g 147 (cl (lb M)) ∧ Blk wr w.heap.size 147 (cl fun _ => 0) ∧ Blk wr (w.heap.size + 1) 147 (cl (upf M R L r k)) ∧ Below w.heap.size w wr)
    (fun i _ => 6 - (intOf i).toNat)
  case atStart =>
    refine ⟨0, by omega, rfl, ?_, ?_, ?_, ?_⟩
    · exact hZ.alloc _
    · exact (Blk.newAt rfl 147 (cl fun _ => 0)).alloc _
    · rw [HO0.out]
      exact Blk.newAt (by simp) 147 (cl fun _ => 0)
    · exact below_alloc (below_alloc (Below.refl _ _) _) _
  case round =>
    clear hG hZ
    obtain ⟨k, hk, rfl, hA, hZ, hO, hb⟩ := hrel
    have hg := hA.lt
    have hlt := HG.out
    obtain ⟨A, hA0⟩ : ∃ A, A = L + k := ⟨_, rfl⟩
    by_cases h6 : A < 6
    · have hk6 : k < 6 := by omega
      have cA := hA.at_ hk6
      have cO := hO.at_ h6
      have fO := hO.frozen A
      have hx := lb_le M k
      have hstep1 : ∀ j, j < 6 → upf M R L r (k + 1) j = if j = A + 1 then shL (lb M k) r else if j = A then lb R A else upf M R L r k j := fun j hj => by
        subst hA0
        unfold upf
        by_cases a : j < L + k
        · rw [if_pos (by omega), if_neg (by omega), if_neg (by omega), if_pos a]
        · by_cases b : j = L + k
          · rw [if_pos (by omega), if_neg (by omega), if_pos b, b]
          · by_cases c : j = L + k + 1
            · rw [if_neg (by omega), if_pos ⟨c, by omega⟩, if_pos c, Nat.add_sub_cancel]
            · rw [if_neg (by omega), if_neg (by omega), if_neg c, if_neg b, if_neg a, if_neg (by omega)]
      have H1 := Lib.hid hstep1
      clear hstep1
      have eo : bits .or .u32 ((upf M R L r k A : Nat) : Int) ((shH (lb M k) r : Nat) : Int) = ((lb R A : Nat) : Int) := by
        subst hA0
        unfold upf
        rw [if_neg (by omega)]
        by_cases k0 : 0 < k
        · rw [if_pos ⟨rfl, k0⟩]
          obtain ⟨m, rfl⟩ : ∃ m, k = m + 1 := ⟨k - 1, by omega⟩
          rw [Nat.add_sub_cancel, G2.out m, u32_or_nat _ _ (by have := shL_lt (r := r) (by omega) (lb_lt M m); have := pow_le32 (r := r) (by omega); omega) (shH_lt _ _), sh_or' (by omega) (lb_lt M m)]
        · obtain rfl : k = 0 := by omega
          rw [if_neg (by omega), Nat.add_zero, G1.out, u32_or_nat _ _ (by omega) (shH_lt _ _), Nat.zero_or]
      have e0 : upf M R L r k (A + 1) = 0 := by
        unfold upf
        rw [if_neg (by omega), if_neg (by omega)]
      obtain ⟨y, hy⟩ : ∃ y, y = upf M R L r k A := ⟨_, rfl⟩
      rw [← hy] at cO eo
      obtain ⟨x, hx2⟩ : ∃ x, x = lb M k := ⟨_, rfl⟩
      rw [← hx2] at cA hx eo
      have eu := u64_shl x r (by omega) (by omega)
      have e6 : ((x * 2 ^ r : Nat) : Int) % 4294967296 = ((shH x r : Nat) : Int) := rfl
      have e7 : ((x * 2 ^ r : Nat) : Int) / 4294967296 = ((shL x r : Nat) : Int) := by rw [← sh_whole x r (by omega)]; rfl
      have e8 : ((shL x r : Nat) : Int) % 4294967296 = ((shL x r : Nat) : Int) := by
        have := shL_lt (x := x) (r := r) (by omega) (by omega)
        have := pow_le32 (r := r) (by omega)
        omega
      have e9 : bits .or .u32 (0 : Int) ((shL x r : Nat) : Int) = ((shL x r : Nat) : Int) := by
        have := shL_lt (x := x) (r := r) (by omega) (by omega)
        have := pow_le32 (r := r) (by omega)
        have h := u32_or_nat 0 (shL x r) (by omega) (by omega)
        rw [Nat.zero_or] at h
        exact h
      obtain ⟨U, hU⟩ : ∃ U, U = x * 2 ^ r := ⟨_, rfl⟩
      rw [← hU] at eu e6 e7
      have HU := Lib.hid hU
      have HX := Lib.hid hx2
      have HY := Lib.hid hy
      have E0 := Lib.hid e0
      have e1 := K1.out
      have e2 := K2.out
      have e3 : (k : Int) + (L : Int) = (A : Int) := by omega
      have ha1 : A ≤ L + k := by omega
      have ha2 : L + k ≤ A := by omega
      clear hU hx2 hy e0 hA0
      by_cases h7 : A + 1 < 6
      · have cP := hO.at_ h7
        have fP := hO.frozen (A + 1)
        rw [E0.out] at cP
        go_wp2
        go_roundw
        case rel =>
          have e5 := HX.out
          refine ⟨k + 1, by omega, by go_num, ((hA.far (by simp <;> omega) _).far (by simp <;> omega) _), ((hZ.far (by simp <;> omega) _).far (by simp <;> omega) _), ?_, below_set (below_set hb (by simp <;> omega) _) (by simp <;> omega) _⟩
          refine cl_put (cl_put hO h6 (f' := fun j => if j = A then lb R A else upf M R L r k j) fun j _ => rfl) h7 fun j hj => ?_
          rw [H1.out j hj, e5]
        case measure => simp [intOf] <;> omega
      · have h8 : ¬ A + 1 < 6 := h7
        go_wp2
        go_roundw
        case rel =>
          refine ⟨k + 1, by omega, by go_num, (hA.far (by simp <;> omega) _), (hZ.far (by simp <;> omega) _), ?_, below_set hb (by simp <;> omega) _⟩
          refine cl_put hO h6 fun j hj => ?_
          rw [H1.out j hj, if_neg (by omega)]
        case measure => simp [intOf] <;> omega
    · have hO' : Blk wr (w.heap.size + 1) 147 (cl (lb R)) := by
        rw [show cl (lb R) = cl (upf M R L r k) from cl_congr fun j _ => ?_]
        · exact hO
        · unfold upf
          rw [if_pos (by omega)]
      have e1 := K1.out
      have e2 := K2.out
      have e3 : (k : Int) + (L : Int) = (A : Int) := by omega
      have ha1 : A ≤ L + k := by omega
      have ha2 : L + k ≤ A := by omega
      clear hA0 hO
      obtain ⟨c0, c1, c2, c3, c4, c5⟩ := hO'.six
      obtain ⟨f0, f1, f2, f3, f4, f5, f6⟩ := hZ.froz
      obtain ⟨d0, d1, d2, d3, d4, d5⟩ := hZ.six
      by_cases hk6 : k < 6
      all_goals
        go_wp2
        refine bodyPost_ret (v := .tuple #[szv R, .bool true]) ?_ rfl ⟨rfl, below_put6 hb (by omega) _ _ _ _ _ _⟩
        rw [res_row_tmp Try.results139 rfl (hZ.put6 rfl _ _ _ _ _ _) Try.underlying147 rfl sz147]
        simp [szv, cl]
end Go.Proofs.Ytjgikfejfglllaa
