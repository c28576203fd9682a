/- The number of bits; a size times a power of two: the reference's. -/
import Derived.Test.YtjgikfejfglllaaT7
import Derived.Test.YtjgikfejfglllaaS1
set_option linter.unusedVariables false
set_option linter.unusedSimpArgs false
namespace Go.Proofs.Ytjgikfejfglllaa
open Go.RowKit


theorem nb_unique {M n : Nat} (h1 : M < 2 ^ n) (h2 : 0 < n → 2 ^ (n - 1) ≤ M) : nb M = n := by
  have a := nb_le.2 h1
  rcases Nat.lt_or_ge (nb M) n with c | c
  · have h3 := h2 (by omega)
    have h4 := nb_le (M := M) (k := n - 1)
    have h5 := h4.1 (by omega)
    omega
  · omega
theorem nb_lt (M : Nat) : M < 2 ^ nb M := nb_le.1 (Nat.le_refl _)
theorem nb_ge {M : Nat} (h : 0 < nb M) : 2 ^ (nb M - 1) ≤ M := by
  rcases Nat.lt_or_ge M (2 ^ (nb M - 1)) with c | c
  · have := nb_le.2 c
    omega
  · exact c
theorem nb_zero : nb 0 = 0 := rfl
theorem nb_pos {M : Nat} : 0 < nb M ↔ 0 < M := by
  constructor
  · intro h
    rcases Nat.eq_zero_or_pos M with c | c
    · subst c; exact h
    · exact c
  · intro h
    unfold nb
    rw [if_neg (by omega)]
    omega
theorem nb_half {M : Nat} (h : 0 < M) : nb M = nb (M / 2) + 1 := by
  have h1 := nb_lt M
  have h0 := nb_pos.2 h
  have h2 := nb_ge h0
  obtain ⟨n, hn⟩ : ∃ n, nb M = n + 1 := ⟨nb M - 1, by omega⟩
  rw [hn] at h1 h2 ⊢
  rw [Nat.add_sub_cancel] at h2
  rw [nb_unique (M := M / 2) (n := n)]
  · rw [Nat.pow_succ] at h1
    omega
  · intro hp
    obtain ⟨m, rfl⟩ : ∃ m, n = m + 1 := ⟨n - 1, by omega⟩
    rw [Nat.pow_succ] at h2
    rw [Nat.add_sub_cancel]
    omega
theorem nb_limb {M k : Nat} (hM : M < pw (k + 1)) (h : 0 < lb M k) : nb M = 32 * k + nb (lb M k) := by
  have e : M / pw k = lb M k := by
    rw [div_pw M k, Nat.div_eq_of_lt hM]
    simp
  have hd := Nat.div_add_mod M (pw k)
  have hm := Nat.mod_lt M (pw_pos k)
  rw [e] at hd
  obtain ⟨x, hx⟩ : ∃ x, x = lb M k := ⟨_, rfl⟩
  rw [← hx] at hd h ⊢
  have p1 := nb_lt x
  have p0 := nb_pos.2 h
  have p2 := nb_ge p0
  have e2 : ∀ n, 2 ^ (32 * k + n) = pw k * 2 ^ n := fun n => by rw [Nat.pow_add]; rfl
  refine nb_unique ?_ fun _ => ?_
  · rw [e2]
    have := Nat.mul_le_mul_left (pw k) p1
    rw [Nat.mul_succ] at this
    omega
  · rw [show 32 * k + nb x - 1 = 32 * k + (nb x - 1) by omega, e2]
    have := Nat.mul_le_mul_left (pw k) p2
    omega
theorem nb_small {x : Nat} (h : x < 4294967296) : nb x ≤ 32 := nb_le.2 h
theorem nb_size {M : Nat} (h : M < pw 6) : nb M ≤ 192 := nb_le.2 h
theorem lt_pw_of_lb {M k : Nat} (hM : M < pw (k + 1)) (h : lb M k = 0) : M < pw k := by
  have e : M / pw k = lb M k := by
    rw [div_pw M k, Nat.div_eq_of_lt hM]
    simp
  rw [h] at e
  rcases Nat.lt_or_ge M (pw k) with c | c
  · exact c
  · have := Nat.div_pos c (pw_pos k)
    omega

set_option maxHeartbeats 1000000 in
theorem refBits_any (g : Nat) (M : Nat) (hM : M < pw 6) (w : World) (hG : Blk w g 147 (cl (lb M))) :
    Calls Try.prog 161 #[.pointer (some ⟨g, 0, none⟩)] w fun e w' => e = .returned (.int .i64 (nb M)) ∧ w = w' := by
  have hc := fun k hk => hG.at_ (k := k) hk
  have HC := Lib.hid hc
  clear hc hG
  go_enter Try.func161, Try.ntmps161
  go_wp2
  go_loop [3] (fun i => ∃ k : Nat, k ≤ 6 ∧ i = .int .i64 ((k : Int) - 1) ∧ M < pw k) (fun i => (intOf i + 1).toNat)
  case atStart => exact ⟨6, by omega, rfl, hM⟩
  case round =>
    obtain ⟨k, hk, rfl, hlt⟩ := hrel
    have HL := Lib.hid hlt
    clear hlt
    by_cases h0 : 0 < k
    · obtain ⟨K, rfl⟩ : ∃ K, k = K + 1 := ⟨k - 1, by omega⟩
      rw [show (((K + 1 : Nat) : Int) - 1) = (K : Int) by omega]
      have cK := HC.out K (by omega)
      have hx := lb_le M K
      by_cases hz : lb M K = 0
      · have HZ := Lib.hid hz
        have bz : (((lb M K : Nat) : Int) == 0) = true := by rw [hz]; rfl
        clear hz
        go_wp2
        go_round
        case rel => exact ⟨K, by omega, rfl, lt_pw_of_lb HL.out HZ.out⟩
        case measure => simp [intOf] <;> omega
      · have bz : (((lb M K : Nat) : Int) == 0) = false := by rw [beq_eq_false_iff_ne]; omega
        have hn := nb_limb HL.out (show 0 < lb M K by omega)
        have hs := nb_small (lb_lt M K)
        have HN := Lib.hid hn
        have HS := Lib.hid hs
        clear hn hs
        obtain ⟨x, hx2⟩ : ∃ x, x = lb M K := ⟨_, rfl⟩
        rw [← hx2] at cK hx hz bz
        have HX := Lib.hid hx2
        clear hx2
        go_wp2
        go_loop [4, 5] (fun n i => ∃ y m : Nat, y ≤ x ∧ m ≤ 32 ∧ i = .int .u32 y ∧ n = .int .i64 m ∧ m + nb y = nb x) (fun _ i => (intOf i).toNat)
        case atStart => exact ⟨x, 0, Nat.le_refl _, by omega, rfl, rfl, by omega⟩
        case round =>
          obtain ⟨y, m, hy, hm, rfl, rfl, hsum⟩ := hrel
          have HM := Lib.hid hsum
          clear hsum
          by_cases hy0 : 0 < y
          · have hm2 : m + 1 ≤ 32 := by
              have h1 := HM.out
              have h2 := HS.out
              rw [← HX.out] at h2
              have := nb_pos.2 hy0
              omega
            go_wp2
            go_round
            case rel => exact ⟨y / 2, m + 1, by omega, hm2, rfl, rfl, by have := HM.out; have := nb_half hy0; omega⟩
            case measure => simp [intOf] <;> omega
          · obtain rfl : y = 0 := by omega
            go_wp2
            go_ret
            refine ⟨?_, rfl⟩
            have h1 := HM.out
            have h2 := HN.out
            rw [nb_zero, Nat.add_zero] at h1
            rw [← HX.out, ← h1] at h2
            rw [h2]
            simp
    · obtain rfl : k = 0 := by omega
      have hz : M = 0 := by
        have := HL.out
        rw [pw_zero] at this
        omega
      have HZ := Lib.hid hz
      clear hz
      go_wp2
      go_ret
      exact ⟨by rw [HZ.out]; rfl, rfl⟩
end Go.Proofs.Ytjgikfejfglllaa
