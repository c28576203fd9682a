/- Terms are valid: the reference's. -/
import Derived.Test.YtcfaammnkbkfcaaN4
set_option linter.unusedVariables false
set_option linter.unusedSimpArgs false
namespace Go.Proofs.Ytcfaammnkbkfcaa
open Go.RowKit


/-- A number of 64 bits. -/
def I64 (x : Int) : Prop := -9223372036854775808 ≤ x ∧ x ≤ 9223372036854775807
/-- The size of a number, as the machine has it. -/
def sw (x : Int) : Int := if x < 0 then IntKind.i64.wrap (-x) else x
theorem size_w (a : Int) (h : I64 a) (w : World) : Calls Try.prog 131 #[.int .i64 a] w fun e w' => e = .returned (.int .i64 (sw a)) ∧ w = w' := by
  obtain ⟨h1, h2⟩ := h
  unfold sw
  by_cases h : a < 0
  · rw [if_pos h]
    go_enter Try.func131, Try.ntmps131
    go_wp2
    go_ret
    exact ⟨congrArg (fun z => Ending.returned (.int .i64 z)) ((by exact (IntWalk.i64_left _).symm)), rfl⟩
  · rw [if_neg h]
    go_enter Try.func131, Try.ntmps131
    go_wp2
    go_ret
    exact ⟨rfl, rfl⟩
set_option maxHeartbeats 2000000 in
theorem refTerms_any (v : Value) (l : List Int) (hlen : l.length ≤ 1048576) (hl64 : ∀ j, j < l.length → I64 (l.getD j 0)) (w : World) (hr : Rd w v l) : Calls Try.prog 107 #[v] w fun e w' => e = .returned (.bool (vtm l)) ∧ w = w' := by
  obtain ⟨A, c, rfl, hc, hr⟩ := hr
  by_cases h1 : 1 ≤ l.length ∧ l.length ≤ 40
  · obtain ⟨h1, h2⟩ := h1
    obtain ⟨n, hn⟩ : ∃ n, n = l.length := ⟨_, rfl⟩
    rw [← hn] at h1 h2 ⊢
    rw [← hn] at hl64
    have HL := Lib.hid hl64
    have HN := Lib.hid hn
    have HR := Lib.hid hr
    have hk := fun k (hk : k < n) => Rd.at hr (k := k) (by rw [← hn]; exact hk)
    have HK := Lib.hid hk
    clear hn hr hk hlen hc hl64
    obtain ⟨V, hV⟩ : ∃ V, V = vtm l := ⟨_, rfl⟩
    rw [← hV]
    have HV := Lib.hid hV
    clear hV
    go_enter Try.func107, Try.ntmps107
    go_wp2
    go_loop [4] (fun i => ∃ k : Nat, k ≤ n ∧ i = .int .i64 k ∧ ∀ j, j < k → vt1 j (l.getD j 0) = true) (fun i => n - (intOf i).toNat)
    case atStart => exact ⟨0, by omega, rfl, fun j hj => by omega⟩
    case round =>
      obtain ⟨k, hk, rfl, hall⟩ := hrel
      have HA := Lib.hid hall
      clear hall
      by_cases hlt : k < n
      · obtain ⟨g, rfl, hcell⟩ := HK.out k hlt
        obtain ⟨x, hx⟩ : ∃ x, x = l.getD k 0 := ⟨_, rfl⟩
        rw [← hx] at hcell
        have HX := Lib.hid hx
        clear hx
        have h64 := HL.out k hlt
        rw [← HX.out] at h64
        have hwi := fun w => size_w x h64 w
        obtain ⟨h64a, h64b⟩ := h64
        by_cases hb : vt1 k x = true
        · have hb1 : wi x (-1000000000) 1000000000 = true := by simp [vt1] at hb; exact hb.1
          have hb2 : k = 0 ∨ 1 ≤ x := by simpa [vt1] using (by simpa [vt1, hb1] using hb : _)
          have hb3 : -1000000000 ≤ x ∧ x ≤ 1000000000 := by simpa [wi] using hb1
          obtain ⟨hb3, hb4⟩ := hb3
          have hs1 : sw x ≤ 1000000000 := by
            unfold sw
            split
            · rw [IntWalk.i64_in _ (by omega)]; omega
            · omega
          obtain ⟨z, hz⟩ : ∃ z, z = sw x := ⟨_, rfl⟩
          rw [← hz] at hwi hs1
          have HB := Lib.hid hb
          clear hb hb1 hz
          by_cases hk0 : k = 0
          · subst hk0
            clear hb2
            go_wp2_with (go_at_call 131; refine (hwi _).mono ?_; rintro e w' ⟨rfl, rfl⟩)
            go_round
            case rel => exact ⟨0 + 1, by omega, by go_num, fun j hj => by
              obtain rfl : j = 0 := by omega
              rw [← HX.out]; exact HB.out⟩
            case measure => simp [intOf] <;> omega
          · have hx1 : ¬ x < 1 := by omega
            have hk1 : 0 < k := by omega
            clear hb2 hk0
            go_wp2_with (go_at_call 131; refine (hwi _).mono ?_; rintro e w' ⟨rfl, rfl⟩)
            go_round
            case rel => exact ⟨k + 1, by omega, by go_num, fun j hj => by
              by_cases e : j = k
              · rw [e, ← HX.out]; exact HB.out
              · exact HA.out j (by omega)⟩
            case measure => simp [intOf] <;> omega
        · have hno : V = false := by
            rw [HV.out]
            refine vtm_no fun e => hb ?_
            have := e.2.2.1 k (by rw [← HN.out]; exact hlt)
            rwa [← HX.out] at this
          subst hno
          by_cases hb1 : wi x (-1000000000) 1000000000 = true
          · have hk0 : 0 < k ∧ x < 1 := by
              simp [vt1, hb1] at hb
              omega
            have hb3 : -1000000000 ≤ x ∧ x ≤ 1000000000 := by simpa [wi] using hb1
            obtain ⟨hb3, hb4⟩ := hb3
            have hs1 : sw x ≤ 1000000000 := by
              unfold sw
              split
              · rw [IntWalk.i64_in _ (by omega)]; omega
              · omega
            obtain ⟨z, hz⟩ : ∃ z, z = sw x := ⟨_, rfl⟩
            rw [← hz] at hwi hs1
            obtain ⟨hk0, hx1⟩ := hk0
            clear hb hb1 hz
            go_wp2_with (go_at_call 131; refine (hwi _).mono ?_; rintro e w' ⟨rfl, rfl⟩)
            go_ret
            exact ⟨rfl, rfl⟩
          · have hout : ¬ (-1000000000 ≤ x ∧ x ≤ 1000000000) := by simpa [wi] using hb1
            clear hb hb1
            by_cases hs1 : 1000000000 < sw x
            · obtain ⟨z, hz⟩ : ∃ z, z = sw x := ⟨_, rfl⟩
              rw [← hz] at hwi hs1
              clear hz hout
              go_wp2_with (go_at_call 131; refine (hwi _).mono ?_; rintro e w' ⟨rfl, rfl⟩)
              go_ret
              exact ⟨rfl, rfl⟩
            · have hx3 : x < -1000000000 := by
                unfold sw at hs1
                split at hs1 <;> omega
              obtain ⟨z, hz⟩ : ∃ z, z = sw x := ⟨_, rfl⟩
              rw [← hz] at hwi hs1
              clear hz hout
              go_wp2_with (go_at_call 131; refine (hwi _).mono ?_; rintro e w' ⟨rfl, rfl⟩)
              go_ret
              exact ⟨rfl, rfl⟩
      · obtain rfl : k = n := by omega
        by_cases hn1 : k = 1
        · have hyes : V = true := by
            rw [HV.out]
            exact vtm_yes (by rw [← HN.out]; omega) (by rw [← HN.out]; omega) (by rw [← HN.out]; exact HA.out) (.inl (by rw [← HN.out]; omega))
          have b1 : ((k : Int) == 1) = true := by rw [hn1]; rfl
          subst hyes
          clear hn1
          go_wp2
          go_ret
          exact ⟨rfl, rfl⟩
        · obtain ⟨g, rfl, hcell⟩ := HK.out (k - 1) (by omega)
          obtain ⟨m, rfl⟩ : ∃ m, k = m + 1 := ⟨k - 1, by omega⟩
          rw [Nat.add_sub_cancel] at hcell
          obtain ⟨x, hx⟩ : ∃ x, x = l.getD m 0 := ⟨_, rfl⟩
          rw [← hx] at hcell
          have hval : V = decide (2 ≤ x) := by
            rw [HV.out]
            by_cases h2x : 2 ≤ x
            · rw [decide_eq_true h2x]
              exact vtm_yes (by rw [← HN.out]; omega) (by rw [← HN.out]; omega) (by rw [← HN.out]; exact HA.out) (.inr (by rw [← HN.out, Nat.add_sub_cancel, ← hx]; exact h2x))
            · rw [decide_eq_false h2x]
              refine vtm_no fun e => ?_
              have := e.2.2.2
              rw [← HN.out, Nat.add_sub_cancel, ← hx] at this
              omega
          have b1 : (((m : Int) + 1) == 1) = false := by rw [beq_eq_false_iff_ne]; omega
          have HVal := Lib.hid hval
          clear hval hx hn1
          go_wp2
          go_ret
          exact ⟨by rw [HVal.out]; rfl, rfl⟩
  · have hno : vtm l = false := vtm_no fun e => h1 ⟨e.1, e.2.1⟩
    rw [hno]
    obtain ⟨n, hn⟩ : ∃ n, n = l.length := ⟨_, rfl⟩
    rw [← hn] at h1 hlen ⊢
    clear hn hr hno hc
    by_cases h2 : 1 ≤ n
    · have h3 : 40 < n := by omega
      clear h1
      go_enter Try.func107, Try.ntmps107
      go_wp2
      go_ret
      exact ⟨rfl, rfl⟩
    · have h3 : n < 1 := by omega
      clear h1
      go_enter Try.func107, Try.ntmps107
      go_wp2
      go_ret
      exact ⟨rfl, rfl⟩
end Go.Proofs.Ytcfaammnkbkfcaa
