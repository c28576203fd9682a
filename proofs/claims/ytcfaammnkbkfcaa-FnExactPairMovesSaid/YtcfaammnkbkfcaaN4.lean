/- Terms are valid: the program's. -/
import Derived.Test.YtcfaammnkbkfcaaN3
set_option linter.unusedVariables false
set_option linter.unusedSimpArgs false
namespace Go.Proofs.Ytcfaammnkbkfcaa
open Go.RowKit


/-- A slice reads as a list of numbers. -/
def Rd (w : World) (v : Value) (l : List Int) : Prop := ∃ A c, v = .slice A l.length c ∧ l.length ≤ c ∧ (l ≠ [] → ∃ g, A = some ⟨g, 0, none⟩ ∧ g < w.heap.size ∧ ∀ (j : Nat) (x : Int), l[j]? = some x → w.cell? ⟨g, j, none⟩ = some (.int .i64 x))
theorem Rd.later {w w' : World} {v : Value} {l : List Int} (h : Rd w v l) (hb : Below w.heap.size w w') : Rd w' v l := by
  obtain ⟨A, c, hv, hc, hr⟩ := h
  refine ⟨A, c, hv, hc, fun hl => ?_⟩
  obtain ⟨g, hA, hg, hx⟩ := hr hl
  exact ⟨g, hA, Nat.lt_of_lt_of_le hg hb.size, fun j x hj => (hb.cell (p := ⟨g, j, none⟩) hg).trans (hx j x hj)⟩
theorem Rd.nil (w : World) (A : Option Addr) (c : Nat) : Rd w (.slice A 0 c) [] := ⟨A, c, rfl, Nat.zero_le _, fun h => absurd rfl h⟩
theorem Rd.at {w : World} {A : Option Addr} {l : List Int} (h : l ≠ [] → ∃ g, A = some ⟨g, 0, none⟩ ∧ g < w.heap.size ∧ ∀ (j : Nat) (x : Int), l[j]? = some x → w.cell? ⟨g, j, none⟩ = some (.int .i64 x)) {k : Nat} (hk : k < l.length) :
    ∃ g, A = some ⟨g, 0, none⟩ ∧ w.cell? ⟨g, k, none⟩ = some (.int .i64 (l.getD k 0)) := by
  obtain ⟨g, hA, hg, hx⟩ := h (by intro e; subst e; exact absurd hk (by simp))
  refine ⟨g, hA, ?_⟩
  rw [hx k _ (List.getElem?_eq_getElem hk)]
  simp [hk]
/-- A list as cells. -/
def iz (l : List Int) : List Value := l.map fun x => .int .i64 x
theorem iz_snoc (l : List Int) (x : Int) : iz (l ++ [x]) = iz l ++ [.int .i64 x] := by simp [iz]
theorem iz_length (l : List Int) : (iz l).length = l.length := by simp [iz]
theorem Rd.of_own {w : World} {base : Nat} {v : Value} {l : List Int} (h : w.ownsRow base 2 1 v l.length (iz l)) : Rd w v l := by
  rcases h.2 with ⟨rfl, hl⟩ | ⟨g, cap, cur, rfl, hb, hg, hc, _⟩
  · exact ⟨none, 0, by rw [hl], by omega, fun hn => absurd (List.eq_nil_of_length_eq_zero hl) hn⟩
  · refine ⟨some ⟨g, 0, none⟩, cap, rfl, hc, fun hl => ⟨g, rfl, ?_, fun j x hj => ?_⟩⟩
    · exact (h.lt g (by simp [Value.ownBlock])).2
    · have hlt : j < l.length := (List.getElem?_eq_some_iff.1 hj).1
      rw [h.cellAt j (by omega)]
      simp [iz, hj]
/-- Terms are valid. -/
def vt1 (j : Nat) (x : Int) : Bool := wi x (-1000000000) 1000000000 && (decide (j = 0) || decide (1 ≤ x))
def vtm (l : List Int) : Bool := decide (1 ≤ l.length ∧ l.length ≤ 40 ∧ (∀ j, j < l.length → vt1 j (l.getD j 0) = true) ∧ (l.length = 1 ∨ 2 ≤ l.getD (l.length - 1) 0))
theorem vtm_yes {l : List Int} (h1 : 1 ≤ l.length) (h2 : l.length ≤ 40) (h3 : ∀ j, j < l.length → vt1 j (l.getD j 0) = true) (h4 : l.length = 1 ∨ 2 ≤ l.getD (l.length - 1) 0) : vtm l = true := decide_eq_true ⟨h1, h2, h3, h4⟩
theorem vtm_no {l : List Int} (h : ¬ (1 ≤ l.length ∧ l.length ≤ 40 ∧ (∀ j, j < l.length → vt1 j (l.getD j 0) = true) ∧ (l.length = 1 ∨ 2 ≤ l.getD (l.length - 1) 0))) : vtm l = false := decide_eq_false h

set_option maxHeartbeats 2000000 in
theorem validTerms_any (v : Value) (l : List Int) (hlen : l.length ≤ 1048576) (w : World) (hr : Rd w v l) : Calls Try.prog 148 #[v] w fun e w' => e = .returned (.bool (vtm l)) ∧ w = w' := by
  obtain ⟨A, c, rfl, hc, hr⟩ := hr
  by_cases h1 : 1 ≤ l.length ∧ l.length ≤ 40
  · obtain ⟨h1, h2⟩ := h1
    obtain ⟨n, hn⟩ : ∃ n, n = l.length := ⟨_, rfl⟩
    rw [← hn] at h1 h2 ⊢
    have HN := Lib.hid hn
    have HR := Lib.hid hr
    have hk := fun k (hk : k < n) => Rd.at hr (k := k) (by rw [← hn]; exact hk)
    have HK := Lib.hid hk
    clear hn hr hk hlen hc
    obtain ⟨V, hV⟩ : ∃ V, V = vtm l := ⟨_, rfl⟩
    rw [← hV]
    have HV := Lib.hid hV
    clear hV
    go_enter Try.func148, Try.ntmps148
    go_wp2
    go_loop [15] (fun i => ∃ k : Nat, k ≤ n ∧ i = .int .i64 k ∧ ∀ j, j < k → vt1 j (l.getD j 0) = true) (fun i => n - (intOf i).toNat)
    case atStart => exact ⟨0, by omega, rfl, fun j hj => by omega⟩
    case round =>
      obtain ⟨k, hk, rfl, hall⟩ := hrel
      have HA := Lib.hid hall
      clear hall
      by_cases hlt : k < n
      · obtain ⟨g, rfl, hcell⟩ := HK.out k hlt
        obtain ⟨x, hx⟩ : ∃ x, x = l.getD k 0 := ⟨_, rfl⟩
        rw [← hx] at hcell
        have HX := Lib.hid hx
        clear hx
        have hwi := fun w => within_any x (-1000000000) 1000000000 w
        by_cases hb : vt1 k x = true
        · have hb1 : wi x (-1000000000) 1000000000 = true := by simp [vt1] at hb; exact hb.1
          have hb2 : k = 0 ∨ 1 ≤ x := by simpa [vt1] using (by simpa [vt1, hb1] using hb : _)
          rw [hb1] at hwi
          have HB := Lib.hid hb
          clear hb hb1
          by_cases hk0 : k = 0
          · subst hk0
            clear hb2
            go_wp2_with (go_at_call 118; refine (hwi _).mono ?_; rintro e w' ⟨rfl, rfl⟩)
            go_round
            case rel => exact ⟨0 + 1, by omega, by go_num, fun j hj => by
              obtain rfl : j = 0 := by omega
              rw [← HX.out]; exact HB.out⟩
            case measure => simp [intOf] <;> omega
          · have hx1 : ¬ x < 1 := by omega
            have hk1 : 0 < k := by omega
            clear hb2 hk0
            go_wp2_with (go_at_call 118; refine (hwi _).mono ?_; rintro e w' ⟨rfl, rfl⟩)
            go_round
            case rel => exact ⟨k + 1, by omega, by go_num, fun j hj => by
              by_cases e : j = k
              · rw [e, ← HX.out]; exact HB.out
              · exact HA.out j (by omega)⟩
            case measure => simp [intOf] <;> omega
        · have hno : V = false := by
            rw [HV.out]
            refine vtm_no fun e => hb ?_
            have := e.2.2.1 k (by rw [← HN.out]; exact hlt)
            rwa [← HX.out] at this
          subst hno
          by_cases hb1 : wi x (-1000000000) 1000000000 = true
          · have hk0 : 0 < k ∧ x < 1 := by
              simp [vt1, hb1] at hb
              omega
            obtain ⟨hk0, hx1⟩ := hk0
            rw [hb1] at hwi
            clear hb hb1
            go_wp2_with (go_at_call 118; refine (hwi _).mono ?_; rintro e w' ⟨rfl, rfl⟩)
            go_ret
            exact ⟨rfl, rfl⟩
          · have hb1 : wi x (-1000000000) 1000000000 = false := by simpa using hb1
            rw [hb1] at hwi
            clear hb hb1
            go_wp2_with (go_at_call 118; refine (hwi _).mono ?_; rintro e w' ⟨rfl, rfl⟩)
            go_ret
            exact ⟨rfl, rfl⟩
      · obtain rfl : k = n := by omega
        by_cases hn1 : k = 1
        · have hyes : V = true := by
            rw [HV.out]
            exact vtm_yes (by rw [← HN.out]; omega) (by rw [← HN.out]; omega) (by rw [← HN.out]; exact HA.out) (.inl (by rw [← HN.out]; omega))
          have b1 : ((k : Int) == 1) = true := by rw [hn1]; rfl
          subst hyes
          clear hn1
          go_wp2
          go_ret
          exact ⟨rfl, rfl⟩
        · obtain ⟨g, rfl, hcell⟩ := HK.out (k - 1) (by omega)
          obtain ⟨m, rfl⟩ : ∃ m, k = m + 1 := ⟨k - 1, by omega⟩
          rw [Nat.add_sub_cancel] at hcell
          obtain ⟨x, hx⟩ : ∃ x, x = l.getD m 0 := ⟨_, rfl⟩
          rw [← hx] at hcell
          have hval : V = decide (2 ≤ x) := by
            rw [HV.out]
            by_cases h2x : 2 ≤ x
            · rw [decide_eq_true h2x]
              exact vtm_yes (by rw [← HN.out]; omega) (by rw [← HN.out]; omega) (by rw [← HN.out]; exact HA.out) (.inr (by rw [← HN.out, Nat.add_sub_cancel, ← hx]; exact h2x))
            · rw [decide_eq_false h2x]
              refine vtm_no fun e => ?_
              have := e.2.2.2
              rw [← HN.out, Nat.add_sub_cancel, ← hx] at this
              omega
          have b1 : (((m : Int) + 1) == 1) = false := by rw [beq_eq_false_iff_ne]; omega
          have HVal := Lib.hid hval
          clear hval hx hn1
          go_wp2
          go_ret
          exact ⟨by rw [HVal.out]; rfl, rfl⟩
  · have hno : vtm l = false := vtm_no fun e => h1 ⟨e.1, e.2.1⟩
    rw [hno]
    obtain ⟨n, hn⟩ : ∃ n, n = l.length := ⟨_, rfl⟩
    rw [← hn] at h1 hlen ⊢
    clear hn hr hno hc
    by_cases h2 : 1 ≤ n
    · have h3 : 40 < n := by omega
      clear h1
      go_enter Try.func148, Try.ntmps148
      go_wp2
      go_ret
      exact ⟨rfl, rfl⟩
    · have h3 : n < 1 := by omega
      clear h1
      go_enter Try.func148, Try.ntmps148
      go_wp2
      go_ret
      exact ⟨rfl, rfl⟩
end Go.Proofs.Ytcfaammnkbkfcaa
