/- How a run ends. -/
import Derived.Test.YtcfaammnkbkfcaaN8
set_option linter.unusedVariables false
set_option linter.unusedSimpArgs false
namespace Go.Proofs.Ytcfaammnkbkfcaa
open Go.RowKit


/-- A run's end. -/
def cod (ov : Bool) (gl : List Int) : Int := if ov = true then 3 else if gl.length = 0 then 4 else if vtm gl = true then 0 else 3
set_option maxHeartbeats 1000000 in
theorem code_any (t B g : Nat) (ml : List (Int × Int)) (gl : List Int) (ov : Bool) (hgl : gl.length ≤ 1000000) (w : World) (hS : St w t B g ml gl ov) :
    Calls Try.prog 150 #[.pointer (some ⟨g, 0, none⟩)] w fun e w' => e = .returned (.int .i64 (cod ov gl)) ∧ w = w' := by
  obtain ⟨mv, gv, hb, hm, hg⟩ := hS
  have hv := validTerms_any gv gl (by omega) w (Rd.of_own hg)
  obtain ⟨A, c, rfl⟩ := own_slice hg
  have hc1 : w.cell? ⟨g, 1, none⟩ = some (.slice A gl.length c) := hb.cell 1
  have hc2 : w.cell? ⟨g, 2, none⟩ = some (.bool ov) := hb.cell 2
  unfold cod
  obtain ⟨V, hV⟩ : ∃ V, V = vtm gl := ⟨_, rfl⟩
  rw [← hV] at hv ⊢
  clear hm hg hb hV
  obtain ⟨n, hn⟩ : ∃ n, n = gl.length := ⟨_, rfl⟩
  rw [← hn] at hc1 hgl hv ⊢
  clear hn
  cases ov
  · by_cases h0 : n = 0
    · subst h0
      simp only [if_true, if_false, Bool.false_eq_true]
      clear hv
      go_enter Try.func150, Try.ntmps150
      go_wp2
      go_ret
      exact ⟨rfl, rfl⟩
    · have hp : 0 < n := by omega
      have hz : ((n : Int) == 0) = false := beq_false_of_ne (by omega)
      rw [if_neg (by simp), if_neg h0]
      clear h0
      cases V
      · simp only [if_false, Bool.false_eq_true]
        go_enter Try.func150, Try.ntmps150
        go_wp2_with (go_at_call 148; refine hv.mono ?_; rintro e w' ⟨rfl, rfl⟩)
        go_ret
        exact ⟨rfl, rfl⟩
      · simp only [if_true]
        go_enter Try.func150, Try.ntmps150
        go_wp2_with (go_at_call 148; refine hv.mono ?_; rintro e w' ⟨rfl, rfl⟩)
        go_ret
        exact ⟨rfl, rfl⟩
  · simp only [if_true]
    clear hv
    go_enter Try.func150, Try.ntmps150
    go_wp2
    go_ret
    exact ⟨rfl, rfl⟩
set_option maxHeartbeats 1000000 in
theorem end_any (t B g : Nat) (ml : List (Int × Int)) (gl : List Int) (ok : Bool) (hgl : gl.length ≤ 1000000) (h64 : ∀ j, j < gl.length → I64 (gl.getD j 0)) (w : World) (hS : St w t B g ml gl ok) :
    Calls Try.prog 144 #[.pointer (some ⟨g, 0, none⟩)] w fun e w' => e = .returned (.int .i64 (cod (!ok) gl)) ∧ w = w' := by
  obtain ⟨mv, gv, hb, hm, hg⟩ := hS
  have hv := refTerms_any gv gl (by omega) h64 w (Rd.of_own hg)
  obtain ⟨A, c, rfl⟩ := own_slice hg
  have hc1 : w.cell? ⟨g, 1, none⟩ = some (.slice A gl.length c) := hb.cell 1
  have hc2 : w.cell? ⟨g, 2, none⟩ = some (.bool ok) := hb.cell 2
  unfold cod
  obtain ⟨V, hV⟩ : ∃ V, V = vtm gl := ⟨_, rfl⟩
  rw [← hV] at hv ⊢
  clear hm hg hb hV h64
  obtain ⟨n, hn⟩ : ∃ n, n = gl.length := ⟨_, rfl⟩
  rw [← hn] at hc1 hgl hv ⊢
  clear hn
  cases ok
  · simp only [Bool.not_false, if_true]
    clear hv
    go_enter Try.func144, Try.ntmps144
    go_wp2
    go_ret
    exact ⟨rfl, rfl⟩
  · by_cases h0 : n = 0
    · subst h0
      simp only [Bool.not_true, if_true, if_false, Bool.false_eq_true]
      clear hv
      go_enter Try.func144, Try.ntmps144
      go_wp2
      go_ret
      exact ⟨rfl, rfl⟩
    · have hp : 0 < n := by omega
      have hz : ((n : Int) == 0) = false := beq_false_of_ne (by omega)
      rw [if_neg (by simp), if_neg h0]
      clear h0
      cases V
      · simp only [if_false, Bool.false_eq_true]
        go_enter Try.func144, Try.ntmps144
        go_wp2_with (go_at_call 107; refine hv.mono ?_; rintro e w' ⟨rfl, rfl⟩)
        go_ret
        exact ⟨rfl, rfl⟩
      · simp only [if_true]
        go_enter Try.func144, Try.ntmps144
        go_wp2_with (go_at_call 107; refine hv.mono ?_; rintro e w' ⟨rfl, rfl⟩)
        go_ret
        exact ⟨rfl, rfl⟩
end Go.Proofs.Ytcfaammnkbkfcaa
