/- The reference checks a series and its places. -/
import Derived.Test.YtjgikfejfglllaaT4
set_option linter.unusedVariables false
set_option linter.unusedSimpArgs false
namespace Go.Proofs.Ytjgikfejfglllaa
open Go.RowKit


theorem limited_ref (g T : Nat) (a b c d : Int) (t : Bool) (n : Int) (w : World) (hG : Blk w g T (serC a b c d t)) : Calls Try.prog 53 #[.pointer (some ⟨g, 0, none⟩), .int .i64 n] w fun e w' => e = .returned (.int .i64 (if vsr a b c d then if wi n 0 64 then 0 else 2 else 1)) ∧ Drw w w' := by
  have hs := series_ref g T a b c d t w hG
  obtain ⟨v, hv⟩ : ∃ v, v = vsr a b c d := ⟨_, rfl⟩
  obtain ⟨p, hp⟩ : ∃ p, p = wi n 0 64 := ⟨_, rfl⟩
  have hq := places_ref n
  rw [← hv] at hs ⊢
  rw [← hp] at hq ⊢
  clear hv hp
  cases v <;> cases p
  all_goals
    go_enter Try.func53, Try.ntmps53
    go_wp2_with (first
      | (go_at_call 101; refine hs.mono ?_; rintro e w1 ⟨rfl, nd, rfl⟩)
      | (go_at_call 102; refine (hq _).mono ?_; rintro e w1 ⟨rfl, rfl⟩))
    go_ret
    exact ⟨rfl, _, rfl⟩
end Go.Proofs.Ytjgikfejfglllaa
