/- What holds of the root of each number below 1,024, as the law asks it. -/
import Derived.Test.YtjgikfejfglllaaP1
import Derived.Test.YtjgikfejfglllaaF2
set_option linter.unusedVariables false
set_option linter.unusedSimpArgs false
namespace Go.Proofs.Ytjgikfejfglllaa
open Go.RowKit


/-- What the law asks of a unit, as a statement. -/
def Pell (n : Nat) : Option (Nat × Nat) → Prop
  | none => True
  | some (x, y) => x * x < pw 6 → y * y < pw 6 → n * (y * y) < pw 6 → x * x = n * (y * y) + 1 ∧ 0 < n * (y * y)
theorem pell_of {n : Nat} {R : Option (Nat × Nat)} (h : pellB n R = true) : Pell n R := by
  cases R with
  | none => trivial
  | some xy =>
    obtain ⟨x, y⟩ := xy
    intro h1 h2 h3
    simp [pellB, h1, h2, h3] at h
    exact ⟨h.1, by simpa [Nat.pos_iff_ne_zero] using h.2⟩
theorem isq_ne {n : Nat} (h : n ≤ 1000000) : isq n * isq n ≤ n ∧ n < (isq n + 1) * (isq n + 1) := isq_at h
/-- What holds of the root of each number below 1,024. -/
theorem root_sq {n : Nat} (h : n < 1024) (hs : isq n * isq n = n) : rootT n = (isq n, [], 0) := rootT_sq (by omega) hs
theorem root_in {n : Nat} (h : n < 1024) (hs : isq n * isq n ≠ n) : ∃ l, rootT n = (isq n, l, 0) ∧ l ≠ [] ∧ l.getD (l.length - 1) 0 = 2 * isq n ∧ (∀ i, i + 1 < l.length → l.getD i 0 = l.getD (l.length - 2 - i) 0) ∧ Pell n (crun (isq n) l (unitN l + 1) 0 1 0 0 1) := by
  have hc := rootChk_all n h
  have hr := rootT_in (n := n) (by omega) hs
  simp only [rootChk, hs, decide_false, Bool.false_or] at hc
  cases hp : period n with
  | none => rw [hp] at hc; cases hc
  | some l =>
    rw [hp] at hc hr
    simp only [Bool.and_eq_true, decide_eq_true_eq, Bool.not_eq_true', List.isEmpty_eq_false_iff] at hc
    obtain ⟨⟨⟨h1, h2⟩, h3⟩, h4⟩ := hc
    refine ⟨l, hr, h1, h2, fun i hi => ?_, ?_⟩
    · have e : (l.take (l.length - 1))[i]? = ((l.take (l.length - 1)).reverse)[i]? := congrArg (fun z : List Nat => z[i]?) h3
      rw [List.getElem?_reverse (by simp; omega), List.getElem?_take, if_pos (by omega), List.getElem?_take, if_pos (by simp; omega)] at e
      rw [List.getD_eq_getElem?_getD, List.getD_eq_getElem?_getD, e]
      congr 2
      first | omega | (simp only [List.length_take]; omega)
    · rw [crun_two _ _ _ _ _ _ _ (by unfold unitN; split <;> omega)]
      exact pell_of h4
theorem unT_sq {n : Nat} (h : rootT n = (isq n, [], 0)) : unT n = .tuple #[wdv false 0, wdv false 0, .int .i64 4] := by
  unfold unT
  rw [h]
  rfl
theorem unT_in {n : Nat} {l : List Nat} (h : rootT n = (isq n, l, 0)) (hl : l ≠ []) : unT n = cvalue (crun (isq n) l (unitN l + 1) 0 1 0 0 1) := by
  unfold unT unitK
  rw [h]
  simp only [if_true]
  rw [if_neg hl]
  rfl
theorem rta_sq {n : Nat} (hn : n < 1024) (h : rootT n = (isq n, [], 0)) : rtaT n 1 = (0, 6) := by
  have hi : idxT n 1 1000000000 = 6 := by
    unfold idxT
    rw [h]
    have w1 : wi n 0 1000000 = true := by simp [wi]; omega
    have w2 : wi 1 0 1000000000 = true := by simp [wi]
    simp [w1, w2]
  unfold rtaT
  rw [hi]
  rfl
theorem rta_in {n k : Nat} {l : List Nat} (hn : n < 1024) (hk : k < 1000) (h : rootT n = (isq n, l, 0)) (hl : l ≠ []) : rtaT n k = (((rterm (isq n) l k : Nat) : Int), 0) := by
  have hi : idxT n k 1000000000 = 0 := by
    unfold idxT
    rw [h]
    have w1 : wi n 0 1000000 = true := by simp [wi]; omega
    have w2 : wi k 0 1000000000 = true := by simp [wi]; omega
    simp [w1, w2, hl]
  unfold rtaT
  rw [hi, h]
  rfl
end Go.Proofs.Ytjgikfejfglllaa
