/- The convergents of roots: plain laws. -/
import Derived.Test.YtjgikfejfglllaaA2
import Derived.Test.YtjgikfejfglllaaA1
import Derived.Test.YtjgikfejfglllaaM2
import Derived.Test.YtjgikfejfglllaaS6
import Derived.Test.YtjgikfejfglllaaR6
set_option linter.unusedVariables false
set_option linter.unusedSimpArgs false
namespace Go.Proofs.Ytjgikfejfglllaa
open Go.RowKit


theorem cy_six {M N : Nat} (hM : M < pw 6) (hN : N < pw 6) : decide (cy M N 6 ≠ 0) = decide (¬ M + N < pw 6) := by
  have h := cy_split M N 6
  have h1 := pw_pos 6
  rw [Nat.mod_eq_of_lt hM, Nat.mod_eq_of_lt hN] at h
  have h2 := Nat.mod_lt (M + N) h1
  have h3 := cy_le M N 6
  refine decide_eq_decide.2 ⟨fun hc hlt => ?_, fun hc h0 => ?_⟩
  · have : cy M N 6 = 1 := by omega
    rw [this] at h
    omega
  · rw [h0] at h
    omega
theorem wideN (n : Nat) (h : n ≤ 9223372036854775807) (w : World) : Calls Try.prog 112 #[.int .i64 n] w fun e w' => e = .returned (wdv false n) ∧ Below w.heap.size w w' := by
  have := wideOf_any n (by omega) (by omega) w
  rw [decide_eq_false (by omega)] at this
  exact this
theorem refOfN (n : Nat) (h : n ≤ 9223372036854775807) (w : World) : Calls Try.prog 71 #[.int .i64 n] w fun e w' => e = .returned (wdv false n) ∧ Below w.heap.size w w' := by
  have := refOf_any n (by omega) (by omega) w
  rw [decide_eq_false (by omega)] at this
  exact this
theorem addN (g t : Nat) (cs : Array Value) (ov : Bool) (M N : Nat) (hM : M < pw 6) (hN : N < pw 6) (w : World) (hG : Blk w g t cs) (h0 : cs[0]? = some (.bool ov)) :
    Calls Try.prog 113 #[.pointer (some ⟨g, 0, none⟩), wdv false M, wdv false N] w fun e w' => e = .returned (wdv false ((M + N) % pw 6)) ∧ Chg w w' g ∧ Blk w' g t (cs.setIfInBounds 0 (.bool (ov || decide (¬ M + N < pw 6)))) := by
  have := calcAdd_same g t cs ov false M N hM hN w hG h0
  rw [cy_six hM hN] at this
  exact this
theorem mulN (g t : Nat) (cs : Array Value) (ov : Bool) (M N : Nat) (hM : M < pw 6) (hN : N < pw 6) (w : World) (hG : Blk w g t cs) (h0 : cs[0]? = some (.bool ov)) :
    Calls Try.prog 114 #[.pointer (some ⟨g, 0, none⟩), wdv false M, wdv false N] w fun e w' => e = .returned (wdv false (if M * N < pw 6 then M * N else 0)) ∧ Chg w w' g ∧ Blk w' g t (cs.setIfInBounds 0 (.bool (ov || decide (¬ M * N < pw 6)))) :=
  calcMul_wd g t cs ov false false M N hM hN w hG h0
theorem refAddN (M N : Nat) (hM : M < pw 6) (hN : N < pw 6) (w : World) :
    Calls Try.prog 72 #[wdv false M, wdv false N] w fun e w' => e = .returned (.tuple #[wdv false (if M + N < pw 6 then M + N else 0), .int .i64 (if M + N < pw 6 then 0 else 3)]) ∧ Below w.heap.size w w' := by
  have hc := cy_six hM hN
  by_cases h : M + N < pw 6
  · rw [if_pos h, if_pos h]
    refine refAdd_same false M N hM hN ?_ h w
    simpa [h] using hc
  · rw [if_neg h, if_neg h]
    refine refAdd_over false M N hM hN ?_ w
    simpa [h] using hc
theorem refMulN (M N : Nat) (hM : M < pw 6) (hN : N < pw 6) (w : World) :
    Calls Try.prog 70 #[wdv false M, wdv false N] w fun e w' => e = .returned (.tuple #[wdv false (if M * N < pw 6 then M * N else 0), .int .i64 (if M * N < pw 6 then 0 else 3)]) ∧ Below w.heap.size w w' := by
  have := refMul_any false false M N hM hN w
  by_cases h : M * N < pw 6
  · rw [if_pos h] at this
    rw [if_pos h, if_pos h]
    exact this
  · rw [if_neg h] at this
    rw [if_neg h, if_neg h]
    exact this

/-- The terms of a period are small. -/
theorem rper_le (n f B : Nat) (hf : f * f < n) (hn : n < (f + 1) * (f + 1)) (hB : 2 * f ≤ B) : ∀ k m d a acc l, RInv n f m d a → (∀ x ∈ acc, x ≤ B) → rper n f k m d a acc = some l → ∀ x ∈ l, x ≤ B := by
  intro k
  induction k with
  | zero => intro m d a acc l _ _ h; simp [rper] at h
  | succ k ih =>
    intro m d a acc l hi ha h
    rw [rper] at h
    by_cases c : a = 2 * f
    · rw [if_pos c] at h
      injection h with h
      rw [← h]
      exact ha
    · rw [if_neg c] at h
      by_cases c2 : acc.length = 3000
      · rw [if_pos c2] at h
        cases h
      · rw [if_neg c2] at h
        have h2 := (hi.step hf hn).2.2
        refine ih _ _ _ _ _ h2 (fun x hx => ?_) h
        rcases List.mem_append.1 hx with hx | hx
        · exact ha x hx
        · obtain rfl := List.mem_singleton.1 hx
          have h3 := h2.fits.2.2.2
          have h4 := h2.mf
          omega
theorem rootT_small (n : Int) : (rootT n).1 ≤ 1000 ∧ ∀ x ∈ (rootT n).2.1, x ≤ 2000 := by
  by_cases h : wi n 0 1000000 = true
  · obtain ⟨N, rfl⟩ : ∃ N : Nat, n = N := ⟨n.toNat, by simp [wi] at h; omega⟩
    have hN : N ≤ 1000000 := by simp [wi] at h; omega
    have hq := isq_small hN
    by_cases hs : isq N * isq N = N
    · rw [rootT_sq hN hs]
      exact ⟨hq, fun x hx => by cases hx⟩
    · rw [rootT_in hN hs]
      obtain ⟨h1, h2⟩ := isq_at hN
      have hf1 : 1 ≤ isq N := by
        rcases Nat.eq_zero_or_pos (isq N) with c | c
        · rw [c] at h1 h2 hs
          omega
        · exact c
      cases hp : period N with
      | none => exact ⟨by simp, fun x hx => by cases hx⟩
      | some l => exact ⟨hq, rper_le N (isq N) 2000 (by omega) h2 (by omega) _ _ _ _ _ _ (RInv.start hf1) (fun x hx => by cases hx) hp⟩
  · rw [rootT_out (by simpa using h)]
    exact ⟨by simp, fun x hx => by cases hx⟩
theorem rterm_le {f : Nat} {l : List Nat} {B : Nat} (hf : f ≤ B) (hl : ∀ x ∈ l, x ≤ B) (k : Nat) : rterm f l k ≤ B := by
  unfold rterm
  split
  · exact hf
  · rw [List.getD_eq_getElem?_getD]
    cases hx : l[(k - 1) % l.length]? with
    | none => simp
    | some x => exact hl x (List.mem_of_getElem? hx)

/-- One step of the convergents. -/
def cfit (a p q p0 q0 : Nat) : Bool := decide (a * p < pw 6) && decide (a * q < pw 6) && decide (a * p + p0 < pw 6) && decide (a * q + q0 < pw 6)
/-- The convergent behind n terms more, or nothing if a number does not fit. -/
def crun (f : Nat) (l : List Nat) : Nat → Nat → Nat → Nat → Nat → Nat → Option (Nat × Nat)
  | 0, _, p, q, _, _ => some (p, q)
  | n + 1, i, p, q, p0, q0 => if cfit (rterm f l i) p q p0 q0 then crun f l n (i + 1) (rterm f l i * p + p0) (rterm f l i * q + q0) p q else none
/-- What is returned. -/
def cvalue : Option (Nat × Nat) → Value
  | some (p, q) => .tuple #[wdv false p, wdv false q, .int .i64 0]
  | none => .tuple #[wdv false 0, wdv false 0, .int .i64 3]
end Go.Proofs.Ytjgikfejfglllaa
