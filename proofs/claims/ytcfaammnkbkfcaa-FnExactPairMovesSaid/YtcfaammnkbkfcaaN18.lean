/- What is given: the reference. -/
import Derived.Test.YtcfaammnkbkfcaaN17
set_option linter.unusedVariables false
set_option linter.unusedSimpArgs false
namespace Go.Proofs.Ytcfaammnkbkfcaa
open Go.RowKit


def gcode (a b c d : Int) (ts : List Int) : Int := if vtm ts = true then (if pok [a, b, c, d] = true then 0 else 2) else 1
theorem pok_eq (a b c d : Int) : pok [a, b, c, d] = (wi a (-1000000000) 1000000000 && wi b (-1000000000) 1000000000 && wi c (-1000000000) 1000000000 && wi d (-1000000000) 1000000000) := by
  unfold pok
  rw [Bool.eq_iff_iff, decide_eq_true_eq]
  simp only [Bool.and_eq_true]
  constructor
  · intro h
    exact ⟨⟨⟨h 0 (by simp), h 1 (by simp)⟩, h 2 (by simp)⟩, h 3 (by simp)⟩
  · rintro ⟨⟨⟨h0, h1⟩, h2⟩, h3⟩ j hj
    match j, hj with
    | 0, _ => exact h0
    | 1, _ => exact h1
    | 2, _ => exact h2
    | 3, _ => exact h3
    | j + 4, hj => simp at hj; omega
set_option maxHeartbeats 4000000 in
theorem given_any (g : Nat) (a b c d : Int) (v : Value) (ts : List Int) (hlen : ts.length ≤ 1048576) (h64 : ∀ j, j < ts.length → I64 (ts.getD j 0)) (w : World) (hg : Blk w g 45 #[.int .i64 a, .int .i64 b, .int .i64 c, .int .i64 d]) (hr : Rd w v ts) :
    Calls Try.prog 99 #[.pointer (some ⟨g, 0, none⟩), v] w fun e w' => e = .returned (.int .i64 (gcode a b c d ts)) ∧ w = w' := by
  have hvt := refTerms_any v ts hlen h64 w hr
  have c0 : w.cell? ⟨g, 0, none⟩ = some (.int .i64 a) := hg.cell 0
  have c1 : w.cell? ⟨g, 1, none⟩ = some (.int .i64 b) := hg.cell 1
  have c2 : w.cell? ⟨g, 2, none⟩ = some (.int .i64 c) := hg.cell 2
  have c3 : w.cell? ⟨g, 3, none⟩ = some (.int .i64 d) := hg.cell 3
  have i0 := fun w => in_any a (-1000000000) 1000000000 w
  have i1 := fun w => in_any b (-1000000000) 1000000000 w
  have i2 := fun w => in_any c (-1000000000) 1000000000 w
  have i3 := fun w => in_any d (-1000000000) 1000000000 w
  unfold gcode
  rw [pok_eq]
  obtain ⟨V, hV⟩ : ∃ V, V = vtm ts := ⟨_, rfl⟩
  obtain ⟨x0, hx0⟩ : ∃ V, V = wi a (-1000000000) 1000000000 := ⟨_, rfl⟩
  obtain ⟨x1, hx1⟩ : ∃ V, V = wi b (-1000000000) 1000000000 := ⟨_, rfl⟩
  obtain ⟨x2, hx2⟩ : ∃ V, V = wi c (-1000000000) 1000000000 := ⟨_, rfl⟩
  obtain ⟨x3, hx3⟩ : ∃ V, V = wi d (-1000000000) 1000000000 := ⟨_, rfl⟩
  rw [← hV] at hvt ⊢
  rw [← hx0] at i0 ⊢
  rw [← hx1] at i1 ⊢
  rw [← hx2] at i2 ⊢
  rw [← hx3] at i3 ⊢
  clear hV hx0 hx1 hx2 hx3 hg hr h64 hlen
  cases V
  · simp only [Bool.false_eq_true, if_false]
    clear i0 i1 i2 i3
    go_enter Try.func99, Try.ntmps99
    go_wp2_with (go_at_call 107; refine hvt.mono ?_; rintro e w' ⟨rfl, rfl⟩)
    go_ret
    exact ⟨rfl, rfl⟩
  · cases x0
    · simp only [Bool.false_and, Bool.true_and, Bool.false_eq_true, if_false, if_true]
      go_enter Try.func99, Try.ntmps99
      go_wp2_with (first | (go_at_call 107; refine hvt.mono ?_; rintro e w' ⟨rfl, rfl⟩) | (go_at_call_of 127 (Value.int IntKind.i64 a); refine (i0 _).mono ?_; rintro e w' ⟨rfl, rfl⟩) | (go_at_call_of 127 (Value.int IntKind.i64 b); refine (i1 _).mono ?_; rintro e w' ⟨rfl, rfl⟩) | (go_at_call_of 127 (Value.int IntKind.i64 c); refine (i2 _).mono ?_; rintro e w' ⟨rfl, rfl⟩) | (go_at_call_of 127 (Value.int IntKind.i64 d); refine (i3 _).mono ?_; rintro e w' ⟨rfl, rfl⟩))
      go_ret
      exact ⟨rfl, rfl⟩
    · cases x1
      · simp only [Bool.false_and, Bool.true_and, Bool.false_eq_true, if_false, if_true]
        go_enter Try.func99, Try.ntmps99
        go_wp2_with (first | (go_at_call 107; refine hvt.mono ?_; rintro e w' ⟨rfl, rfl⟩) | (go_at_call_of 127 (Value.int IntKind.i64 a); refine (i0 _).mono ?_; rintro e w' ⟨rfl, rfl⟩) | (go_at_call_of 127 (Value.int IntKind.i64 b); refine (i1 _).mono ?_; rintro e w' ⟨rfl, rfl⟩) | (go_at_call_of 127 (Value.int IntKind.i64 c); refine (i2 _).mono ?_; rintro e w' ⟨rfl, rfl⟩) | (go_at_call_of 127 (Value.int IntKind.i64 d); refine (i3 _).mono ?_; rintro e w' ⟨rfl, rfl⟩))
        go_ret
        exact ⟨rfl, rfl⟩
      · cases x2
        · simp only [Bool.false_and, Bool.true_and, Bool.false_eq_true, if_false, if_true]
          go_enter Try.func99, Try.ntmps99
          go_wp2_with (first | (go_at_call 107; refine hvt.mono ?_; rintro e w' ⟨rfl, rfl⟩) | (go_at_call_of 127 (Value.int IntKind.i64 a); refine (i0 _).mono ?_; rintro e w' ⟨rfl, rfl⟩) | (go_at_call_of 127 (Value.int IntKind.i64 b); refine (i1 _).mono ?_; rintro e w' ⟨rfl, rfl⟩) | (go_at_call_of 127 (Value.int IntKind.i64 c); refine (i2 _).mono ?_; rintro e w' ⟨rfl, rfl⟩) | (go_at_call_of 127 (Value.int IntKind.i64 d); refine (i3 _).mono ?_; rintro e w' ⟨rfl, rfl⟩))
          go_ret
          exact ⟨rfl, rfl⟩
        · cases x3
          · simp only [Bool.false_and, Bool.true_and, Bool.false_eq_true, if_false, if_true]
            go_enter Try.func99, Try.ntmps99
            go_wp2_with (first | (go_at_call 107; refine hvt.mono ?_; rintro e w' ⟨rfl, rfl⟩) | (go_at_call_of 127 (Value.int IntKind.i64 a); refine (i0 _).mono ?_; rintro e w' ⟨rfl, rfl⟩) | (go_at_call_of 127 (Value.int IntKind.i64 b); refine (i1 _).mono ?_; rintro e w' ⟨rfl, rfl⟩) | (go_at_call_of 127 (Value.int IntKind.i64 c); refine (i2 _).mono ?_; rintro e w' ⟨rfl, rfl⟩) | (go_at_call_of 127 (Value.int IntKind.i64 d); refine (i3 _).mono ?_; rintro e w' ⟨rfl, rfl⟩))
            go_ret
            exact ⟨rfl, rfl⟩
          · simp only [Bool.false_and, Bool.true_and, Bool.false_eq_true, if_false, if_true]
            go_enter Try.func99, Try.ntmps99
            go_wp2_with (first | (go_at_call 107; refine hvt.mono ?_; rintro e w' ⟨rfl, rfl⟩) | (go_at_call_of 127 (Value.int IntKind.i64 a); refine (i0 _).mono ?_; rintro e w' ⟨rfl, rfl⟩) | (go_at_call_of 127 (Value.int IntKind.i64 b); refine (i1 _).mono ?_; rintro e w' ⟨rfl, rfl⟩) | (go_at_call_of 127 (Value.int IntKind.i64 c); refine (i2 _).mono ?_; rintro e w' ⟨rfl, rfl⟩) | (go_at_call_of 127 (Value.int IntKind.i64 d); refine (i3 _).mono ?_; rintro e w' ⟨rfl, rfl⟩))
            go_ret
            exact ⟨rfl, rfl⟩
end Go.Proofs.Ytcfaammnkbkfcaa
