/- The law of roots: its smaller functions. -/
import Derived.Test.YtjgikfejfglllaaC5
set_option linter.unusedVariables false
set_option linter.unusedSimpArgs false
namespace Go.Proofs.Ytjgikfejfglllaa
open Go.RowKit


/-- A slice of n bytes can be read. -/
def Byt (w : World) (v : Value) (n : Nat) : Prop := ∃ A c, v = .slice A n c ∧ ∀ k, k < n → ∃ (b off x : Nat), A = some ⟨b, off, none⟩ ∧ b < w.heap.size ∧ w.cell? ⟨b, off + k, none⟩ = some (.int .u8 x) ∧ x ≤ 255
theorem Byt.later {w w' : World} {v : Value} {n : Nat} (h : Byt w v n) (hb : Below w.heap.size w w') : Byt w' v n := by
  obtain ⟨A, c, hv, hr⟩ := h
  refine ⟨A, c, hv, fun k hk => ?_⟩
  obtain ⟨b, off, x, hA, hlt, hc, hx⟩ := hr k hk
  exact ⟨b, off, x, hA, Nat.lt_of_lt_of_le hlt hb.size, (hb.cell (p := ⟨b, off + k, none⟩) hlt).trans hc, hx⟩
set_option maxHeartbeats 1000000 in
theorem a2Long_any (v : Value) (n : Nat) (w : World) (h : Byt w v n) : Calls Try.prog 20 #[v, v] w fun e w' => e = .returned (.bool (decide (3000 < n))) ∧ w = w' := by
  obtain ⟨A, c, rfl, hr⟩ := h
  clear hr
  by_cases hn : 3000 < n
  · rw [decide_eq_true hn]
    go_enter Try.func20, Try.ntmps20
    go_wp2
    go_ret
    exact ⟨rfl, rfl⟩
  · rw [decide_eq_false hn]
    have hd : decide (3000 < (n : Int)) = false := decide_eq_false (by omega)
    go_enter Try.func20, Try.ntmps20
    go_wp2
    go_ret
    exact ⟨rfl, rfl⟩
set_option maxHeartbeats 1000000 in
theorem a2At_any (v : Value) (n : Nat) (k m : Nat) (hk : k ≤ 100) (hm : 1 ≤ m) (hm2 : m ≤ 1000) (hn : n ≤ 3000) (w : World) (h : Byt w v n) : Calls Try.prog 21 #[v, .int .i64 k, .int .i64 m] w fun e w' => (∃ x : Nat, x < m ∧ e = .returned (.int .i64 x)) ∧ w = w' := by
  obtain ⟨A, c, rfl, hr⟩ := h
  by_cases hkn : k < n
  · obtain ⟨b, off, x, rfl, hlt, hc, hx⟩ := hr k hkn
    clear hr
    have hz : ¬ m = 0 := by omega
    have hmod : (x : Int) % (m : Int) = ((x % m : Nat) : Int) := by simp
    have hlt2 := Nat.mod_lt x hm
    have HM := Lib.hid hmod
    have h0 : 0 ≤ (x : Int) % (m : Int) := by omega
    have h1 : (x : Int) % (m : Int) < (m : Int) := by omega
    clear hmod
    go_enter Try.func21, Try.ntmps21
    go_wp2
    go_ret
    exact ⟨⟨x % m, hlt2, congrArg (fun z => Ending.returned (.int .i64 z)) HM.out⟩, rfl⟩
  · clear hr
    go_enter Try.func21, Try.ntmps21
    go_wp2
    go_ret
    exact ⟨⟨0, hm, rfl⟩, rfl⟩
theorem refRoots_any (n : Int) (h0 : -9223372036854775808 ≤ n) (h1 : n ≤ 9223372036854775807) (w : World) : Calls Try.prog 23 #[.int .i64 n] w fun e w' => ∃ v, e = .returned (.tuple #[.int .i64 (rootT n).1, v, .int .i64 (rootT n).2.2]) ∧ Rd w' v (rootT n).2.1 ∧ Below w.heap.size w w' := by
  go_enter Try.func23, Try.ntmps23
  go_wp2_with (go_at_call 58; refine (refPeriod_any n h0 h1 _).mono ?_; rintro e w' ⟨v, rfl, hv, hb⟩)
  go_ret3
  exact ⟨v, rfl, hv, hb⟩
theorem Rd.at {w : World} {A : Option Addr} {l : List Nat} (h : l ≠ [] → ∃ g, A = some ⟨g, 0, none⟩ ∧ g < w.heap.size ∧ ∀ (j x : Nat), l[j]? = some x → w.cell? ⟨g, j, none⟩ = some (.int .i64 x)) {k : Nat} (hk : k < l.length) :
    ∃ g, A = some ⟨g, 0, none⟩ ∧ w.cell? ⟨g, k, none⟩ = some (.int .i64 (l.getD k 0 : Nat)) := by
  obtain ⟨g, hA, hg, hx⟩ := h (by intro e; subst e; exact absurd hk (by simp))
  refine ⟨g, hA, ?_⟩
  rw [hx k _ (List.getElem?_eq_getElem hk)]
  simp [hk]
set_option maxHeartbeats 1000000 in
theorem same_any (v v' : Value) (l : List Nat) (hl : l.length ≤ 3000) (w : World) (h : Rd w v l) (h' : Rd w v' l) : Calls Try.prog 66 #[v, v'] w fun e w' => e = .returned (.bool true) ∧ Below w.heap.size w w' := by
  obtain ⟨A, c, rfl, hc, hr⟩ := h
  obtain ⟨A', c', rfl, hc', hr'⟩ := h'
  go_enter Try.func66, Try.ntmps66
  go_wp2
  go_loopw [5] (fun i wr => ∃ k : Nat, k ≤ l.length ∧ i = .int .i64 k ∧ Drw w wr)
    (fun i _ => l.length - (intOf i).toNat)
  case atStart => exact ⟨0, by omega, rfl, Drw.refl _⟩
  case round =>
    obtain ⟨k, hk, rfl, nd, rfl⟩ := hrel
    by_cases hlt : k < l.length
    · obtain ⟨g, rfl, hc1⟩ := Rd.at hr hlt
      obtain ⟨g', rfl, hc2⟩ := Rd.at hr' hlt
      obtain ⟨y, hy⟩ : ∃ y, y = l.getD k 0 := ⟨_, rfl⟩
      rw [← hy] at hc1 hc2
      have HR := Lib.hid hr
      have HR' := Lib.hid hr'
      clear hr hr' hy
      generalize l.length = len at *
      go_wp2
      go_quiet (fail)
      go_wp2
      go_roundw
      case rel => exact ⟨k + 1, by omega, by go_num, _, rfl⟩
      case measure => simp [intOf] <;> omega
    · clear hr hr'
      generalize l.length = len at *
      go_wp2
      go_ret
      exact ⟨rfl, below_drewN (Below.refl _ _) _⟩
theorem a2Same_any (v v' : Value) (l : List Nat) (hl : l.length ≤ 3000) (w : World) (h : Rd w v l) (h' : Rd w v' l) : Calls Try.prog 24 #[v, v'] w fun e w' => e = .returned (.bool true) ∧ Below w.heap.size w w' := by
  have hs := same_any v v' l hl w h h'
  go_enter Try.func24, Try.ntmps24
  go_wp2_with (go_at_call 66; refine hs.mono ?_; rintro e w' ⟨rfl, hb⟩)
  go_ret
  exact ⟨rfl, hb⟩
end Go.Proofs.Ytjgikfejfglllaa
