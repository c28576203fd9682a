/- PairTerms, PairMoves. -/
import Derived.Test.YtcfaammnkbkfcaaN16
set_option linter.unusedVariables false
set_option linter.unusedSimpArgs false
namespace Go.Proofs.Ytcfaammnkbkfcaa
open Go.RowKit


def pcode (a b c d : Int) (ts : List Int) : Int := if vtm ts = true then (if pok [a, b, c, d] = true then cod (stopI (fin a b c d ts stopI)) (fin a b c d ts stopI).gl else 2) else 1
def pterms (a b c d : Int) (ts : List Int) : List Int := if pcode a b c d ts = 0 then (fin a b c d ts stopI).gl else []
def pmoves (a b c d : Int) (ts : List Int) : List (Int × Int) := if pcode a b c d ts = 0 then (fin a b c d ts stopI).ml else []
theorem own_mono {w : World} {base base' n : Nat} {e : TypeId} {size : Nat} {v : Value} {xs : List Value} (h : w.ownsRow base e size v n xs) (hb : base' ≤ base) : w.ownsRow base' e size v n xs := by
  refine ⟨h.1, ?_⟩
  rcases h.2 with h2 | ⟨g, cap, cur, h3, h4, h5⟩
  · exact .inl h2
  · exact .inr ⟨g, cap, cur, h3, Nat.le_trans hb h4, h5⟩
theorem own_nil (w : World) (base : Nat) (e : TypeId) (size : Nat) : w.ownsRow base e size (.slice none 0 0) 0 [] := ⟨by simp, .inl ⟨rfl, rfl⟩⟩
theorem run_any (a b c d : Int) (v : Value) (ts : List Int) (hlen : ts.length ≤ 1048576) (w : World) (hr : Rd w v ts) :
    Calls Try.prog 102 #[.agg #[.int .i64 a, .int .i64 b, .int .i64 c, .int .i64 d], v] w fun e w' => (∃ q, e = .returned (.tuple #[.pointer q, .int .i64 (pcode a b c d ts)]) ∧
      (pcode a b c d ts = 0 → ∃ g, q = some ⟨g, 0, none⟩ ∧ w.heap.size ≤ g ∧ St w' 138 w.heap.size g (pmoves a b c d ts) (pterms a b c d ts) (stopI (fin a b c d ts stopI)))) ∧ Below w.heap.size w w' := by
  by_cases hv : vtm ts = true
  · have hr0 := hr
    obtain ⟨A, cc, rfl, _⟩ := hr
    refine (run_good a b c d ts A cc hlen hv w hr0).mono ?_
    rintro e w' (⟨hp, rfl, hb⟩ | ⟨hp, g, rfl, hg, hS, hb⟩)
    · have hc : pcode a b c d ts = 2 := by unfold pcode; rw [if_pos hv, if_neg (by rw [hp]; simp)]
      rw [hc]
      exact ⟨⟨none, rfl, fun h => absurd h (by decide)⟩, hb⟩
    · have hc : pcode a b c d ts = cod (stopI (fin a b c d ts stopI)) (fin a b c d ts stopI).gl := by unfold pcode; rw [if_pos hv, if_pos hp]
      refine ⟨⟨some ⟨g, 0, none⟩, by rw [hc], fun h => ⟨g, rfl, hg, ?_⟩⟩, hb⟩
      unfold pmoves pterms
      rw [if_pos h, if_pos h]
      exact hS
  · have hv : vtm ts = false := by simpa using hv
    have hc : pcode a b c d ts = 1 := by unfold pcode; rw [if_neg (by rw [hv]; simp)]
    rw [hc]
    refine (run_bad1 a b c d v ts hlen hv w hr).mono ?_
    rintro e w' ⟨rfl, hb⟩
    exact ⟨⟨none, rfl, fun h => absurd h (by decide)⟩, hb⟩

set_option maxHeartbeats 2000000 in
theorem pairTerms_any (a b c d : Int) (v : Value) (ts : List Int) (hlen : ts.length ≤ 1048576) (w : World) (hr : Rd w v ts) :
    Calls Try.prog 26 #[.agg #[.int .i64 a, .int .i64 b, .int .i64 c, .int .i64 d], v] w fun e w' => (∃ q, e = .returned (.tuple #[q, .int .i64 (pcode a b c d ts)]) ∧ w'.ownsRow w.heap.size 2 1 q (pterms a b c d ts).length (iz (pterms a b c d ts))) ∧ Below w.heap.size w w' := by
  have hb := below_alloc (Below.refl w.heap.size w) (.cells #[.int .i64 a, .int .i64 b, .int .i64 c, .int .i64 d] 45)
  have hrun := run_any a b c d v ts hlen _ (hr.later hb)
  go_enter Try.func26, Try.ntmps26
  go_wp2_with fail
  refine hrun.mono ?_
  rintro e w' ⟨⟨q, rfl, hq⟩, hb1⟩
  clear hrun
  have hB : Below w.heap.size w w' := below_then hb hb1
  obtain ⟨L, hL⟩ : ∃ L, L = pterms a b c d ts := ⟨_, rfl⟩
  obtain ⟨kd, hkd⟩ : ∃ k, k = pcode a b c d ts := ⟨_, rfl⟩
  rw [← hkd] at hq ⊢
  by_cases h0 : kd = 0
  · obtain ⟨g, rfl, hg, mv, gv, hb1, hm, hgv⟩ := hq h0
    have hrow := own_mono (hgv) (base' := w.heap.size) (by simp)
    have hcell : w'.cell? ⟨g, 1, none⟩ = some gv := hb1.cell 1
    have HK := Lib.hid hkd
    obtain ⟨vA, vc, rfl⟩ := own_slice hgv
    clear hm hgv hb1 hL hq hkd hb
    subst h0
    go_wp2
    go_ret2
    exact ⟨⟨_, by rw [← HK.out]; rfl, hrow⟩, hB⟩
  · have hb0 : (kd != 0) = true := bne_iff_ne.2 h0
    have hl : pterms a b c d ts = [] := by unfold pterms; rw [if_neg (by rw [← hkd]; exact h0)]
    rw [hl] at hL
    have HL := Lib.hid hl
    have HK := Lib.hid hkd
    have H0 := Lib.hid h0
    clear hq hl hL hkd h0 hb hb1
    go_wp2
    go_ret2
    refine ⟨⟨.slice none 0 0, by rw [← HK.out]; rfl, ?_⟩, hB⟩
    rw [HL.out]
    exact own_nil _ _ _ _

set_option maxHeartbeats 2000000 in
theorem pairMoves_any (a b c d : Int) (v : Value) (ts : List Int) (hlen : ts.length ≤ 1048576) (w : World) (hr : Rd w v ts) :
    Calls Try.prog 31 #[.agg #[.int .i64 a, .int .i64 b, .int .i64 c, .int .i64 d], v] w fun e w' => (∃ q, e = .returned (.tuple #[q, .int .i64 (pcode a b c d ts)]) ∧ w'.ownsRow w.heap.size 62 2 q (pmoves a b c d ts).length (mz (pmoves a b c d ts))) ∧ Below w.heap.size w w' := by
  have hb := below_alloc (Below.refl w.heap.size w) (.cells #[.int .i64 a, .int .i64 b, .int .i64 c, .int .i64 d] 45)
  have hrun := run_any a b c d v ts hlen _ (hr.later hb)
  go_enter Try.func31, Try.ntmps31
  go_wp2_with fail
  refine hrun.mono ?_
  rintro e w' ⟨⟨q, rfl, hq⟩, hb1⟩
  clear hrun
  have hB : Below w.heap.size w w' := below_then hb hb1
  obtain ⟨L, hL⟩ : ∃ L, L = pmoves a b c d ts := ⟨_, rfl⟩
  obtain ⟨kd, hkd⟩ : ∃ k, k = pcode a b c d ts := ⟨_, rfl⟩
  rw [← hkd] at hq ⊢
  by_cases h0 : kd = 0
  · obtain ⟨g, rfl, hg, mv, gv, hb1, hm, hgv⟩ := hq h0
    have hrow := own_mono (hm) (base' := w.heap.size) (by simp)
    have hcell : w'.cell? ⟨g, 0, none⟩ = some mv := hb1.cell 0
    have HK := Lib.hid hkd
    obtain ⟨vA, vc, rfl⟩ := own_slice hm
    clear hm hgv hb1 hL hq hkd hb
    subst h0
    go_wp2
    go_ret2
    exact ⟨⟨_, by rw [← HK.out]; rfl, hrow⟩, hB⟩
  · have hb0 : (kd != 0) = true := bne_iff_ne.2 h0
    have hl : pmoves a b c d ts = [] := by unfold pmoves; rw [if_neg (by rw [← hkd]; exact h0)]
    rw [hl] at hL
    have HL := Lib.hid hl
    have HK := Lib.hid hkd
    have H0 := Lib.hid h0
    clear hq hl hL hkd h0 hb hb1
    go_wp2
    go_ret2
    refine ⟨⟨.slice none 0 0, by rw [← HK.out]; rfl, ?_⟩, hB⟩
    rw [HL.out]
    exact own_nil _ _ _ _
end Go.Proofs.Ytcfaammnkbkfcaa
