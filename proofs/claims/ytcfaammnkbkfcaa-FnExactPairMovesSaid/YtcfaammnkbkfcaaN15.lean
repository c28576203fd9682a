/- A run: one step. -/
import Derived.Test.YtcfaammnkbkfcaaN13
import Derived.Test.YtcfaammnkbkfcaaN14
set_option linter.unusedVariables false
set_option linter.unusedSimpArgs false
namespace Go.Proofs.Ytcfaammnkbkfcaa
open Go.RowKit


def cls (s : Ps) : Array Value := #[.int .i64 s.a, .int .i64 s.b, .int .i64 s.c, .int .i64 s.d]
/-- The whole state of a run in memory. -/
structure PSt (w : World) (bs gp g gk : Nat) (s : Ps) : Prop where
  p : Blk w gp 45 (cls s)
  k : Blk w gk 3 #[.int .i64 s.tk]
  m : St w 138 bs g s.ml s.gl (stopI s)
/-- Terms that lie below. -/
def Tm (w : World) (bs : Nat) (A : Option Addr) (ts : List Int) : Prop := ∀ j, j < ts.length → ∃ gt, A = some ⟨gt, 0, none⟩ ∧ gt < bs ∧ w.cell? ⟨gt, j, none⟩ = some (.int .i64 (ts.getD j 0))
theorem Tm.below {w w' : World} {bs : Nat} {A : Option Addr} {ts : List Int} (h : Tm w bs A ts) (hb : Below bs w w') : Tm w' bs A ts := fun j hj => by
  obtain ⟨gt, h1, h2, h3⟩ := h j hj
  exact ⟨gt, h1, h2, (hb.cell (p := ⟨gt, j, none⟩) h2).trans h3⟩
theorem stop_give {s : Ps} (h : stopI s = false) : (false || decide (40 < s.gl.length + 1) || !celOk s.c (-s.v) s.a || !celOk s.d (-s.v) s.b) = stopI s.give := by
  have ho : s.ok = true := by unfold stopI at h; cases hh : s.ok <;> simp_all
  simp only [stopI, Ps.give, ho, List.length_append, List.length_cons, List.length_nil]
  cases celOk s.c (-s.v) s.a <;> cases celOk s.d (-s.v) s.b <;> simp
theorem stop_take {s : Ps} (t : Int) (h : stopI s = false) : (false || !celOk s.a t s.b || !celOk s.c t s.d) = stopI (s.take t) := by
  have ho : s.ok = true := by unfold stopI at h; cases hh : s.ok <;> simp_all
  have hl : decide (40 < s.gl.length) = false := by unfold stopI at h; cases hh : decide (40 < s.gl.length) <;> simp_all
  simp only [stopI, Ps.take, ho, hl]
  cases celOk s.a t s.b <;> cases celOk s.c t s.d <;> simp
theorem stop_ok {s : Ps} (h : stopI s = false) : s.ok = true := by unfold stopI at h; cases hh : s.ok <;> simp_all
theorem stepI_any (bs gp g gk : Nat) (ts : List Int) (cc : Nat) (A : Option Addr) (s : Ps) (hs : stopI s = false) (hI : Inv ts s) (hn : ts.length ≤ 40) (h9 : ∀ j, j < ts.length → (ts.getD j 0).natAbs ≤ 1000000000) (w : World) (hgp : bs ≤ gp) (hg : bs ≤ g) (hgk : bs ≤ gk) (hT : Tm w bs A ts) (hP : PSt w bs gp g gk s) :
    Calls Try.prog 149 #[.pointer (some ⟨gp, 0, none⟩), .pointer (some ⟨g, 0, none⟩), .slice A ts.length cc, .pointer (some ⟨gk, 0, none⟩)] w fun e w' => ((∃ s', stp ts s = some s' ∧ e = .returned (.bool (!stopI s')) ∧ PSt w' bs gp g gk s') ∨ (stp ts s = none ∧ e = .returned (.bool false) ∧ PSt w' bs gp g gk s)) ∧ Below bs w w' := by
  have ho := stop_ok hs
  obtain ⟨hp, hk, hm⟩ := hP
  rw [hs] at hm
  have h9m := hI.m9
  have hgm := hI.gm
  have htk := hI.tk
  by_cases hc : s.k = true ∧ 0 < s.tk
  · have hst : stp ts s = some s.give := by unfold stp; rw [if_pos hc]
    refine (step_give bs gp g gk s.a s.b s.c s.d s.tk ts.length cc A s.ml s.gl (hI.ha ho) (hI.hb ho) (hI.hc ho) (hI.hd ho) (by omega) (by omega) hn (by omega) hc.1 hc.2 w hgp hg hgk hp hk hm).mono ?_
    rintro e w' ⟨rfl, p1, k1, m1, b1⟩
    have hsg := stop_give hs
    unfold Ps.v at hsg
    rw [hsg] at m1 ⊢
    exact ⟨.inl ⟨_, hst, rfl, ⟨p1, k1, m1⟩⟩, b1⟩
  · by_cases hl : s.tk < ts.length
    · have hst : stp ts s = some (s.take (ts.getD s.tk 0)) := by unfold stp; rw [if_neg hc, if_pos hl]
      obtain ⟨gt, hA, hgt, hcell⟩ := hT s.tk hl
      refine (step_take bs gp g gk s.a s.b s.c s.d s.tk ts.length cc A s.ml s.gl (hI.ha ho) (hI.hb ho) (hI.hc ho) (hI.hd ho) (by omega) (by omega) hn (by omega) (ts.getD s.tk 0) (h9 _ hl) hl gt hA hgt hc w hgp hg hgk hp hcell hk hm).mono ?_
      rintro e w' ⟨rfl, p1, k1, m1, b1⟩
      have hsg := stop_take (ts.getD s.tk 0) hs
      rw [hsg] at m1 ⊢
      exact ⟨.inl ⟨_, hst, rfl, ⟨p1, k1, m1⟩⟩, b1⟩
    · by_cases he : s.tk = ts.length
      · have hst : stp ts s = some s.inf := by unfold stp; rw [if_neg hc, if_neg hl, if_pos he]
        refine (step_inf bs gp g gk s.a s.b s.c s.d s.tk ts.length cc A s.ml s.gl (hI.ha ho) (hI.hb ho) (hI.hc ho) (hI.hd ho) (by omega) (by omega) hn (by omega) he hc w hgp hg hgk hp hk hm).mono ?_
        rintro e w' ⟨rfl, p1, k1, m1, b1⟩
        have hsi : stopI s.inf = false := hs
        exact ⟨.inl ⟨_, hst, by rw [hsi]; rfl, ⟨p1, k1, by rw [hsi]; exact m1⟩⟩, b1⟩
      · have hst : stp ts s = none := by unfold stp; rw [if_neg hc, if_neg hl, if_neg he]
        refine (step_stop bs gp g gk s.a s.b s.c s.d s.tk ts.length cc A s.ml s.gl (hI.ha ho) (hI.hb ho) (hI.hc ho) (hI.hd ho) (by omega) (by omega) hn (by omega) (by omega) hc w hgp hg hgk hp hk hm).mono ?_
        rintro e w' ⟨rfl, p1, k1, m1, b1⟩
        exact ⟨.inr ⟨hst, rfl, ⟨p1, k1, by rw [hs]; exact m1⟩⟩, b1⟩
/-- The cells of a pair are in range. -/
def pok (l : List Int) : Bool := decide (∀ j, j < l.length → wi (l.getD j 0) (-1000000000) 1000000000 = true)
theorem pok_no {l : List Int} {j : Nat} (hj : j < l.length) (h : ¬ wi (l.getD j 0) (-1000000000) 1000000000 = true) : pok l = false := decide_eq_false fun e => h (e j hj)
theorem pok_at {l : List Int} (h : pok l = true) {j : Nat} (hj : j < l.length) : (l.getD j 0).natAbs ≤ 1000000000 := by
  have := of_decide_eq_true h j hj
  simp only [wi, Bool.and_eq_true, decide_eq_true_eq] at this
  omega
theorem vtm_at {l : List Int} (h : vtm l = true) : l.length ≤ 40 ∧ ∀ j, j < l.length → (l.getD j 0).natAbs ≤ 1000000000 := by
  have h := of_decide_eq_true h
  refine ⟨h.2.1, fun j hj => ?_⟩
  have := h.2.2.1 j hj
  simp only [vt1, wi, Bool.and_eq_true, decide_eq_true_eq] at this
  omega
theorem Rd.tm {w : World} {A : Option Addr} {cc : Nat} {ts : List Int} (h : Rd w (.slice A ts.length cc) ts) : Tm w w.heap.size A ts := by
  obtain ⟨A', c', e, _, hr⟩ := h
  injection e with e1 e2 e3
  subst e1
  intro j hj
  obtain ⟨g, hA, hg, hx⟩ := hr (by rintro rfl; exact absurd hj (by simp))
  refine ⟨g, hA, hg, ?_⟩
  rw [hx j _ (List.getElem?_eq_getElem hj)]
  simp [hj]
/-- The run's end. -/
def fin (a b c d : Int) (ts : List Int) (stop : Ps → Bool) : Ps := run stop ts 9000 (ps0 a b c d)
end Go.Proofs.Ytcfaammnkbkfcaa
