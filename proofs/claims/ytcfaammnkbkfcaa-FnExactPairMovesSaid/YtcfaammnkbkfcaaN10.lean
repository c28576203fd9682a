/- Steps: tools. -/
import Derived.Test.YtcfaammnkbkfcaaN9
set_option linter.unusedVariables false
set_option linter.unusedSimpArgs false
namespace Go.Proofs.Ytcfaammnkbkfcaa
open Go.RowKit


theorem below_thenB {B : Nat} {w w1 w2 : World} (h : Below B w w1) (k : Below w1.heap.size w1 w2) (hB : B ≤ w1.heap.size) : Below B w w2 :=
  h.trans ⟨k.os, k.tape, k.output, k.size, fun i hi => k.block i (Nat.lt_of_lt_of_le hi hB)⟩
theorem St.far {w w' : World} {t B g k t' : Nat} {ml : List (Int × Int)} {gl : List Int} {ov : Bool} {cs : Array Value} (h : St w t B g ml gl ov) (hk : Blk w k t' cs) (h1 : t' ≠ t) (h2 : t' ≠ 62) (h3 : t' ≠ 2) (hc : Chg w w' k) : St w' t B g ml gl ov := by
  obtain ⟨mv, gv, hb, hm, hg⟩ := h
  have hgb : w.grownBy w' (some k) := ⟨hc.os, hc.tape, hc.output, hc.size, fun i hi hne => hc.block i hi fun e => hne (by rw [e])⟩
  exact ⟨mv, gv, hb.chg hc (Blk.ne_ hb hk (Ne.symm h1)), hm.kept hgb (.inr (own_blk_ne hm hk (Ne.symm h2))), hg.kept hgb (.inr (own_blk_ne hg hk (Ne.symm h3)))⟩
theorem sz45 : (Try.prog.info? 45).map (·.size) = some 4 := by kernel_rfl
theorem cell_st (B g : Nat) (ml : List (Int × Int)) (gl : List Int) (ov : Bool) (a t b : Int) (ha : a.natAbs ≤ 4000000000000000) (ht : t.natAbs ≤ 4000000000000000) (hb : b.natAbs ≤ 4000000000000000) (w : World) (hg : B ≤ g) (hS : St w 138 B g ml gl ov) :
    Calls Try.prog 166 #[.pointer (some ⟨g, 0, none⟩), .int .i64 a, .int .i64 t, .int .i64 b] w fun e w' => e = .returned (.int .i64 (celV a t b)) ∧ (St w' 138 B g ml gl (ov || !celOk a t b) ∧ Fr w w' B 138) := by
  obtain ⟨mv, gv, h1, hm, hgv⟩ := hS
  refine (cell_any g mv gv ov a t b ha ht hb w h1).mono ?_
  rintro e w' ⟨rfl, hc, hn⟩
  have hgb : w.grownBy w' (some g) := ⟨hc.os, hc.tape, hc.output, hc.size, fun i hi hne => hc.block i hi fun e => hne (by rw [e])⟩
  exact ⟨rfl, ⟨mv, gv, hn, hm.kept hgb (.inr (own_blk_ne hm h1 (by decide))), hgv.kept hgb (.inr (own_blk_ne hgv h1 (by decide)))⟩, Fr.of_chg h1 hg hc⟩
theorem workCell_st (B g : Nat) (ml : List (Int × Int)) (gl : List Int) (ok : Bool) (a b c : Int) (ha : a.natAbs ≤ 4000000000000000) (hb : b.natAbs ≤ 4000000000000000) (hc : c.natAbs ≤ 4000000000000000) (w : World) (hg : B ≤ g) (hS : St w 178 B g ml gl ok) :
    Calls Try.prog 147 #[.pointer (some ⟨g, 0, none⟩), .int .i64 a, .int .i64 b, .int .i64 c] w fun e w' => e = .returned (.int .i64 (celV a b c)) ∧ (St w' 178 B g ml gl (ok && celOk a b c) ∧ Fr w w' B 178) := by
  obtain ⟨mv, gv, h1, hm, hgv⟩ := hS
  refine (workCell_any g mv gv ok a b c ha hb hc w h1).mono ?_
  rintro e w' ⟨rfl, hc, hn⟩
  have hgb : w.grownBy w' (some g) := ⟨hc.os, hc.tape, hc.output, hc.size, fun i hi hne => hc.block i hi fun e => hne (by rw [e])⟩
  exact ⟨rfl, ⟨mv, gv, hn, hm.kept hgb (.inr (own_blk_ne hm h1 (by decide))), hgv.kept hgb (.inr (own_blk_ne hgv h1 (by decide)))⟩, Fr.of_chg h1 hg hc⟩
section
variable {P : Program} {ops : Array Oper} {Q : Exit → Act → World → Prop} {md : Region.Mode} {S : World → Prop} {n : Nat}
/-- A slice laid anew. -/
theorem rg_slice {i : Nat} {o : Oper} {fuel : Nat} {listed : Array Bool} {a : Act} {w : World} (L : Array Bool) (hL : listed.setIfInBounds i true = L) (d : Nat) (hdst : o.dst = some d) (hi : ops[i]? = some o) (hw : Region.wanted o (yielded ops a.tmps) = true)
    (ty k : Nat) (cs : Array Value) (hrun : (execOp a.eval o).run P w = .ok (.value (.slice (some ⟨w.heap.size, 0, none⟩) k k)) (w.alloc (.cells cs ty)))
    (h : ∀ g w', Blk w' g ty cs → Below w.heap.size w w' → (i < n → S w') ∧ wpAnyT P md ops Q S n fuel L { tmps := a.tmps.setIfInBounds d (.slice (some ⟨g, 0, none⟩) k k), defers := a.defers } w') : wpOp P ops Q i (fun a' w' => (i < n → S w') ∧ wpAnyT P md ops Q S n fuel (listed.setIfInBounds i true) a' w') a w := by
  refine rg_go hi hw ?_
  unfold Oper.wp
  rw [hrun, Oper.upon_value]
  show _ ∧ wpAnyT _ _ _ _ _ _ _ _ (a.put o.dst _) _
  rw [hdst, hL]
  exact h _ _ (Blk.new _ _ _) (below_alloc (Below.refl _ _) _)
end
theorem Rd.of_two {w : World} {g : Nat} {x y : Int} (h : Blk w g 2 #[.int .i64 x, .int .i64 y]) : Rd w (.slice (some ⟨g, 0, none⟩) 2 2) [x, y] := by
  refine ⟨_, 2, rfl, Nat.le_refl _, fun _ => ⟨g, rfl, h.lt, fun j z hj => ?_⟩⟩
  rw [h.cell]
  match j, hj with
  | 0, hj => simp at hj; simp [hj]
  | 1, hj => simp at hj; simp [hj]
  | j + 2, hj => simp at hj
end Go.Proofs.Ytcfaammnkbkfcaa
