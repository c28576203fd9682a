/- More steps of regions that draw their order. -/
import Derived.Test.YtjgikfejfglllaaT13
import Derived.Test.YtjgikfejfglllaaChg
set_option linter.unusedVariables false
set_option linter.unusedSimpArgs false
namespace Go.Proofs.Ytjgikfejfglllaa
open Go.RowKit


section
variable {P : Program} {ops : Array Oper} {Q : Exit → Act → World → Prop} {md : Region.Mode} {S : World → Prop} {n : Nat}
/-- All operations that may come up. -/
theorem rg_list {l : List Nat} {fuel : Nat} {listed : Array Bool} {a : Act} {w : World} (hr : Region.ready md ops listed = l) (hl : l.isEmpty = false)
    (h : ∀ i ∈ l, wpOp P ops Q i (fun a' w' => (i < n → S w') ∧ wpAnyT P md ops Q S n fuel (listed.setIfInBounds i true) a' w') a w) : wpAnyT P md ops Q S n (fuel + 1) listed a w := by
  refine ⟨fun h0 => ?_, ?_⟩
  · rw [hr] at h0; subst h0; cases hl
  · rw [hr]; exact h
theorem rg_go {i : Nat} {o : Oper} {fuel : Nat} {listed : Array Bool} {a : Act} {w : World} (hi : ops[i]? = some o) (hw : Region.wanted o (yielded ops a.tmps) = true)
    (h : o.wp P a w (fun a' w' => (i < n → S w') ∧ wpAnyT P md ops Q S n fuel (listed.setIfInBounds i true) a' w') Q) : wpOp P ops Q i (fun a' w' => (i < n → S w') ∧ wpAnyT P md ops Q S n fuel (listed.setIfInBounds i true) a' w') a w := by
  unfold wpOp
  simp only [hi, hw, if_true]
  exact .inl h
/-- A call that gives a value, and of whose world T is known. -/
theorem rg_call {i : Nat} {o : Oper} {fuel : Nat} {listed : Array Bool} {a : Act} {w : World} (L : Array Bool) (hL : listed.setIfInBounds i true = L) (d : Nat) (hdst : o.dst = some d) (hi : ops[i]? = some o) (hw : Region.wanted o (yielded ops a.tmps) = true)
    (f : FuncId) (args : Array Value) (hrun : (execOp a.eval o).run P w = .ok (.enter f args) w) {v : Value} {T : World → Prop} (hc : Calls P f args w fun e w' => e = .returned v ∧ T w')
    (h : ∀ w', T w' → (i < n → S w') ∧ wpAnyT P md ops Q S n fuel L { tmps := a.tmps.setIfInBounds d v, defers := a.defers } w') : wpOp P ops Q i (fun a' w' => (i < n → S w') ∧ wpAnyT P md ops Q S n fuel (listed.setIfInBounds i true) a' w') a w := by
  refine rg_go hi hw ?_
  unfold Oper.wp
  rw [hrun, Oper.upon_enter]
  refine hc.mono fun e w'' hh => ?_
  obtain ⟨rfl, hT⟩ := hh
  have h2 := h _ hT
  show _ ∧ wpAnyT _ _ _ _ _ _ _ _ (a.put o.dst v) _
  rw [hdst, hL]
  exact h2
/-- A new block. -/
theorem rg_alloc {i : Nat} {o : Oper} {fuel : Nat} {listed : Array Bool} {a : Act} {w : World} (L : Array Bool) (hL : listed.setIfInBounds i true = L) (d : Nat) (hdst : o.dst = some d) (hi : ops[i]? = some o) (hw : Region.wanted o (yielded ops a.tmps) = true)
    (ty : TypeId) (cs : Array Value) (hrun : (execOp a.eval o).run P w = .ok (.value (.pointer (some ⟨w.heap.size, 0, none⟩))) (w.alloc (.cells cs ty)))
    (h : ∀ w', Blk w' w.heap.size ty cs → Below w.heap.size w w' → (i < n → S w') ∧ wpAnyT P md ops Q S n fuel L { tmps := a.tmps.setIfInBounds d (.pointer (some ⟨w.heap.size, 0, none⟩)), defers := a.defers } w') : wpOp P ops Q i (fun a' w' => (i < n → S w') ∧ wpAnyT P md ops Q S n fuel (listed.setIfInBounds i true) a' w') a w := by
  refine rg_go hi hw ?_
  unfold Oper.wp
  rw [hrun, Oper.upon_value]
  show _ ∧ wpAnyT _ _ _ _ _ _ _ _ (a.put o.dst _) _
  rw [hdst, hL]
  exact h _ (Blk.new _ _ _) (below_alloc (Below.refl _ _) _)
/-- A store of a whole row. -/
theorem rg_store {i : Nat} {o : Oper} {fuel : Nat} {listed : Array Bool} {a : Act} {w : World} (L : Array Bool) (hL : listed.setIfInBounds i true = L) (hdst : o.dst = none) (hi : ops[i]? = some o) (hw : Region.wanted o (yielded ops a.tmps) = true)
    (ty : TypeId) (x y : Operand) (ho : o.op = .store ty x y) (g : Nat) (cells : Array Value) (hx : a.eval x = .pointer (some ⟨g, 0, none⟩)) (hy : a.eval y = .agg cells) (t : TypeId) (old : Array Value) (hb : Blk w g t old)
    (hsz : (P.info? ty).map (·.size) = some cells.size) (hold : old.size = cells.size) (h1 : cells.all (·.oneCell') = true)
    (h : ∀ w', Chg w w' g → Blk w' g t cells → (i < n → S w') ∧ wpAnyT P md ops Q S n fuel L a w') : wpOp P ops Q i (fun a' w' => (i < n → S w') ∧ wpAnyT P md ops Q S n fuel (listed.setIfInBounds i true) a' w') a w := by
  refine rg_go hi hw (wp_store_row ty x y ho g cells hx hy t old hb hsz hold h1 ?_)
  rw [hdst, hL]
  refine h _ ⟨rfl, rfl, rfl, by rw [size_setRow]; exact Nat.le_refl _, fun k hk hne => setRow_far w g k cells hne⟩ (hb.row cells)
/-- A store of one cell. -/
theorem rg_cell {i : Nat} {o : Oper} {fuel : Nat} {listed : Array Bool} {a : Act} {w : World} (L : Array Bool) (hL : listed.setIfInBounds i true = L) (hdst : o.dst = none) (hi : ops[i]? = some o) (hw : Region.wanted o (yielded ops a.tmps) = true)
    (g off t : Nat) (v : Value) (old : Array Value) (hb : Blk w g t old) (hrun : (execOp a.eval o).run P w = .ok .skip (w.setCell ⟨g, off, none⟩ v))
    (h : ∀ w', Chg w w' g → Blk w' g t (old.setIfInBounds off v) → (i < n → S w') ∧ wpAnyT P md ops Q S n fuel L a w') : wpOp P ops Q i (fun a' w' => (i < n → S w') ∧ wpAnyT P md ops Q S n fuel (listed.setIfInBounds i true) a' w') a w := by
  refine rg_go hi hw ?_
  unfold Oper.wp
  rw [hrun, Oper.upon_skip]
  show _ ∧ wpAnyT _ _ _ _ _ _ _ _ (a.put o.dst undef) _
  rw [hdst, hL]
  exact h _ ((Chg.refl w g).set off v) (hb.set_ off v)
/-- The region begins. -/
theorem rg_begin {id : Nat} {a : Act} {w : World} (S : World → Prop) (n m : Nat) (L : Array Bool) (hs : ops.size = m) (hL : Array.replicate m false = L) (hm : P.follows .mixedOrders = true)
    (h : ∀ w', Below w.heap.size w w' → wpAnyT P .any ops Q S n m L a w') : (Code.region id ops true).wp P Q a w :=
  wp_region_till S n m L hs hL hm (h _ (below_drewN (Below.refl _ _) 1))
end
theorem below_chg' {w w1 w2 : World} {B g : Nat} (h : Below B w w1) (hc : Chg w1 w2 g) (hg : B ≤ g) (hB : B ≤ w1.heap.size) : Below B w w2 :=
  ⟨hc.os.trans h.os, hc.tape.trans h.tape, hc.output.trans h.output, Nat.le_trans h.size hc.size, fun k hk => by
    rw [hc.block k (by omega) (by omega)]; exact h.block k hk⟩
end Go.Proofs.Ytjgikfejfglllaa
