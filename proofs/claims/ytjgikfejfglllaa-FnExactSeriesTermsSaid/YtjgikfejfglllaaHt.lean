/- A region that draws its order: loads of whole rows are taken first, the rest is a row of operations. -/
import Derived.Test.YtjgikfejfglllaaRow
import Derived.OrdersHeld
import Derived.Great.BuildSlice
set_option linter.unusedVariables false
set_option linter.unusedSimpArgs false
namespace Go.Proofs.Ytjgikfejfglllaa
open Go.RowKit


section
variable {P : Program} {ops : Array Oper} {Q : Exit → Act → World → Prop} {md : Region.Mode} {S : World → Prop} {n : Nat}
/-- Whatever order is picked from here on, and S holds behind each operation that is carried out, as long as its number is below n. -/
def wpAnyT (P : Program) (md : Region.Mode) (ops : Array Oper) (Q : Exit → Act → World → Prop) (S : World → Prop) (n : Nat) : Nat → Array Bool → Act → World → Prop
  | 0, listed, a, w => Region.ready md ops listed = [] ∧ Q .normal a w
  | fuel + 1, listed, a, w =>
    (Region.ready md ops listed = [] → Q .normal a w) ∧
    ∀ i ∈ Region.ready md ops listed, wpOp P ops Q i (fun a' w' => (i < n → S w') ∧ wpAnyT P md ops Q S n fuel (listed.setIfInBounds i true) a' w') a w
theorem wpAny_of_till : ∀ (fuel : Nat) (listed : Array Bool) (a : Act) (w : World), wpAnyT P md ops Q S n fuel listed a w → wpAny P md ops Q fuel listed a w
  | 0, _, _, _, h => h
  | fuel + 1, _, _, _, h => ⟨h.1, fun i hi => wpOp_mono (fun a' w' h' => wpAny_of_till fuel _ a' w' h'.2) (h.2 i hi)⟩
/-- What has come up has come up behind all that it waits for. -/
def Down (md : Region.Mode) (ops : Array Oper) (listed : Array Bool) : Prop := ∀ (k : Nat) (o : Oper), ops[k]? = some o → listed.getD k false = true → ∀ e ∈ o.after, Region.binds md e = true → listed.getD e.on false = true
def downB (md : Region.Mode) (ops : Array Oper) (listed : Array Bool) : Bool := (List.range ops.size).all fun k => match ops[k]? with
  | some o => !listed.getD k false || o.after.all fun e => !Region.binds md e || listed.getD e.on false
  | none => true
theorem downB_spec {listed : Array Bool} (h : downB md ops listed = true) : Down md ops listed := by
  intro k o ho hk e he hb
  simp only [downB, List.all_eq_true, List.mem_range] at h
  have h1 := h k (Array.getElem?_eq_some_iff.1 ho).1
  simp only [ho, hk, Bool.not_true, Bool.false_or, Array.all_eq_true_iff_forall_mem] at h1
  have h2 := h1 e he
  simpa [hb] using h2
theorem Down.step {listed : Array Bool} {j : Nat} (h : Down md ops listed) (hj : j ∈ Region.ready md ops listed) : Down md ops (listed.setIfInBounds j true) := by
  intro k o ho hk e he hb
  refine getD_set_true ?_
  by_cases hjk : j = k
  · subst hjk
    obtain ⟨_, oj, hoj, hall⟩ := mem_ready.1 hj
    rw [ho] at hoj
    injection hoj with hoj
    subst hoj
    exact hall e he hb
  · rw [getD_set_ne false hjk] at hk
    exact h k o ho hk e he hb
/-- Operation j waits for operation i, over some steps. -/
def waitsB (md : Region.Mode) (ops : Array Oper) (i : Nat) : Nat → Nat → Bool
  | 0, _ => false
  | n + 1, j => match ops[j]? with
    | some o => o.after.any fun e => Region.binds md e && (e.on == i || waitsB md ops i n e.on)
    | none => false
theorem waits_listed {listed : Array Bool} (hd : Down md ops listed) {i : Nat} : ∀ (f j : Nat), waitsB md ops i f j = true → (∀ o, ops[j]? = some o → ∀ e ∈ o.after, Region.binds md e = true → listed.getD e.on false = true) → listed.getD i false = true := by
  intro f
  induction f with
  | zero => intro j h; cases h
  | succ f ih =>
    intro j h ha
    rw [waitsB] at h
    cases ho : ops[j]? with
    | none => rw [ho] at h; cases h
    | some o =>
      rw [ho] at h
      simp only [] at h
      obtain ⟨e, he, hb⟩ := Array.any_eq_true'.1 h
      simp only [Bool.and_eq_true, Bool.or_eq_true, beq_iff_eq] at hb
      have hl := ha o ho e he hb.1
      rcases hb.2 with h2 | h2
      · rw [← h2]; exact hl
      · exact ih e.on h2 fun o' ho' e' he' hb' => hd e.on o' ho' hl e' he' hb'
theorem wpAnyT_first {i : Nat} {oi : Oper} {v : Value} (hi : ops[i]? = some oi) (hsel : ∀ (j : Nat) (o : Oper) cs b, ops[j]? = some o → o.op ≠ .select cs b)
    (hlate : ∀ (j : Nat) (o : Oper), n ≤ j → ops[j]? = some o → waitsB md ops i 9 j = true)
    (hQ : ∀ c a w, Q (.panic c) (a.put oi.dst v) w → Q (.panic c) a w) :
    ∀ (fuel : Nat) (listed : Array Bool) (a : Act) (w : World),
      (∀ j oj, ops[j]? = some oj → j ≠ i → listed.getD j true = false → (∀ e ∈ oj.after, Region.binds md e = true → e.on ≠ i) → oi.apart ops oj = true) →
      Down md ops listed → i ∈ Region.ready md ops listed → YieldsIf P ops S oi v a → S w →
      wpAnyT P md ops Q S n fuel (listed.setIfInBounds i true) (a.put oi.dst v) w → wpAnyT P md ops Q S n (fuel + 1) listed a w := by
  intro fuel
  induction fuel with
  | zero =>
    intro listed a w _ hd hr hy hS H
    refine ⟨fun h => (by rw [h] at hr; cases hr), fun j hj => ?_⟩
    by_cases hji : j = i
    · subst hji; exact hy.wpOp hi hS ⟨fun _ => hS, H⟩
    · have := ready_mono hj hji
      rw [H.1] at this
      cases this
  | succ fuel ih =>
    intro listed a w hfree hd hr hy hS H
    refine ⟨fun h => (by rw [h] at hr; cases hr), fun j hj => ?_⟩
    by_cases hji : j = i
    · subst hji; exact hy.wpOp hi hS ⟨fun _ => hS, H⟩
    · have h1 := H.2 j (ready_mono hj hji)
      obtain ⟨hjun, oj, hoj, hall⟩ := mem_ready.1 hj
      have hnot : ∀ e ∈ oj.after, Region.binds md e = true → e.on ≠ i := fun e he hb heq => by
        have h1 := hall e he hb
        have h0 := (mem_ready.1 hr).1
        rw [heq] at h1
        rcases Nat.lt_or_ge i listed.size with h' | h'
        · simp [h'] at h0 h1; rw [h0] at h1; cases h1
        · simp [Array.getElem?_eq_none h'] at h1
      have hjn : j < n := by
        rcases Nat.lt_or_ge j n with c | c
        · exact c
        · have hl := waits_listed hd 9 j (hlate j oj c hoj) (fun o ho => by rw [hoj] at ho; injection ho with ho; subst ho; exact hall)
          have h0 := (mem_ready.1 hr).1
          rcases Nat.lt_or_ge i listed.size with h' | h'
          · simp [h'] at h0 hl; rw [h0] at hl; cases hl
          · simp [Array.getElem?_eq_none h'] at hl
      have h2 := wpOp_putIf hoj (hfree j oj hoj hji hjun hnot) (fun cs b => hsel i oi cs b hi) (fun cs b => hsel j oj cs b hoj) hQ hy h1
      have hfree' : ∀ k ok, ops[k]? = some ok → k ≠ i → (listed.setIfInBounds j true).getD k true = false →
          (∀ e ∈ ok.after, Region.binds md e = true → e.on ≠ i) → oi.apart ops ok = true := fun k ok hk hki hun hno => by
        refine hfree k ok hk hki ?_ hno
        by_cases hjk : j = k
        · subst hjk; exact hjun
        · rw [getD_set_ne true hjk] at hun; exact hun
      refine wpOp_mono (fun a' w' h3 => ⟨h3.2.1, ih (listed.setIfInBounds j true) a' w' hfree' (hd.step hj) (ready_mono hr (Ne.symm hji)) h3.1 (h3.2.1 hjn) ?_⟩) h2
      rw [Array.setIfInBounds_comm _ _ hji]
      exact h3.2.2
/-- Each operation from n on waits for operation i. -/
def lateB (md : Region.Mode) (ops : Array Oper) (n i : Nat) : Bool := (List.range ops.size).all fun j => decide (j < n) || waitsB md ops i 9 j
theorem lateB_spec {i : Nat} (h : lateB md ops n i = true) (j : Nat) (o : Oper) (hn : n ≤ j) (ho : ops[j]? = some o) : waitsB md ops i 9 j = true := by
  simp only [lateB, List.all_eq_true, List.mem_range] at h
  have h1 := h j (Array.getElem?_eq_some_iff.1 ho).1
  simp only [Bool.or_eq_true, decide_eq_true_eq] at h1
  exact h1.resolve_left (by omega)
theorem wpAnyT_take {i : Nat} {oi : Oper} {v : Value} {fuel : Nat} {listed : Array Bool} {a : Act} {w : World} (L : Array Bool) (hL : listed.setIfInBounds i true = L) (d : Nat) (hdst : oi.dst = some d) (hi : ops[i]? = some oi)
    (hs : Region.noSelect ops = true) (hl : lateB md ops n i = true) (hd : downB md ops listed = true) (hf : Region.free md ops listed i = true) (hr : (Region.ready md ops listed).contains i = true)
    (hQ : ∀ c a w, Q (.panic c) (a.put oi.dst v) w → Q (.panic c) a w) (hy : YieldsIf P ops S oi v a) (hS : S w)
    (h : wpAnyT P md ops Q S n fuel L { tmps := a.tmps.setIfInBounds d v, defers := a.defers } w) : wpAnyT P md ops Q S n (fuel + 1) listed a w :=
  have h : wpAnyT P md ops Q S n fuel (listed.setIfInBounds i true) (a.put oi.dst v) w := by rw [hdst, hL]; exact h
  wpAnyT_first hi (Region.noSelect_spec hs) (lateB_spec hl) hQ fuel listed a w (Region.free_spec hi hf) (downB_spec hd) (by simpa using hr) hy hS h
/-- One operation alone may come up. -/
theorem wpAnyT_one {i : Nat} {o : Oper} {fuel : Nat} {listed : Array Bool} {a : Act} {w : World} (hr : Region.ready md ops listed = [i]) (hi : ops[i]? = some o) (hg : o.guard = none)
    (h : o.wp P a w (fun a' w' => (i < n → S w') ∧ wpAnyT P md ops Q S n fuel (listed.setIfInBounds i true) a' w') Q) : wpAnyT P md ops Q S n (fuel + 1) listed a w := by
  refine ⟨fun h0 => absurd (hr ▸ h0) (by simp), ?_⟩
  rw [hr]
  intro j hj
  obtain rfl : j = i := by simpa using hj
  unfold wpOp
  simp only [hi, Region.wanted, hg, if_true]
  exact .inl h
theorem wpAnyT_call {i : Nat} {o : Oper} {fuel : Nat} {listed : Array Bool} {a : Act} {w : World} (L : Array Bool) (hL : listed.setIfInBounds i true = L) (d : Nat) (hdst : o.dst = some d) (hr : Region.ready md ops listed = [i]) (hi : ops[i]? = some o) (hg : o.guard = none)
    (f : FuncId) (args : Array Value) (hrun : (execOp a.eval o).run P w = .ok (.enter f args) w) {v : Value} {T : World → Prop} (hc : Calls P f args w fun e w' => e = .returned v ∧ T w')
    (h : ∀ w', T w' → (i < n → S w') ∧ wpAnyT P md ops Q S n fuel L { tmps := a.tmps.setIfInBounds d v, defers := a.defers } w') : wpAnyT P md ops Q S n (fuel + 1) listed a w := by
  refine wpAnyT_one hr hi hg ?_
  unfold Oper.wp
  rw [hrun, Oper.upon_enter]
  refine hc.mono fun e w'' hh => ?_
  obtain ⟨rfl, hT⟩ := hh
  have h2 := h _ hT
  show _ ∧ wpAnyT _ _ _ _ _ _ _ _ (a.put o.dst v) _
  rw [hdst, hL]
  exact h2
/-- A store of a whole row, alone. -/
theorem wpAnyT_store {i : Nat} {o : Oper} {fuel : Nat} {listed : Array Bool} {a : Act} {w : World} (L : Array Bool) (hL : listed.setIfInBounds i true = L) (hdst : o.dst = none) (hr : Region.ready md ops listed = [i]) (hi : ops[i]? = some o) (hg : o.guard = none)
    (ty : TypeId) (x y : Operand) (ho : o.op = .store ty x y) (g : Nat) (cells : Array Value) (hx : a.eval x = .pointer (some ⟨g, 0, none⟩)) (hy : a.eval y = .agg cells) (t : TypeId) (old : Array Value) (hb : Blk w g t old)
    (hsz : (P.info? ty).map (·.size) = some cells.size) (hold : old.size = cells.size) (h1 : cells.all (·.oneCell') = true)
    (h : (i < n → S (w.setRow g cells)) ∧ wpAnyT P md ops Q S n fuel L a (w.setRow g cells)) : wpAnyT P md ops Q S n (fuel + 1) listed a w :=
  wpAnyT_one hr hi hg (wp_store_row ty x y ho g cells hx hy t old hb hsz hold h1 (by rw [hdst, hL]; exact h))
theorem wpAnyT_done {listed : Array Bool} {a : Act} {w : World} (hr : Region.ready md ops listed = []) (h : Q .normal a w) :
    ∀ fuel, wpAnyT P md ops Q S n fuel listed a w
  | 0 => ⟨hr, h⟩
  | _ + 1 => ⟨fun _ => h, by rw [hr]; simp⟩
theorem wp_region_till {id : Nat} {a : Act} {w : World} (S : World → Prop) (n m : Nat) (L : Array Bool) (hs : ops.size = m) (hL : Array.replicate m false = L) (hm : P.follows .mixedOrders = true)
    (h : wpAnyT P .any ops Q S n m L a (w.drewN 1)) : (Code.region id ops true).wp P Q a w :=
  wp_region_any hm (wpAny_of_till _ _ _ _ (by rw [hs, hL]; exact h))
/-- A load of a whole row yields under S. -/
theorem yields_row {o : Oper} {a : Act} (ty : TypeId) (x : Operand) (ho : o.op = .load ty x) (hg : o.guard = none) (g : Nat) (hx : a.eval x = .pointer (some ⟨g, 0, none⟩)) (t : TypeId) (cs : Array Value) (d : TypeDesc)
    (hS : ∀ w, S w → Blk w g t cs) (hu : P.underlying ty = some d) (hd : (match d with | .struct _ | .array _ _ => true | _ => false) = true) (hi : (P.info? ty).map (·.size) = some cs.size) : YieldsIf P ops S o (.agg cs) a :=
  .inl ⟨by simp [Region.wanted, hg], fun w hw' => by
    unfold execOp
    simp only [ho, hx, Instr.loadAt, Instr.sureAddr, Sem.run_bind, Sem.run_pure, Result.andThen_ok, run_loadVar_row w g t ty cs _ d (hS w hw') hu hd hi]⟩
end
end Go.Proofs.Ytjgikfejfglllaa
