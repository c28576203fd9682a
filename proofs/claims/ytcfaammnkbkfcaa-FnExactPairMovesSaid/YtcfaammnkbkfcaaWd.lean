/- Words on memory for the walks of this seat. -/
import Derived.Test.YtcfaammnkbkfcaaProg
import Derived.Below
import Derived.Deep.Draws
import Derived.Laws.OwnMore
import Derived.Laws.Rows
import Derived.Laws.ResultCell
import Derived.Deep.AppendLies
import Derived.OwnWalk
import Derived.WalkKit
import Derived.KernelRfl
import Derived.RowKit3
import Derived.Deep.LoopGhost
import Derived.Deep.QuietTactic
import Derived.BigQuiet
import Derived.Outline
import Derived.Lib.Hide
import Derived.Laws.Tables
import Derived.OrdersHeld
import Derived.Great.BuildSlice
import Derived.Maps.AppendAt
import Derived.Deep.RegionHeld3
import Derived.Deep.DeepCutAuto
import Derived.Maps.RangeWalk
import Derived.IntWalk
import Derived.Handy
set_option linter.unusedVariables false
set_option linter.unusedSimpArgs false
namespace Go.Proofs.Ytcfaammnkbkfcaa
open Go.RowKit


/-- Block g is just the cells cs. -/
def Blk (w : World) (g : Nat) (t : TypeId) (cs : Array Value) : Prop := w.heap[g]? = some (.cells cs t (0, 0))

section
variable {w w' : World} {g : Nat} {t : TypeId} {cs : Array Value}
theorem Blk.lt (h : Blk w g t cs) : g < w.heap.size := by
  rcases Nat.lt_or_ge g w.heap.size with hlt | hge
  · exact hlt
  · unfold Blk at h; rw [Array.getElem?_eq_none hge] at h; cases h
theorem Blk.cell (h : Blk w g t cs) (i : Nat) : w.cell? ⟨g, i, none⟩ = cs[i]? := cell_of_row w g i cs t (0, 0) h
theorem Blk.frozen (h : Blk w g t cs) (i : Nat) : w.frozen? ⟨g, i, none⟩ = false := by
  unfold Blk at h
  simp [World.frozen?, h]
theorem Blk.new (w : World) (t : TypeId) (cs : Array Value) : Blk (w.alloc (.cells cs t)) w.heap.size t cs := heap_alloc_new w _
theorem Blk.drew (h : Blk w g t cs) : Blk w.drew g t cs := h
theorem Blk.drewN (h : Blk w g t cs) (n : Nat) : Blk (w.drewN n) g t cs := h
theorem Blk.alloc (h : Blk w g t cs) (o : Obj) : Blk (w.alloc o) g t cs := (Below.heap_alloc w o g h.lt).trans h
theorem Blk.set_ (h : Blk w g t cs) (i : Nat) (u : Value) : Blk (w.setCell ⟨g, i, none⟩ u) g t (cs.setIfInBounds i u) := by
  unfold Blk at h ⊢
  simp [World.setCell, Array.getElem?_modify, h]
theorem Blk.far (h : Blk w g t cs) {p : Addr} (hp : g ≠ p.block) (u : Value) : Blk (w.setCell p u) g t cs := (Below.heap_setCell w p u g hp).trans h
theorem Blk.below {B : Nat} (h : Blk w g t cs) (hb : Below B w w') (hg : g < B) : Blk w' g t cs := (hb.block g hg).trans h
theorem Blk.later (h : Blk w g t cs) (hb : Below w.heap.size w w') : Blk w' g t cs := h.below hb h.lt
end

theorem bcell {W w1 : World} (hb : Below W.heap.size W w1) : (∀ b o, b < W.heap.size → w1.cell? ⟨b, o, none⟩ = W.cell? ⟨b, o, none⟩) ∧ (∀ b o, b < W.heap.size → w1.frozen? ⟨b, o, none⟩ = W.frozen? ⟨b, o, none⟩) :=
  ⟨fun b o h => hb.cell (p := ⟨b, o, none⟩) h, fun b o h => hb.frozen (p := ⟨b, o, none⟩) h⟩

/-- An int in a slot, its form turned. -/
theorem int_eq {k : IntKind} {a b : Int} (h : a = b) : Value.int k a = .int k b := by rw [h]
theorem below_drewN {B : Nat} {w W : World} (h : Below B w W) (n : Nat) : Below B w (W.drewN n) := ⟨h.os, h.tape, h.output, h.size, h.block⟩
theorem below_alloc {w W : World} (h : Below w.heap.size w W) (o : Obj) : Below w.heap.size w (W.alloc o) := h.alloc h.size o
theorem below_then {w w1 w2 : World} (h : Below w.heap.size w w1) (k : Below w1.heap.size w1 w2) : Below w.heap.size w w2 :=
  h.trans ⟨k.os, k.tape, k.output, k.size, fun i hi => k.block i (Nat.lt_of_lt_of_le hi h.size)⟩
theorem Blk.newAt {w : World} {g : Nat} (h : w.heap.size = g) (t : TypeId) (cs : Array Value) : Blk (w.alloc (.cells cs t)) g t cs := h ▸ Blk.new w t cs
theorem below_set {B : Nat} {w w' : World} (h : Below B w w') {a : Addr} (ha : B ≤ a.block) (v : Value) : Below B w (w'.setCell a v) := h.setCell ha v

section
variable {P : Program} {fn : Func} {p q u : Tmp} {ty ty' : TypeId} {tmps : Array Value} {w : World} {g g' t t' : Nat} {cs cs' : Array Value} {d d' : TypeDesc}
theorem res_row (h : fn.results = #[.cell p ty]) (hp : tmps.getD p undef = .pointer (some ⟨g, 0, none⟩)) (hg : Blk w g t cs)
    (hu : P.underlying ty = some d) (hd : (match d with | .struct _ | .array _ _ => true | _ => false) = true) (hi : (P.info? ty).map (·.size) = some cs.size) :
    (results fn tmps).run P w = .ok (.agg cs) w := results_cell_row h tmps w g t cs (0, 0) d hp hg hu hd hi
theorem res_row_tmp (h : fn.results = #[.cell p ty, .tmp u]) (hp : tmps.getD p undef = .pointer (some ⟨g, 0, none⟩)) (hg : Blk w g t cs)
    (hu : P.underlying ty = some d) (hd : (match d with | .struct _ | .array _ _ => true | _ => false) = true) (hi : (P.info? ty).map (·.size) = some cs.size) :
    (results fn tmps).run P w = .ok (.tuple #[.agg cs, tmps.getD u undef]) w := by
  rw [results_cell_tmp h, hp]
  simp [asAddr, run_loadVar_row w g t ty cs (0, 0) d hg hu hd hi, Result.andThen]
theorem res_row_row (h : fn.results = #[.cell p ty, .cell q ty']) (hp : tmps.getD p undef = .pointer (some ⟨g, 0, none⟩)) (hg : Blk w g t cs)
    (hq : tmps.getD q undef = .pointer (some ⟨g', 0, none⟩)) (hg' : Blk w g' t' cs')
    (hu : P.underlying ty = some d) (hd : (match d with | .struct _ | .array _ _ => true | _ => false) = true) (hi : (P.info? ty).map (·.size) = some cs.size)
    (hu' : P.underlying ty' = some d') (hd' : (match d' with | .struct _ | .array _ _ => true | _ => false) = true) (hi' : (P.info? ty').map (·.size) = some cs'.size) :
    (results fn tmps).run P w = .ok (.tuple #[.agg cs, .agg cs']) w := by
  have hp' : tmps[p]?.getD undef = .pointer (some ⟨g, 0, none⟩) := by simpa using hp
  have hq' : tmps[q]?.getD undef = .pointer (some ⟨g', 0, none⟩) := by simpa using hq
  simp [results, h, hp', hq', asAddr, run_loadVar_row w g t ty cs (0, 0) d hg hu hd hi, run_loadVar_row w g' t' ty' cs' (0, 0) d' hg' hu' hd' hi', Result.andThen]
theorem res_row_row_tmp (h : fn.results = #[.cell p ty, .cell q ty', .tmp u]) (hp : tmps.getD p undef = .pointer (some ⟨g, 0, none⟩)) (hg : Blk w g t cs)
    (hq : tmps.getD q undef = .pointer (some ⟨g', 0, none⟩)) (hg' : Blk w g' t' cs')
    (hu : P.underlying ty = some d) (hd : (match d with | .struct _ | .array _ _ => true | _ => false) = true) (hi : (P.info? ty).map (·.size) = some cs.size)
    (hu' : P.underlying ty' = some d') (hd' : (match d' with | .struct _ | .array _ _ => true | _ => false) = true) (hi' : (P.info? ty').map (·.size) = some cs'.size) :
    (results fn tmps).run P w = .ok (.tuple #[.agg cs, .agg cs', tmps.getD u undef]) w := by
  have hp' : tmps[p]?.getD undef = .pointer (some ⟨g, 0, none⟩) := by simpa using hp
  have hq' : tmps[q]?.getD undef = .pointer (some ⟨g', 0, none⟩) := by simpa using hq
  simp [results, h, hp', hq', asAddr, run_loadVar_row w g t ty cs (0, 0) d hg hu hd hi, run_loadVar_row w g' t' ty' cs' (0, 0) d' hg' hu' hd' hi', Result.andThen]
end
/-- A call's arguments, spelled otherwise. -/
theorem calls_args {P : Program} {f : FuncId} {args args' : Array Value} {w : World} {Q : Ending → World → Prop} (h : args = args') (hc : Calls P f args' w Q) : Calls P f args w Q := h ▸ hc



/-- Some orders have been drawn, nothing else. -/
def Drw (w w' : World) : Prop := ∃ n, w' = w.drewN n
theorem Drw.refl (w : World) : Drw w w := ⟨0, rfl⟩
theorem Drw.step {w w' : World} (h : Drw w w') (n : Nat) : Drw w (w'.drewN n) := by
  obtain ⟨m, rfl⟩ := h
  exact ⟨m + n, World.drewN_drewN ..⟩
theorem Drw.below {w w' : World} (h : Drw w w') : Below w.heap.size w w' := by
  obtain ⟨m, rfl⟩ := h
  exact below_drewN (Below.refl _ _) m
theorem Blk.row {w : World} {g t : Nat} {cs : Array Value} (h : Blk w g t cs) (cs' : Array Value) : Blk (w.setRow g cs') g t cs' := by
  unfold Blk at h ⊢
  exact setRow_heap w g cs _ t _ h
theorem setRow_far (w : World) (g k : Nat) (cs : Array Value) (h : k ≠ g) : (w.setRow g cs).heap[k]? = w.heap[k]? := by
  simp [World.setRow, Array.getElem?_modify, Ne.symm h]
theorem Blk.row_far {w : World} {g t : Nat} {cs : Array Value} (h : Blk w g t cs) {k : Nat} (hk : g ≠ k) (cs' : Array Value) : Blk (w.setRow k cs') g t cs := (setRow_far w k g cs' hk).trans h
theorem below_row {B : Nat} {w w' : World} (h : Below B w w') {g : Nat} (hg : B ≤ g) (cs : Array Value) : Below B w (w'.setRow g cs) :=
  ⟨h.os, h.tape, h.output, by simpa [World.setRow] using h.size, fun k hk => by rw [setRow_far _ _ _ _ (by omega)]; exact h.block k hk⟩
theorem size_setRow (w : World) (g : Nat) (cs : Array Value) : (w.setRow g cs).heap.size = w.heap.size := by simp [World.setRow]



/-- Only block g has turned, and new blocks were laid. -/
structure Chg (w w' : World) (g : Nat) : Prop where
  os : w'.os = w.os
  tape : w'.tape = w.tape
  output : w'.output = w.output
  size : w.heap.size ≤ w'.heap.size
  block : ∀ k, k < w.heap.size → k ≠ g → w'.heap[k]? = w.heap[k]?
theorem Chg.of_below {w w' : World} (h : Below w.heap.size w w') (g : Nat) : Chg w w' g := ⟨h.os, h.tape, h.output, h.size, fun k hk _ => h.block k hk⟩
theorem Chg.refl (w : World) (g : Nat) : Chg w w g := ⟨rfl, rfl, rfl, Nat.le_refl _, fun _ _ _ => rfl⟩
theorem Chg.trans {w w1 w2 : World} {g : Nat} (h : Chg w w1 g) (k : Chg w1 w2 g) : Chg w w2 g :=
  ⟨k.os.trans h.os, k.tape.trans h.tape, k.output.trans h.output, Nat.le_trans h.size k.size, fun i hi hg => (k.block i (Nat.lt_of_lt_of_le hi h.size) hg).trans (h.block i hi hg)⟩
theorem Chg.alloc {w w1 : World} {g : Nat} (h : Chg w w1 g) (o : Obj) : Chg w (w1.alloc o) g := h.trans (Chg.of_below (below_alloc (Below.refl _ _) o) g)
theorem Chg.drewN {w w1 : World} {g : Nat} (h : Chg w w1 g) (n : Nat) : Chg w (w1.drewN n) g := ⟨h.os, h.tape, h.output, h.size, h.block⟩
theorem Chg.set {w w1 : World} {g : Nat} (h : Chg w w1 g) (i : Nat) (v : Value) : Chg w (w1.setCell ⟨g, i, none⟩ v) g :=
  ⟨h.os, h.tape, h.output, by simpa [World.setCell] using h.size, fun k hk hg => (Below.heap_setCell w1 _ v k hg).trans (h.block k hk hg)⟩
theorem Chg.setNew {w w1 : World} {g : Nat} (h : Chg w w1 g) {p : Addr} (hp : w.heap.size ≤ p.block) (v : Value) : Chg w (w1.setCell p v) g :=
  ⟨h.os, h.tape, h.output, by simpa [World.setCell] using h.size, fun k hk hg => (Below.heap_setCell w1 _ v k (by omega)).trans (h.block k hk hg)⟩
theorem Chg.rowNew {w w1 : World} {g : Nat} (h : Chg w w1 g) {p : Nat} (hp : w.heap.size ≤ p) (cs : Array Value) : Chg w (w1.setRow p cs) g :=
  ⟨h.os, h.tape, h.output, by rw [size_setRow]; exact h.size, fun k hk hg => (setRow_far w1 p k cs (by omega)).trans (h.block k hk hg)⟩
theorem Chg.below {w w1 : World} {g B : Nat} (h : Chg w w1 g) (hB : B ≤ g) (hw : B ≤ w.heap.size) : Below B w w1 := ⟨h.os, h.tape, h.output, h.size, fun k hk => h.block k (by omega) (by omega)⟩
theorem Blk.chg {w w1 : World} {g h t : Nat} {cs : Array Value} (hb : Blk w h t cs) (hc : Chg w w1 g) (hne : h ≠ g) : Blk w1 h t cs := (hc.block h hb.lt hne).trans hb
/-- Block g holds a calc at its head. -/
theorem calc_cell {w : World} {g t : Nat} {cs : Array Value} {ov : Bool} (h : Blk w g t cs) (h0 : cs[0]? = some (.bool ov)) : w.cell? ⟨g, 0, none⟩ = some (.bool ov) := by rw [h.cell, h0]
theorem calc_self {cs : Array Value} {ov : Bool} (h0 : cs[0]? = some (.bool ov)) : cs.setIfInBounds 0 (.bool ov) = cs := by
  obtain ⟨l⟩ := cs
  cases l with
  | nil => rfl
  | cons x r =>
    have : x = .bool ov := by simpa using h0
    subst this
    rfl
theorem calc_head {cs : Array Value} {ov : Bool} (b : Bool) (h0 : cs[0]? = some (.bool ov)) : (cs.setIfInBounds 0 (.bool b))[0]? = some (.bool b) := by
  obtain ⟨l⟩ := cs
  cases l with
  | nil => simp at h0
  | cons x r => rfl
theorem own_ne {w : World} {base n : Nat} {e : TypeId} {size : Nat} {v : Value} {xs : List Value} (h : w.ownsRow base e size v n xs) {k : Nat} (hk : w.heap.size ≤ k) : v.ownBlock ≠ some k := by
  intro e
  have := (h.lt k e).2
  omega
theorem Blk.grown {w w' : World} {g t : Nat} {cs : Array Value} {row : Option Nat} (h : Blk w g t cs) (hb : w.grownBy w' row) (hg : row ≠ some g) : Blk w' g t cs := (hb.block g h.lt (fun e => hg e.symm)).trans h

theorem own_later {w w' : World} {base n : Nat} {e : TypeId} {size : Nat} {v : Value} {xs : List Value} (h : w.ownsRow base e size v n xs) (hb : Below w.heap.size w w') : w'.ownsRow base e size v n xs :=
  h.kept (row := none) ⟨hb.os, hb.tape, hb.output, hb.size, fun i hi _ => hb.block i hi⟩ (by
    cases hv : v.ownBlock with
    | none => exact .inl rfl
    | some k => exact .inr (by simp))
theorem own_row {w : World} {base n : Nat} {e : TypeId} {size : Nat} {v : Value} {xs : List Value} (h : w.ownsRow base e size v n xs) {g : Nat} (hg : v.ownBlock ≠ some g) (cs : Array Value) : (w.setRow g cs).ownsRow base e size v n xs :=
  h.kept (row := some g) ⟨rfl, rfl, rfl, by rw [size_setRow]; exact Nat.le_refl _, fun i hi hne => setRow_far w g i cs (fun e => hne (by rw [e]))⟩ (.inr hg)
theorem own_empty {w : World} {base g : Nat} {e : TypeId} {size : Nat} (h : Blk w g e #[]) (hb : base ≤ g) : w.ownsRow base e size (.slice (some ⟨g, 0, none⟩) 0 0) 0 [] :=
  ⟨by simp, .inr ⟨g, 0, #[], rfl, hb, h, Nat.le_refl _, by simp [maxLen], by simp, by simp⟩⟩


theorem Blk.ne_ {w : World} {g g' t t' : Nat} {cs cs' : Array Value} (h : Blk w g t cs) (h' : Blk w g' t' cs') (hne : t ≠ t') : g ≠ g' := by
  rintro rfl
  unfold Blk at h h'
  rw [h] at h'
  injection h' with h'
  injection h' with _ ht
  exact hne ht
theorem own_blk_ne {w : World} {g t : Nat} {cs : Array Value} {base : Nat} {e : TypeId} {size n : Nat} {v : Value} {xs : List Value} (h : w.ownsRow base e size v n xs) (hg : Blk w g t cs) (hne : e ≠ t) : v.ownBlock ≠ some g := by
  rcases h.2 with ⟨rfl, _⟩ | ⟨g', cap, cur, rfl, _, hh, _⟩
  · simp [Value.ownBlock]
  · intro he
    have : g' = g := by simpa [Value.ownBlock] using he
    subst this
    exact Blk.ne_ (t := e) hh hg hne rfl
section
variable {P : Program} {ops : Array Oper} {S : World → Prop}
/-- A load of one cell yields under S. -/
theorem yields_cell {o : Oper} {a : Act} (ty : TypeId) (x : Operand) (ho : o.op = .load ty x) (hg : o.guard = none) (p : Addr) (hx : a.eval x = .pointer (some p)) (d : TypeDesc) (hu : P.underlying ty = some d)
    (hd : (match d with | .struct _ | .array _ _ => true | _ => false) = false) (v : Value) (hS : ∀ w, S w → w.cell? p = some v) : YieldsIf P ops S o v a :=
  .inl ⟨by simp [Region.wanted, hg], fun w hw' => by
    have hagg : ∀ W : World, (isAgg ty).run P W = .ok false W := fun W => by
      rw [← hd]
      cases d <;> simp [isAgg, run_underlying hu]
    unfold execOp
    simp [ho, hx, Instr.loadAt, Instr.sureAddr, Sem.run_bind, Sem.run_pure, Result.andThen_ok, loadVar, hagg, hS w hw']⟩
end



section
variable {P : Program} {ops : Array Oper} {Q : Exit → Act → World → Prop} {md : Region.Mode} {S : World → Prop} {n : Nat}
/-- Whatever order is picked from here on, and S holds behind each operation that is carried out, as long as its number is below n. -/
def wpAnyT (P : Program) (md : Region.Mode) (ops : Array Oper) (Q : Exit → Act → World → Prop) (S : World → Prop) (n : Nat) : Nat → Array Bool → Act → World → Prop
  | 0, listed, a, w => Region.ready md ops listed = [] ∧ Q .normal a w
  | fuel + 1, listed, a, w =>
    (Region.ready md ops listed = [] → Q .normal a w) ∧
    ∀ i ∈ Region.ready md ops listed, wpOp P ops Q i (fun a' w' => (i < n → S w') ∧ wpAnyT P md ops Q S n fuel (listed.setIfInBounds i true) a' w') a w
theorem wpAny_of_till : ∀ (fuel : Nat) (listed : Array Bool) (a : Act) (w : World), wpAnyT P md ops Q S n fuel listed a w → wpAny P md ops Q fuel listed a w
  | 0, _, _, _, h => h
  | fuel + 1, _, _, _, h => ⟨h.1, fun i hi => wpOp_mono (fun a' w' h' => wpAny_of_till fuel _ a' w' h'.2) (h.2 i hi)⟩
/-- What has come up has come up behind all that it waits for. -/
def Down (md : Region.Mode) (ops : Array Oper) (listed : Array Bool) : Prop := ∀ (k : Nat) (o : Oper), ops[k]? = some o → listed.getD k false = true → ∀ e ∈ o.after, Region.binds md e = true → listed.getD e.on false = true
def downB (md : Region.Mode) (ops : Array Oper) (listed : Array Bool) : Bool := (List.range ops.size).all fun k => match ops[k]? with
  | some o => !listed.getD k false || o.after.all fun e => !Region.binds md e || listed.getD e.on false
  | none => true
theorem downB_spec {listed : Array Bool} (h : downB md ops listed = true) : Down md ops listed := by
  intro k o ho hk e he hb
  simp only [downB, List.all_eq_true, List.mem_range] at h
  have h1 := h k (Array.getElem?_eq_some_iff.1 ho).1
  simp only [ho, hk, Bool.not_true, Bool.false_or, Array.all_eq_true_iff_forall_mem] at h1
  have h2 := h1 e he
  simpa [hb] using h2
theorem Down.step {listed : Array Bool} {j : Nat} (h : Down md ops listed) (hj : j ∈ Region.ready md ops listed) : Down md ops (listed.setIfInBounds j true) := by
  intro k o ho hk e he hb
  refine getD_set_true ?_
  by_cases hjk : j = k
  · subst hjk
    obtain ⟨_, oj, hoj, hall⟩ := mem_ready.1 hj
    rw [ho] at hoj
    injection hoj with hoj
    subst hoj
    exact hall e he hb
  · rw [getD_set_ne false hjk] at hk
    exact h k o ho hk e he hb
/-- Operation j waits for operation i, over some steps. -/
def waitsB (md : Region.Mode) (ops : Array Oper) (i : Nat) : Nat → Nat → Bool
  | 0, _ => false
  | n + 1, j => match ops[j]? with
    | some o => o.after.any fun e => Region.binds md e && (e.on == i || waitsB md ops i n e.on)
    | none => false
theorem waits_listed {listed : Array Bool} (hd : Down md ops listed) {i : Nat} : ∀ (f j : Nat), waitsB md ops i f j = true → (∀ o, ops[j]? = some o → ∀ e ∈ o.after, Region.binds md e = true → listed.getD e.on false = true) → listed.getD i false = true := by
  intro f
  induction f with
  | zero => intro j h; cases h
  | succ f ih =>
    intro j h ha
    rw [waitsB] at h
    cases ho : ops[j]? with
    | none => rw [ho] at h; cases h
    | some o =>
      rw [ho] at h
      simp only [] at h
      obtain ⟨e, he, hb⟩ := Array.any_eq_true'.1 h
      simp only [Bool.and_eq_true, Bool.or_eq_true, beq_iff_eq] at hb
      have hl := ha o ho e he hb.1
      rcases hb.2 with h2 | h2
      · rw [← h2]; exact hl
      · exact ih e.on h2 fun o' ho' e' he' hb' => hd e.on o' ho' hl e' he' hb'
theorem wpAnyT_first {i : Nat} {oi : Oper} {v : Value} (hi : ops[i]? = some oi) (hsel : ∀ (j : Nat) (o : Oper) cs b, ops[j]? = some o → o.op ≠ .select cs b)
    (hlate : ∀ (j : Nat) (o : Oper), n ≤ j → ops[j]? = some o → waitsB md ops i 9 j = true)
    (hQ : ∀ c a w, Q (.panic c) (a.put oi.dst v) w → Q (.panic c) a w) :
    ∀ (fuel : Nat) (listed : Array Bool) (a : Act) (w : World),
      (∀ j oj, ops[j]? = some oj → j ≠ i → listed.getD j true = false → (∀ e ∈ oj.after, Region.binds md e = true → e.on ≠ i) → oi.apart ops oj = true) →
      Down md ops listed → i ∈ Region.ready md ops listed → YieldsIf P ops S oi v a → S w →
      wpAnyT P md ops Q S n fuel (listed.setIfInBounds i true) (a.put oi.dst v) w → wpAnyT P md ops Q S n (fuel + 1) listed a w := by
  intro fuel
  induction fuel with
  | zero =>
    intro listed a w _ hd hr hy hS H
    refine ⟨fun h => (by rw [h] at hr; cases hr), fun j hj => ?_⟩
    by_cases hji : j = i
    · subst hji; exact hy.wpOp hi hS ⟨fun _ => hS, H⟩
    · have := ready_mono hj hji
      rw [H.1] at this
      cases this
  | succ fuel ih =>
    intro listed a w hfree hd hr hy hS H
    refine ⟨fun h => (by rw [h] at hr; cases hr), fun j hj => ?_⟩
    by_cases hji : j = i
    · subst hji; exact hy.wpOp hi hS ⟨fun _ => hS, H⟩
    · have h1 := H.2 j (ready_mono hj hji)
      obtain ⟨hjun, oj, hoj, hall⟩ := mem_ready.1 hj
      have hnot : ∀ e ∈ oj.after, Region.binds md e = true → e.on ≠ i := fun e he hb heq => by
        have h1 := hall e he hb
        have h0 := (mem_ready.1 hr).1
        rw [heq] at h1
        rcases Nat.lt_or_ge i listed.size with h' | h'
        · simp [h'] at h0 h1; rw [h0] at h1; cases h1
        · simp [Array.getElem?_eq_none h'] at h1
      have hjn : j < n := by
        rcases Nat.lt_or_ge j n with c | c
        · exact c
        · have hl := waits_listed hd 9 j (hlate j oj c hoj) (fun o ho => by rw [hoj] at ho; injection ho with ho; subst ho; exact hall)
          have h0 := (mem_ready.1 hr).1
          rcases Nat.lt_or_ge i listed.size with h' | h'
          · simp [h'] at h0 hl; rw [h0] at hl; cases hl
          · simp [Array.getElem?_eq_none h'] at hl
      have h2 := wpOp_putIf hoj (hfree j oj hoj hji hjun hnot) (fun cs b => hsel i oi cs b hi) (fun cs b => hsel j oj cs b hoj) hQ hy h1
      have hfree' : ∀ k ok, ops[k]? = some ok → k ≠ i → (listed.setIfInBounds j true).getD k true = false →
          (∀ e ∈ ok.after, Region.binds md e = true → e.on ≠ i) → oi.apart ops ok = true := fun k ok hk hki hun hno => by
        refine hfree k ok hk hki ?_ hno
        by_cases hjk : j = k
        · subst hjk; exact hjun
        · rw [getD_set_ne true hjk] at hun; exact hun
      refine wpOp_mono (fun a' w' h3 => ⟨h3.2.1, ih (listed.setIfInBounds j true) a' w' hfree' (hd.step hj) (ready_mono hr (Ne.symm hji)) h3.1 (h3.2.1 hjn) ?_⟩) h2
      rw [Array.setIfInBounds_comm _ _ hji]
      exact h3.2.2
/-- Each operation from n on waits for operation i. -/
def lateB (md : Region.Mode) (ops : Array Oper) (n i : Nat) : Bool := (List.range ops.size).all fun j => decide (j < n) || waitsB md ops i 9 j
theorem lateB_spec {i : Nat} (h : lateB md ops n i = true) (j : Nat) (o : Oper) (hn : n ≤ j) (ho : ops[j]? = some o) : waitsB md ops i 9 j = true := by
  simp only [lateB, List.all_eq_true, List.mem_range] at h
  have h1 := h j (Array.getElem?_eq_some_iff.1 ho).1
  simp only [Bool.or_eq_true, decide_eq_true_eq] at h1
  exact h1.resolve_left (by omega)
theorem wpAnyT_take {i : Nat} {oi : Oper} {v : Value} {fuel : Nat} {listed : Array Bool} {a : Act} {w : World} (L : Array Bool) (hL : listed.setIfInBounds i true = L) (d : Nat) (hdst : oi.dst = some d) (hi : ops[i]? = some oi)
    (hs : Region.noSelect ops = true) (hl : lateB md ops n i = true) (hd : downB md ops listed = true) (hf : Region.free md ops listed i = true) (hr : (Region.ready md ops listed).contains i = true)
    (hQ : ∀ c a w, Q (.panic c) (a.put oi.dst v) w → Q (.panic c) a w) (hy : YieldsIf P ops S oi v a) (hS : S w)
    (h : wpAnyT P md ops Q S n fuel L { tmps := a.tmps.setIfInBounds d v, defers := a.defers } w) : wpAnyT P md ops Q S n (fuel + 1) listed a w :=
  have h : wpAnyT P md ops Q S n fuel (listed.setIfInBounds i true) (a.put oi.dst v) w := by rw [hdst, hL]; exact h
  wpAnyT_first hi (Region.noSelect_spec hs) (lateB_spec hl) hQ fuel listed a w (Region.free_spec hi hf) (downB_spec hd) (by simpa using hr) hy hS h
/-- One operation alone may come up. -/
theorem wpAnyT_one {i : Nat} {o : Oper} {fuel : Nat} {listed : Array Bool} {a : Act} {w : World} (hr : Region.ready md ops listed = [i]) (hi : ops[i]? = some o) (hg : o.guard = none)
    (h : o.wp P a w (fun a' w' => (i < n → S w') ∧ wpAnyT P md ops Q S n fuel (listed.setIfInBounds i true) a' w') Q) : wpAnyT P md ops Q S n (fuel + 1) listed a w := by
  refine ⟨fun h0 => absurd (hr ▸ h0) (by simp), ?_⟩
  rw [hr]
  intro j hj
  obtain rfl : j = i := by simpa using hj
  unfold wpOp
  simp only [hi, Region.wanted, hg, if_true]
  exact .inl h
theorem wpAnyT_call {i : Nat} {o : Oper} {fuel : Nat} {listed : Array Bool} {a : Act} {w : World} (L : Array Bool) (hL : listed.setIfInBounds i true = L) (d : Nat) (hdst : o.dst = some d) (hr : Region.ready md ops listed = [i]) (hi : ops[i]? = some o) (hg : o.guard = none)
    (f : FuncId) (args : Array Value) (hrun : (execOp a.eval o).run P w = .ok (.enter f args) w) {v : Value} {T : World → Prop} (hc : Calls P f args w fun e w' => e = .returned v ∧ T w')
    (h : ∀ w', T w' → (i < n → S w') ∧ wpAnyT P md ops Q S n fuel L { tmps := a.tmps.setIfInBounds d v, defers := a.defers } w') : wpAnyT P md ops Q S n (fuel + 1) listed a w := by
  refine wpAnyT_one hr hi hg ?_
  unfold Oper.wp
  rw [hrun, Oper.upon_enter]
  refine hc.mono fun e w'' hh => ?_
  obtain ⟨rfl, hT⟩ := hh
  have h2 := h _ hT
  show _ ∧ wpAnyT _ _ _ _ _ _ _ _ (a.put o.dst v) _
  rw [hdst, hL]
  exact h2
/-- A store of a whole row, alone. -/
theorem wpAnyT_store {i : Nat} {o : Oper} {fuel : Nat} {listed : Array Bool} {a : Act} {w : World} (L : Array Bool) (hL : listed.setIfInBounds i true = L) (hdst : o.dst = none) (hr : Region.ready md ops listed = [i]) (hi : ops[i]? = some o) (hg : o.guard = none)
    (ty : TypeId) (x y : Operand) (ho : o.op = .store ty x y) (g : Nat) (cells : Array Value) (hx : a.eval x = .pointer (some ⟨g, 0, none⟩)) (hy : a.eval y = .agg cells) (t : TypeId) (old : Array Value) (hb : Blk w g t old)
    (hsz : (P.info? ty).map (·.size) = some cells.size) (hold : old.size = cells.size) (h1 : cells.all (·.oneCell') = true)
    (h : (i < n → S (w.setRow g cells)) ∧ wpAnyT P md ops Q S n fuel L a (w.setRow g cells)) : wpAnyT P md ops Q S n (fuel + 1) listed a w :=
  wpAnyT_one hr hi hg (wp_store_row ty x y ho g cells hx hy t old hb hsz hold h1 (by rw [hdst, hL]; exact h))
theorem wpAnyT_done {listed : Array Bool} {a : Act} {w : World} (hr : Region.ready md ops listed = []) (h : Q .normal a w) :
    ∀ fuel, wpAnyT P md ops Q S n fuel listed a w
  | 0 => ⟨hr, h⟩
  | _ + 1 => ⟨fun _ => h, by rw [hr]; simp⟩
theorem wp_region_till {id : Nat} {a : Act} {w : World} (S : World → Prop) (n m : Nat) (L : Array Bool) (hs : ops.size = m) (hL : Array.replicate m false = L) (hm : P.follows .mixedOrders = true)
    (h : wpAnyT P .any ops Q S n m L a (w.drewN 1)) : (Code.region id ops true).wp P Q a w :=
  wp_region_any hm (wpAny_of_till _ _ _ _ (by rw [hs, hL]; exact h))
/-- A load of a whole row yields under S. -/
theorem yields_row {o : Oper} {a : Act} (ty : TypeId) (x : Operand) (ho : o.op = .load ty x) (hg : o.guard = none) (g : Nat) (hx : a.eval x = .pointer (some ⟨g, 0, none⟩)) (t : TypeId) (cs : Array Value) (d : TypeDesc)
    (hS : ∀ w, S w → Blk w g t cs) (hu : P.underlying ty = some d) (hd : (match d with | .struct _ | .array _ _ => true | _ => false) = true) (hi : (P.info? ty).map (·.size) = some cs.size) : YieldsIf P ops S o (.agg cs) a :=
  .inl ⟨by simp [Region.wanted, hg], fun w hw' => by
    unfold execOp
    simp only [ho, hx, Instr.loadAt, Instr.sureAddr, Sem.run_bind, Sem.run_pure, Result.andThen_ok, run_loadVar_row w g t ty cs _ d (hS w hw') hu hd hi]⟩
end



section
variable {P : Program} {ops : Array Oper} {Q : Exit → Act → World → Prop} {md : Region.Mode} {S : World → Prop} {n : Nat}
/-- All operations that may come up. -/
theorem rg_list {l : List Nat} {fuel : Nat} {listed : Array Bool} {a : Act} {w : World} (hr : Region.ready md ops listed = l) (hl : l.isEmpty = false)
    (h : ∀ i ∈ l, wpOp P ops Q i (fun a' w' => (i < n → S w') ∧ wpAnyT P md ops Q S n fuel (listed.setIfInBounds i true) a' w') a w) : wpAnyT P md ops Q S n (fuel + 1) listed a w := by
  refine ⟨fun h0 => ?_, ?_⟩
  · rw [hr] at h0; subst h0; cases hl
  · rw [hr]; exact h
theorem rg_go {i : Nat} {o : Oper} {fuel : Nat} {listed : Array Bool} {a : Act} {w : World} (hi : ops[i]? = some o) (hw : Region.wanted o (yielded ops a.tmps) = true)
    (h : o.wp P a w (fun a' w' => (i < n → S w') ∧ wpAnyT P md ops Q S n fuel (listed.setIfInBounds i true) a' w') Q) : wpOp P ops Q i (fun a' w' => (i < n → S w') ∧ wpAnyT P md ops Q S n fuel (listed.setIfInBounds i true) a' w') a w := by
  unfold wpOp
  simp only [hi, hw, if_true]
  exact .inl h
/-- A call that gives a value, and of whose world T is known. -/
theorem rg_call {i : Nat} {o : Oper} {fuel : Nat} {listed : Array Bool} {a : Act} {w : World} (L : Array Bool) (hL : listed.setIfInBounds i true = L) (d : Nat) (hdst : o.dst = some d) (hi : ops[i]? = some o) (hw : Region.wanted o (yielded ops a.tmps) = true)
    (f : FuncId) (args : Array Value) (hrun : (execOp a.eval o).run P w = .ok (.enter f args) w) {v : Value} {T : World → Prop} (hc : Calls P f args w fun e w' => e = .returned v ∧ T w')
    (h : ∀ w', T w' → (i < n → S w') ∧ wpAnyT P md ops Q S n fuel L { tmps := a.tmps.setIfInBounds d v, defers := a.defers } w') : wpOp P ops Q i (fun a' w' => (i < n → S w') ∧ wpAnyT P md ops Q S n fuel (listed.setIfInBounds i true) a' w') a w := by
  refine rg_go hi hw ?_
  unfold Oper.wp
  rw [hrun, Oper.upon_enter]
  refine hc.mono fun e w'' hh => ?_
  obtain ⟨rfl, hT⟩ := hh
  have h2 := h _ hT
  show _ ∧ wpAnyT _ _ _ _ _ _ _ _ (a.put o.dst v) _
  rw [hdst, hL]
  exact h2
/-- A new block. -/
theorem rg_alloc {i : Nat} {o : Oper} {fuel : Nat} {listed : Array Bool} {a : Act} {w : World} (L : Array Bool) (hL : listed.setIfInBounds i true = L) (d : Nat) (hdst : o.dst = some d) (hi : ops[i]? = some o) (hw : Region.wanted o (yielded ops a.tmps) = true)
    (ty : TypeId) (cs : Array Value) (hrun : (execOp a.eval o).run P w = .ok (.value (.pointer (some ⟨w.heap.size, 0, none⟩))) (w.alloc (.cells cs ty)))
    (h : ∀ w', Blk w' w.heap.size ty cs → Below w.heap.size w w' → (i < n → S w') ∧ wpAnyT P md ops Q S n fuel L { tmps := a.tmps.setIfInBounds d (.pointer (some ⟨w.heap.size, 0, none⟩)), defers := a.defers } w') : wpOp P ops Q i (fun a' w' => (i < n → S w') ∧ wpAnyT P md ops Q S n fuel (listed.setIfInBounds i true) a' w') a w := by
  refine rg_go hi hw ?_
  unfold Oper.wp
  rw [hrun, Oper.upon_value]
  show _ ∧ wpAnyT _ _ _ _ _ _ _ _ (a.put o.dst _) _
  rw [hdst, hL]
  exact h _ (Blk.new _ _ _) (below_alloc (Below.refl _ _) _)
/-- A store of a whole row. -/
theorem rg_store {i : Nat} {o : Oper} {fuel : Nat} {listed : Array Bool} {a : Act} {w : World} (L : Array Bool) (hL : listed.setIfInBounds i true = L) (hdst : o.dst = none) (hi : ops[i]? = some o) (hw : Region.wanted o (yielded ops a.tmps) = true)
    (ty : TypeId) (x y : Operand) (ho : o.op = .store ty x y) (g : Nat) (cells : Array Value) (hx : a.eval x = .pointer (some ⟨g, 0, none⟩)) (hy : a.eval y = .agg cells) (t : TypeId) (old : Array Value) (hb : Blk w g t old)
    (hsz : (P.info? ty).map (·.size) = some cells.size) (hold : old.size = cells.size) (h1 : cells.all (·.oneCell') = true)
    (h : ∀ w', Chg w w' g → Blk w' g t cells → (i < n → S w') ∧ wpAnyT P md ops Q S n fuel L a w') : wpOp P ops Q i (fun a' w' => (i < n → S w') ∧ wpAnyT P md ops Q S n fuel (listed.setIfInBounds i true) a' w') a w := by
  refine rg_go hi hw (wp_store_row ty x y ho g cells hx hy t old hb hsz hold h1 ?_)
  rw [hdst, hL]
  refine h _ ⟨rfl, rfl, rfl, by rw [size_setRow]; exact Nat.le_refl _, fun k hk hne => setRow_far w g k cells hne⟩ (hb.row cells)
/-- A store of one cell. -/
theorem rg_cell {i : Nat} {o : Oper} {fuel : Nat} {listed : Array Bool} {a : Act} {w : World} (L : Array Bool) (hL : listed.setIfInBounds i true = L) (hdst : o.dst = none) (hi : ops[i]? = some o) (hw : Region.wanted o (yielded ops a.tmps) = true)
    (g off t : Nat) (v : Value) (old : Array Value) (hb : Blk w g t old) (hrun : (execOp a.eval o).run P w = .ok .skip (w.setCell ⟨g, off, none⟩ v))
    (h : ∀ w', Chg w w' g → Blk w' g t (old.setIfInBounds off v) → (i < n → S w') ∧ wpAnyT P md ops Q S n fuel L a w') : wpOp P ops Q i (fun a' w' => (i < n → S w') ∧ wpAnyT P md ops Q S n fuel (listed.setIfInBounds i true) a' w') a w := by
  refine rg_go hi hw ?_
  unfold Oper.wp
  rw [hrun, Oper.upon_skip]
  show _ ∧ wpAnyT _ _ _ _ _ _ _ _ (a.put o.dst undef) _
  rw [hdst, hL]
  exact h _ ((Chg.refl w g).set off v) (hb.set_ off v)
/-- The region begins. -/
theorem rg_begin {id : Nat} {a : Act} {w : World} (S : World → Prop) (n m : Nat) (L : Array Bool) (hs : ops.size = m) (hL : Array.replicate m false = L) (hm : P.follows .mixedOrders = true)
    (h : ∀ w', Below w.heap.size w w' → wpAnyT P .any ops Q S n m L a w') : (Code.region id ops true).wp P Q a w :=
  wp_region_till S n m L hs hL hm (h _ (below_drewN (Below.refl _ _) 1))
end
theorem below_chg' {w w1 w2 : World} {B g : Nat} (h : Below B w w1) (hc : Chg w1 w2 g) (hg : B ≤ g) (hB : B ≤ w1.heap.size) : Below B w w2 :=
  ⟨hc.os.trans h.os, hc.tape.trans h.tape, hc.output.trans h.output, Nat.le_trans h.size hc.size, fun k hk => by
    rw [hc.block k (by omega) (by omega)]; exact h.block k hk⟩
end Go.Proofs.Ytcfaammnkbkfcaa
