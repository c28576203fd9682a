/- Words on memory for the walks of this seat: a block that is known whole, an array of six limbs, a wide integer. -/
import Derived.Test.YtjgikfejfglllaaProg
import Derived.Below
import Derived.Deep.Draws
import Derived.Laws.OwnMore
import Derived.Laws.Rows
import Derived.Laws.ResultCell
import Derived.Deep.AppendLies
import Derived.OwnWalk
import Derived.WalkKit
import Derived.KernelRfl
import Derived.RowKit3
import Derived.Deep.LoopGhost
import Derived.Deep.QuietTactic
import Derived.BigQuiet
import Derived.Outline
import Derived.Lib.Hide
namespace Go.Proofs.Ytjgikfejfglllaa
open Go.RowKit

/-- Block g is just the cells cs. -/
def Blk (w : World) (g : Nat) (t : TypeId) (cs : Array Value) : Prop := w.heap[g]? = some (.cells cs t (0, 0))

section
variable {w w' : World} {g : Nat} {t : TypeId} {cs : Array Value}
theorem Blk.lt (h : Blk w g t cs) : g < w.heap.size := by
  rcases Nat.lt_or_ge g w.heap.size with hlt | hge
  · exact hlt
  · unfold Blk at h; rw [Array.getElem?_eq_none hge] at h; cases h
theorem Blk.cell (h : Blk w g t cs) (i : Nat) : w.cell? ⟨g, i, none⟩ = cs[i]? := cell_of_row w g i cs t (0, 0) h
theorem Blk.frozen (h : Blk w g t cs) (i : Nat) : w.frozen? ⟨g, i, none⟩ = false := by
  unfold Blk at h
  simp [World.frozen?, h]
theorem Blk.new (w : World) (t : TypeId) (cs : Array Value) : Blk (w.alloc (.cells cs t)) w.heap.size t cs := heap_alloc_new w _
theorem Blk.drew (h : Blk w g t cs) : Blk w.drew g t cs := h
theorem Blk.drewN (h : Blk w g t cs) (n : Nat) : Blk (w.drewN n) g t cs := h
theorem Blk.alloc (h : Blk w g t cs) (o : Obj) : Blk (w.alloc o) g t cs := (Below.heap_alloc w o g h.lt).trans h
theorem Blk.set_ (h : Blk w g t cs) (i : Nat) (u : Value) : Blk (w.setCell ⟨g, i, none⟩ u) g t (cs.setIfInBounds i u) := by
  unfold Blk at h ⊢
  simp [World.setCell, Array.getElem?_modify, h]
theorem Blk.far (h : Blk w g t cs) {p : Addr} (hp : g ≠ p.block) (u : Value) : Blk (w.setCell p u) g t cs := (Below.heap_setCell w p u g hp).trans h
theorem Blk.below {B : Nat} (h : Blk w g t cs) (hb : Below B w w') (hg : g < B) : Blk w' g t cs := (hb.block g hg).trans h
theorem Blk.later (h : Blk w g t cs) (hb : Below w.heap.size w w') : Blk w' g t cs := h.below hb h.lt
end

theorem bcell {W w1 : World} (hb : Below W.heap.size W w1) : (∀ b o, b < W.heap.size → w1.cell? ⟨b, o, none⟩ = W.cell? ⟨b, o, none⟩) ∧ (∀ b o, b < W.heap.size → w1.frozen? ⟨b, o, none⟩ = W.frozen? ⟨b, o, none⟩) :=
  ⟨fun b o h => hb.cell (p := ⟨b, o, none⟩) h, fun b o h => hb.frozen (p := ⟨b, o, none⟩) h⟩

/-- Limb k of a size. -/
def lb (M k : Nat) : Nat := M / 2 ^ (32 * k) % 2 ^ 32
theorem lb_le (M k : Nat) : lb M k ≤ 4294967295 := by unfold lb; omega
theorem lb_lt (M k : Nat) : lb M k < 4294967296 := by unfold lb; omega

def cl (f : Nat → Nat) : Array Value := #[.int .u32 (f 0), .int .u32 (f 1), .int .u32 (f 2), .int .u32 (f 3), .int .u32 (f 4), .int .u32 (f 5)]
theorem cl_at (f : Nat → Nat) (k : Nat) (h : k < 6) : (cl f)[k]? = some (.int .u32 (f k)) := by
  match k, h with
  | 0, _ | 1, _ | 2, _ | 3, _ | 4, _ | 5, _ => rfl
theorem cl_set (f : Nat → Nat) (k v : Nat) (h : k < 6) : (cl f).setIfInBounds k (.int .u32 v) = cl (fun j => if j = k then v else f j) := by
  match k, h with
  | 0, _ | 1, _ | 2, _ | 3, _ | 4, _ | 5, _ => rfl
theorem cl_congr {f f' : Nat → Nat} (h : ∀ k, k < 6 → f k = f' k) : cl f = cl f' := by
  simp only [cl, h 0 (by omega), h 1 (by omega), h 2 (by omega), h 3 (by omega), h 4 (by omega), h 5 (by omega)]
theorem cl_step {f f' : Nat → Nat} {k v : Nat} (h : k < 6) (hv : f' k = v) (ho : ∀ j, j < 6 → j ≠ k → f' j = f j) : (cl f).setIfInBounds k (.int .u32 v) = cl f' := by
  rw [cl_set f k v h]
  refine cl_congr fun j hj => ?_
  by_cases e : j = k
  · rw [if_pos e, e, hv]
  · rw [if_neg e, ho j hj e]
/-- A size as a value. -/
def szv (M : Nat) : Value := .agg (cl (lb M))
/-- A wide integer as a value. -/
def wcl (n : Bool) (f : Nat → Nat) : Array Value := #[.bool n, .int .u32 (f 0), .int .u32 (f 1), .int .u32 (f 2), .int .u32 (f 3), .int .u32 (f 4), .int .u32 (f 5)]
def wdv (n : Bool) (M : Nat) : Value := .agg (wcl n (lb M))

section
variable {w : World} {g t : Nat} {f : Nat → Nat} {n : Bool}
theorem Blk.at_ (h : Blk w g t (cl f)) {k : Nat} (hk : k < 6) : w.cell? ⟨g, k, none⟩ = some (.int .u32 (f k)) := by rw [h.cell, cl_at f k hk]
theorem Blk.step {f' : Nat → Nat} {k v : Nat} (h : Blk w g t (cl f)) (hk : k < 6) (hv : f' k = v) (ho : ∀ j, j < 6 → j ≠ k → f' j = f j) : Blk (w.setCell ⟨g, k, none⟩ (.int .u32 v)) g t (cl f') := by
  rw [← cl_step hk hv ho]
  exact h.set_ k _
theorem Blk.six (h : Blk w g t (cl f)) : w.cell? ⟨g, 0, none⟩ = some (.int .u32 (f 0)) ∧ w.cell? ⟨g, 1, none⟩ = some (.int .u32 (f 1)) ∧ w.cell? ⟨g, 2, none⟩ = some (.int .u32 (f 2)) ∧ w.cell? ⟨g, 3, none⟩ = some (.int .u32 (f 3)) ∧ w.cell? ⟨g, 4, none⟩ = some (.int .u32 (f 4)) ∧ w.cell? ⟨g, 5, none⟩ = some (.int .u32 (f 5)) :=
  ⟨h.at_ (by omega), h.at_ (by omega), h.at_ (by omega), h.at_ (by omega), h.at_ (by omega), h.at_ (by omega)⟩
theorem Blk.froz {cs : Array Value} (h : Blk w g t cs) : w.frozen? ⟨g, 0, none⟩ = false ∧ w.frozen? ⟨g, 1, none⟩ = false ∧ w.frozen? ⟨g, 2, none⟩ = false ∧ w.frozen? ⟨g, 3, none⟩ = false ∧ w.frozen? ⟨g, 4, none⟩ = false ∧ w.frozen? ⟨g, 5, none⟩ = false ∧ w.frozen? ⟨g, 6, none⟩ = false :=
  ⟨h.frozen _, h.frozen _, h.frozen _, h.frozen _, h.frozen _, h.frozen _, h.frozen _⟩
theorem Blk.seven (h : Blk w g t (wcl n f)) : w.cell? ⟨g, 0, none⟩ = some (.bool n) ∧ w.cell? ⟨g, 1, none⟩ = some (.int .u32 (f 0)) ∧ w.cell? ⟨g, 2, none⟩ = some (.int .u32 (f 1)) ∧ w.cell? ⟨g, 3, none⟩ = some (.int .u32 (f 2)) ∧ w.cell? ⟨g, 4, none⟩ = some (.int .u32 (f 3)) ∧ w.cell? ⟨g, 5, none⟩ = some (.int .u32 (f 4)) ∧ w.cell? ⟨g, 6, none⟩ = some (.int .u32 (f 5)) :=
  ⟨h.cell 0, h.cell 1, h.cell 2, h.cell 3, h.cell 4, h.cell 5, h.cell 6⟩
end

/-- A pointer leads to six limbs. -/
def Six (w : World) (g o : Nat) (f : Nat → Nat) : Prop := g < w.heap.size ∧ ∀ k, k < 6 → w.cell? ⟨g, o + k, none⟩ = some (.int .u32 (f k))
theorem Six.later {w w' : World} {g o : Nat} {f : Nat → Nat} (h : Six w g o f) (hb : Below w.heap.size w w') : Six w' g o f :=
  ⟨Nat.lt_of_lt_of_le h.1 hb.size, fun k hk => (hb.cell (p := ⟨g, o + k, none⟩) h.1).trans (h.2 k hk)⟩
theorem Six.drewN {w : World} {g o : Nat} {f : Nat → Nat} (h : Six w g o f) (n : Nat) : Six (w.drewN n) g o f := h
theorem Six.of_blk {w : World} {g t : Nat} {f : Nat → Nat} (h : Blk w g t (cl f)) : Six w g 0 f := ⟨h.lt, fun k hk => by rw [Nat.zero_add]; exact h.at_ hk⟩
theorem Six.of_wide {w : World} {g t : Nat} {n : Bool} {f : Nat → Nat} (h : Blk w g t (wcl n f)) : Six w g 1 f := ⟨h.lt, fun k hk => by
  rw [h.cell]
  match k, hk with
  | 0, _ | 1, _ | 2, _ | 3, _ | 4, _ | 5, _ => rfl⟩

/-- An int in a slot, its form turned. -/
theorem int_eq {k : IntKind} {a b : Int} (h : a = b) : Value.int k a = .int k b := by rw [h]
theorem below_drewN {B : Nat} {w W : World} (h : Below B w W) (n : Nat) : Below B w (W.drewN n) := ⟨h.os, h.tape, h.output, h.size, h.block⟩
theorem below_alloc {w W : World} (h : Below w.heap.size w W) (o : Obj) : Below w.heap.size w (W.alloc o) := h.alloc h.size o
theorem below_then {w w1 w2 : World} (h : Below w.heap.size w w1) (k : Below w1.heap.size w1 w2) : Below w.heap.size w w2 :=
  h.trans ⟨k.os, k.tape, k.output, k.size, fun i hi => k.block i (Nat.lt_of_lt_of_le hi h.size)⟩
theorem Blk.newAt {w : World} {g : Nat} (h : w.heap.size = g) (t : TypeId) (cs : Array Value) : Blk (w.alloc (.cells cs t)) g t cs := h ▸ Blk.new w t cs
theorem below_set {B : Nat} {w w' : World} (h : Below B w w') {a : Addr} (ha : B ≤ a.block) (v : Value) : Below B w (w'.setCell a v) := h.setCell ha v

theorem list6 {α : Type} (l : List α) (h : l.length = 6) : ∃ a b c d e f, l = [a, b, c, d, e, f] := by
  match l, h with
  | [a, b, c, d, e, f], _ => exact ⟨a, b, c, d, e, f, rfl⟩
theorem Blk.put6 {w : World} {g t : Nat} {cs : Array Value} (h : Blk w g t cs) (hs : cs.size = 6) (v0 v1 v2 v3 v4 v5 : Value) : Blk (((((((w).setCell ⟨g, 0, none⟩ v0).setCell ⟨g, 1, none⟩ v1).setCell ⟨g, 2, none⟩ v2).setCell ⟨g, 3, none⟩ v3).setCell ⟨g, 4, none⟩ v4).setCell ⟨g, 5, none⟩ v5) g t #[v0, v1, v2, v3, v4, v5] := by
  obtain ⟨l⟩ := cs
  obtain ⟨_, _, _, _, _, _, rfl⟩ := list6 l hs
  have h' := (((((h.set_ 0 v0).set_ 1 v1).set_ 2 v2).set_ 3 v3).set_ 4 v4).set_ 5 v5
  simpa using h'
theorem list7 {α : Type} (l : List α) (h : l.length = 7) : ∃ a b c d e f g, l = [a, b, c, d, e, f, g] := by
  match l, h with
  | [a, b, c, d, e, f, g], _ => exact ⟨a, b, c, d, e, f, g, rfl⟩
theorem Blk.put7 {w : World} {g t : Nat} {cs : Array Value} (h : Blk w g t cs) (hs : cs.size = 7) (v0 v1 v2 v3 v4 v5 v6 : Value) : Blk ((((((((w).setCell ⟨g, 0, none⟩ v0).setCell ⟨g, 1, none⟩ v1).setCell ⟨g, 2, none⟩ v2).setCell ⟨g, 3, none⟩ v3).setCell ⟨g, 4, none⟩ v4).setCell ⟨g, 5, none⟩ v5).setCell ⟨g, 6, none⟩ v6) g t #[v0, v1, v2, v3, v4, v5, v6] := by
  obtain ⟨l⟩ := cs
  obtain ⟨_, _, _, _, _, _, _, rfl⟩ := list7 l hs
  have h' := ((((((h.set_ 0 v0).set_ 1 v1).set_ 2 v2).set_ 3 v3).set_ 4 v4).set_ 5 v5).set_ 6 v6
  simpa using h'
theorem below_put6 {B : Nat} {w w' : World} (h : Below B w w') {g : Nat} (hg : B ≤ g) (v0 v1 v2 v3 v4 v5 : Value) : Below B w (((((((w').setCell ⟨g, 0, none⟩ v0).setCell ⟨g, 1, none⟩ v1).setCell ⟨g, 2, none⟩ v2).setCell ⟨g, 3, none⟩ v3).setCell ⟨g, 4, none⟩ v4).setCell ⟨g, 5, none⟩ v5) :=
  (((((h.setCell hg v0).setCell hg v1).setCell hg v2).setCell hg v3).setCell hg v4).setCell hg v5
theorem below_put7 {B : Nat} {w w' : World} (h : Below B w w') {g : Nat} (hg : B ≤ g) (v0 v1 v2 v3 v4 v5 v6 : Value) : Below B w ((((((((w').setCell ⟨g, 0, none⟩ v0).setCell ⟨g, 1, none⟩ v1).setCell ⟨g, 2, none⟩ v2).setCell ⟨g, 3, none⟩ v3).setCell ⟨g, 4, none⟩ v4).setCell ⟨g, 5, none⟩ v5).setCell ⟨g, 6, none⟩ v6) :=
  ((((((h.setCell hg v0).setCell hg v1).setCell hg v2).setCell hg v3).setCell hg v4).setCell hg v5).setCell hg v6
section
variable {P : Program} {fn : Func} {p q u : Tmp} {ty ty' : TypeId} {tmps : Array Value} {w : World} {g g' t t' : Nat} {cs cs' : Array Value} {d d' : TypeDesc}
theorem res_row (h : fn.results = #[.cell p ty]) (hp : tmps.getD p undef = .pointer (some ⟨g, 0, none⟩)) (hg : Blk w g t cs)
    (hu : P.underlying ty = some d) (hd : (match d with | .struct _ | .array _ _ => true | _ => false) = true) (hi : (P.info? ty).map (·.size) = some cs.size) :
    (results fn tmps).run P w = .ok (.agg cs) w := results_cell_row h tmps w g t cs (0, 0) d hp hg hu hd hi
theorem res_row_tmp (h : fn.results = #[.cell p ty, .tmp u]) (hp : tmps.getD p undef = .pointer (some ⟨g, 0, none⟩)) (hg : Blk w g t cs)
    (hu : P.underlying ty = some d) (hd : (match d with | .struct _ | .array _ _ => true | _ => false) = true) (hi : (P.info? ty).map (·.size) = some cs.size) :
    (results fn tmps).run P w = .ok (.tuple #[.agg cs, tmps.getD u undef]) w := by
  rw [results_cell_tmp h, hp]
  simp [asAddr, run_loadVar_row w g t ty cs (0, 0) d hg hu hd hi, Result.andThen]
theorem res_row_row (h : fn.results = #[.cell p ty, .cell q ty']) (hp : tmps.getD p undef = .pointer (some ⟨g, 0, none⟩)) (hg : Blk w g t cs)
    (hq : tmps.getD q undef = .pointer (some ⟨g', 0, none⟩)) (hg' : Blk w g' t' cs')
    (hu : P.underlying ty = some d) (hd : (match d with | .struct _ | .array _ _ => true | _ => false) = true) (hi : (P.info? ty).map (·.size) = some cs.size)
    (hu' : P.underlying ty' = some d') (hd' : (match d' with | .struct _ | .array _ _ => true | _ => false) = true) (hi' : (P.info? ty').map (·.size) = some cs'.size) :
    (results fn tmps).run P w = .ok (.tuple #[.agg cs, .agg cs']) w := by
  have hp' : tmps[p]?.getD undef = .pointer (some ⟨g, 0, none⟩) := by simpa using hp
  have hq' : tmps[q]?.getD undef = .pointer (some ⟨g', 0, none⟩) := by simpa using hq
  simp [results, h, hp', hq', asAddr, run_loadVar_row w g t ty cs (0, 0) d hg hu hd hi, run_loadVar_row w g' t' ty' cs' (0, 0) d' hg' hu' hd' hi', Result.andThen]
theorem res_row_row_tmp (h : fn.results = #[.cell p ty, .cell q ty', .tmp u]) (hp : tmps.getD p undef = .pointer (some ⟨g, 0, none⟩)) (hg : Blk w g t cs)
    (hq : tmps.getD q undef = .pointer (some ⟨g', 0, none⟩)) (hg' : Blk w g' t' cs')
    (hu : P.underlying ty = some d) (hd : (match d with | .struct _ | .array _ _ => true | _ => false) = true) (hi : (P.info? ty).map (·.size) = some cs.size)
    (hu' : P.underlying ty' = some d') (hd' : (match d' with | .struct _ | .array _ _ => true | _ => false) = true) (hi' : (P.info? ty').map (·.size) = some cs'.size) :
    (results fn tmps).run P w = .ok (.tuple #[.agg cs, .agg cs', tmps.getD u undef]) w := by
  have hp' : tmps[p]?.getD undef = .pointer (some ⟨g, 0, none⟩) := by simpa using hp
  have hq' : tmps[q]?.getD undef = .pointer (some ⟨g', 0, none⟩) := by simpa using hq
  simp [results, h, hp', hq', asAddr, run_loadVar_row w g t ty cs (0, 0) d hg hu hd hi, run_loadVar_row w g' t' ty' cs' (0, 0) d' hg' hu' hd' hi', Result.andThen]
end
/-- A call's arguments, spelled otherwise. -/
theorem calls_args {P : Program} {f : FuncId} {args args' : Array Value} {w : World} {Q : Ending → World → Prop} (h : args = args') (hc : Calls P f args' w Q) : Calls P f args w Q := h ▸ hc
theorem sz136 : (Try.prog.info? 136).map (·.size) = some 6 := by kernel_rfl
theorem sz32 : (Try.prog.info? 32).map (·.size) = some 7 := by kernel_rfl

end Go.Proofs.Ytjgikfejfglllaa
