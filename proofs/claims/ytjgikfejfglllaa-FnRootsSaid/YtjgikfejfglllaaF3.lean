/- The law of roots: differences of wide numbers; regions of several orders. -/
import Derived.Test.YtjgikfejfglllaaF2
import Derived.Test.YtjgikfejfglllaaEq
set_option linter.unusedVariables false
set_option linter.unusedSimpArgs false
namespace Go.Proofs.Ytjgikfejfglllaa
open Go.RowKit


section
variable {P : Program} {ops : Array Oper} {Q : Exit → Act → World → Prop} {md : Region.Mode} {S : World → Prop} {n : Nat}
theorem wpAnyT_oneG {i : Nat} {o : Oper} {fuel : Nat} {listed : Array Bool} {a : Act} {w : World} {rs : List Nat} (hi : ops[i]? = some o) (hw : Region.wanted o (yielded ops a.tmps) = true)
    (h : o.wp P a w (fun a' w' => (i < n → S w') ∧ wpAnyT P md ops Q S n fuel (listed.setIfInBounds i true) a' w') Q) : wpOp P ops Q i (fun a' w' => (i < n → S w') ∧ wpAnyT P md ops Q S n fuel (listed.setIfInBounds i true) a' w') a w := by
  unfold wpOp
  simp only [hi, hw, if_true]
  exact .inl h
theorem wpOp_callT {i : Nat} {o : Oper} {fuel : Nat} {listed : Array Bool} {a : Act} {w : World} (L : Array Bool) (hL : listed.setIfInBounds i true = L) (d : Nat) (hdst : o.dst = some d) (hi : ops[i]? = some o) (hw : Region.wanted o (yielded ops a.tmps) = true)
    (f : FuncId) (args : Array Value) (hrun : (execOp a.eval o).run P w = .ok (.enter f args) w) {v : Value} {T : World → Prop} (hc : Calls P f args w fun e w' => e = .returned v ∧ T w')
    (h : ∀ w', T w' → (i < n → S w') ∧ wpAnyT P md ops Q S n fuel L { tmps := a.tmps.setIfInBounds d v, defers := a.defers } w') : wpOp P ops Q i (fun a' w' => (i < n → S w') ∧ wpAnyT P md ops Q S n fuel (listed.setIfInBounds i true) a' w') a w := by
  refine wpAnyT_oneG (rs := []) hi hw ?_
  unfold Oper.wp
  rw [hrun, Oper.upon_enter]
  refine hc.mono fun e w'' hh => ?_
  obtain ⟨rfl, hT⟩ := hh
  have h2 := h _ hT
  show _ ∧ wpAnyT _ _ _ _ _ _ _ _ (a.put o.dst v) _
  rw [hdst, hL]
  exact h2
theorem wpOp_allocT {i : Nat} {o : Oper} {fuel : Nat} {listed : Array Bool} {a : Act} {w : World} (L : Array Bool) (hL : listed.setIfInBounds i true = L) (d : Nat) (hdst : o.dst = some d) (hi : ops[i]? = some o) (hw : Region.wanted o (yielded ops a.tmps) = true)
    (v : Value) (w' : World) (hrun : (execOp a.eval o).run P w = .ok (.value v) w')
    (h : (i < n → S w') ∧ wpAnyT P md ops Q S n fuel L { tmps := a.tmps.setIfInBounds d v, defers := a.defers } w') : wpOp P ops Q i (fun a' w' => (i < n → S w') ∧ wpAnyT P md ops Q S n fuel (listed.setIfInBounds i true) a' w') a w := by
  refine wpAnyT_oneG (rs := []) hi hw ?_
  unfold Oper.wp
  rw [hrun, Oper.upon_value]
  show _ ∧ wpAnyT _ _ _ _ _ _ _ _ (a.put o.dst v) _
  rw [hdst, hL]
  exact h
theorem wpAnyT_two {i j : Nat} {fuel : Nat} {listed : Array Bool} {a : Act} {w : World} (hr : Region.ready md ops listed = [i, j])
    (h1 : wpOp P ops Q i (fun a' w' => (i < n → S w') ∧ wpAnyT P md ops Q S n fuel (listed.setIfInBounds i true) a' w') a w)
    (h2 : wpOp P ops Q j (fun a' w' => (j < n → S w') ∧ wpAnyT P md ops Q S n fuel (listed.setIfInBounds j true) a' w') a w) : wpAnyT P md ops Q S n (fuel + 1) listed a w := by
  refine ⟨fun h0 => absurd (hr ▸ h0) (by simp), ?_⟩
  rw [hr]
  intro k hk
  rcases List.mem_cons.1 hk with rfl | hk
  · exact h1
  · obtain rfl := List.mem_singleton.1 hk
    exact h2
theorem wpAnyT_only {i : Nat} {fuel : Nat} {listed : Array Bool} {a : Act} {w : World} (hr : Region.ready md ops listed = [i])
    (h1 : wpOp P ops Q i (fun a' w' => (i < n → S w') ∧ wpAnyT P md ops Q S n fuel (listed.setIfInBounds i true) a' w') a w) : wpAnyT P md ops Q S n (fuel + 1) listed a w := by
  refine ⟨fun h0 => absurd (hr ▸ h0) (by simp), ?_⟩
  rw [hr]
  intro k hk
  obtain rfl := List.mem_singleton.1 hk
  exact h1
theorem yields_rowG {o : Oper} {a : Act} (ty : TypeId) (x : Operand) (ho : o.op = .load ty x) (hw : Region.wanted o (yielded ops a.tmps) = true) (g : Nat) (hx : a.eval x = .pointer (some ⟨g, 0, none⟩)) (t : TypeId) (cs : Array Value) (d : TypeDesc)
    (hS : ∀ w, S w → Blk w g t cs) (hu : P.underlying ty = some d) (hd : (match d with | .struct _ | .array _ _ => true | _ => false) = true) (hi : (P.info? ty).map (·.size) = some cs.size) : YieldsIf P ops S o (.agg cs) a :=
  .inl ⟨hw, fun w hw' => by
    unfold execOp
    simp only [ho, hx, Instr.loadAt, Instr.sureAddr, Sem.run_bind, Sem.run_pure, Result.andThen_ok, run_loadVar_row w g t ty cs _ d (hS w hw') hu hd hi]⟩
end
theorem isAgg30 (w : World) : (isAgg 30).run Try.prog w = .ok true w := by simp [isAgg, run_underlying Try.underlying30]
theorem isAgg4 (w : World) : (isAgg 4).run Try.prog w = .ok false w := by simp [isAgg, run_underlying Try.underlying4]
theorem eq4 (d : Nat) (x y : Bool) (w : World) : (Op.equalIn (d + 1) 4 (.bool x) (.bool y)).run Try.prog w = .ok (x == y) w := by
  rw [Op.equalIn]
  rw [Sem.run_bind, run_underlying Try.underlying4]
  simp
theorem eqArr' (t : TypeId) (ht : Try.prog.underlying t = some (.array 6 29)) (x0 x1 x2 x3 x4 x5 : Int) (d : Nat) (w : World) :
    (Op.equalIn (d + 1 + 1) t (.agg #[.int .u32 x0, .int .u32 x1, .int .u32 x2, .int .u32 x3, .int .u32 x4, .int .u32 x5]) (.agg #[.int .u32 x0, .int .u32 x1, .int .u32 x2, .int .u32 x3, .int .u32 x4, .int .u32 x5])).run Try.prog w = .ok true w := by
  rw [Op.equalIn]
  rw [Sem.run_bind, run_underlying ht]
  have e := eq29 d
  simp [Sem.run_bind, go_sem, List.range', e]
theorem eqW (n : Bool) (f : Nat → Nat) (w : World) : (Op.equalIn 10000 32 (.agg (wcl n f)) (.agg (wcl n f))).run Try.prog w = .ok true w := by
  show (Op.equalIn (9997 + 1 + 1 + 1) 32 _ _).run _ _ = _
  rw [Op.equalIn]
  rw [Sem.run_bind, run_underlying Try.underlying32]
  have e := eqArr' 30 Try.underlying30
  have e4 := eq4 9998
  simp [Sem.run_bind, go_sem, List.range', e, e4, wcl, isAgg30, isAgg4]

set_option maxHeartbeats 1000000 in
theorem subWides (M N : Nat) (hM : M < pw 6) (hN : N < pw 6) (hle : N ≤ M) (h0 : 0 < N) (w : World) : Calls Try.prog 29 #[wdv false M, wdv false N] w fun e w' => e = .returned (.tuple #[wdv (sg false (M - N)) (M - N), .int .i64 0]) ∧ Below w.heap.size w w' := by
  have hneg : sg (!false) N = true := by
    have : N ≠ 0 := by omega
    simp [sg, this]
  have hr := refNeg_sg false N hN
  rw [hneg] at hr
  unfold wdv
  have d2 : Blk (((w.alloc (.cells (wcl false (lb M)) 32)).alloc (.cells (wcl false (lb N)) 32)).alloc (.cells (wcl false fun _ => 0) 32)) w.heap.size 32 (wcl false (lb M)) := ((Blk.newAt rfl 32 (wcl false (lb M))).alloc _).alloc _
  have d3 : Blk (((w.alloc (.cells (wcl false (lb M)) 32)).alloc (.cells (wcl false (lb N)) 32)).alloc (.cells (wcl false fun _ => 0) 32)) (w.heap.size + 1) 32 (wcl false (lb N)) := (Blk.newAt (by simp) 32 (wcl false (lb N))).alloc _
  have d4 : Blk (((w.alloc (.cells (wcl false (lb M)) 32)).alloc (.cells (wcl false (lb N)) 32)).alloc (.cells (wcl false fun _ => 0) 32)) (w.heap.size + 1 + 1) 32 (wcl false fun _ => 0) := Blk.newAt (by simp) 32 (wcl false fun _ => 0)
  have dB : Below w.heap.size w (((w.alloc (.cells (wcl false (lb M)) 32)).alloc (.cells (wcl false (lb N)) 32)).alloc (.cells (wcl false fun _ => 0) 32)) := below_alloc (below_alloc (below_alloc (Below.refl _ _) _) _) _
  have hr := Lib.hid hr
  clear hneg
  go_enter Try.func29, Try.ntmps29
  go_wp2_with fail
  refine (okN _ 32 M _ d2).mono ?_
  rintro e w1 ⟨rfl, rfl⟩
  go_wp2_with fail
  refine (okN _ 32 N _ d3).mono ?_
  rintro e w1 ⟨rfl, rfl⟩
  go_wp2_with fail
  try go_frame
  refine wp_region_till (fun w' => Blk w' w.heap.size 32 (wcl false (lb M)) ∧ Blk w' (w.heap.size + 1) 32 (wcl false (lb N))) 8 8 #[false, false, false, false, false, false, false, false] rfl rfl rfl ?_
  replace d4 := d4.drewN 1
  replace dB := below_drewN dB 1
  have hS := And.intro (d2.drewN 1) (d3.drewN 1)
  refine wpAnyT_take (i := 0) #[true, false, false, false, false, false, false, false] (by kernel_rfl) 13 rfl rfl (by kernel_rfl) (by kernel_rfl) (by kernel_rfl) (by kernel_rfl) (by kernel_rfl) (fun _ _ _ h => h) (yields_row 32 _ rfl rfl (w.heap.size) rfl 32 _ _ (fun w h => h.1) Try.underlying32 rfl sz32) hS ?_
  try simp only [List.setIfInBounds_toArray, List.set_cons_zero, List.set_cons_succ]
  refine wpAnyT_take (i := 1) #[true, true, false, false, false, false, false, false] (by kernel_rfl) 14 rfl rfl (by kernel_rfl) (by kernel_rfl) (by kernel_rfl) (by kernel_rfl) (by kernel_rfl) (fun _ _ _ h => h) (yields_row 32 _ rfl rfl (w.heap.size + 1) rfl 32 _ _ (fun w h => h.2) Try.underlying32 rfl sz32) hS ?_
  try simp only [List.setIfInBounds_toArray, List.set_cons_zero, List.set_cons_succ]
  refine wpAnyT_call (i := 2) #[true, true, true, false, false, false, false, false] (by kernel_rfl) 15 rfl (by kernel_rfl) rfl rfl 73 #[wdv false N] (by kernel_rfl) (hr.out _) ?_
  intro w1 hb
  replace hS := And.intro (hS.1.later hb) (hS.2.later hb)
  replace d4 := d4.later hb
  replace dB := below_then dB hb
  refine ⟨fun _ => hS, ?_⟩
  try simp only [List.setIfInBounds_toArray, List.set_cons_zero, List.set_cons_succ]
  refine wpAnyT_call (i := 3) #[true, true, true, true, false, false, false, false] (by kernel_rfl) 16 rfl (by kernel_rfl) rfl rfl 72 #[wdv false M, wdv true N] (by kernel_rfl) (refAdd_ge false M N hM hN hle _) ?_
  intro w2 hb2
  replace hS := And.intro (hS.1.later hb2) (hS.2.later hb2)
  replace d4 := d4.later hb2
  replace dB := below_then dB hb2
  have y4 := d4.lt
  refine ⟨fun _ => hS, ?_⟩
  try simp only [List.setIfInBounds_toArray, List.set_cons_zero, List.set_cons_succ]
  refine wpAnyT_take (i := 4) #[true, true, true, true, true, false, false, false] (by kernel_rfl) 17 rfl rfl (by kernel_rfl) (by kernel_rfl) (by kernel_rfl) (by kernel_rfl) (by kernel_rfl) (fun _ _ _ h => h) (.inl ⟨by kernel_rfl, fun _ _ => rfl⟩) hS ?_
  try simp only [List.setIfInBounds_toArray, List.set_cons_zero, List.set_cons_succ]
  refine wpAnyT_take (i := 5) #[true, true, true, true, true, true, false, false] (by kernel_rfl) 18 rfl rfl (by kernel_rfl) (by kernel_rfl) (by kernel_rfl) (by kernel_rfl) (by kernel_rfl) (fun _ _ _ h => h) (.inl ⟨by kernel_rfl, fun _ _ => rfl⟩) hS ?_
  try simp only [List.setIfInBounds_toArray, List.set_cons_zero, List.set_cons_succ]
  refine wpAnyT_store (i := 6) #[true, true, true, true, true, true, true, false] (by kernel_rfl) rfl (by kernel_rfl) rfl rfl 32 _ _ rfl (w.heap.size + 1 + 1) (wcl (sg false (M - N)) (lb (M - N))) rfl rfl 32 _ d4 sz32 rfl (wcl_all _ _) ⟨fun _ => ⟨hS.1.row_far (by omega) _, hS.2.row_far (by omega) _⟩, ?_⟩
  replace hS := And.intro (hS.1.row_far (k := w.heap.size + 1 + 1) (by omega) (wcl (sg false (M - N)) (lb (M - N)))) (hS.2.row_far (k := w.heap.size + 1 + 1) (by omega) (wcl (sg false (M - N)) (lb (M - N))))
  refine wpAnyT_take (i := 7) #[true, true, true, true, true, true, true, true] (by kernel_rfl) 5 rfl rfl (by kernel_rfl) (by kernel_rfl) (by kernel_rfl) (by kernel_rfl) (by kernel_rfl) (fun _ _ _ h => h) (.inl ⟨by kernel_rfl, fun _ _ => rfl⟩) hS ?_
  try simp only [List.setIfInBounds_toArray, List.set_cons_zero, List.set_cons_succ]
  refine wpAnyT_done (by kernel_rfl) ?_ _
  go_wp2
  exact bodyPost_ret (v := .tuple #[wdv (sg false (M - N)) (M - N), .int .i64 0]) (res_row_tmp Try.results29 rfl (d4.row _) Try.underlying32 rfl sz32) rfl ⟨rfl, below_row dB (by omega) _⟩
end Go.Proofs.Ytjgikfejfglllaa
