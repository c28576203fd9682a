/- The quotient of wides: the reference's. -/
import Derived.Test.YtjgikfejfglllaaT12
import Derived.Test.YtjgikfejfglllaaHt
import Derived.Test.YtjgikfejfglllaaNz
set_option linter.unusedVariables false
set_option linter.unusedSimpArgs false
namespace Go.Proofs.Ytjgikfejfglllaa
open Go.RowKit


section
variable {P : Program} {ops : Array Oper} {S : World → Prop}
/-- A load of one cell yields under S. -/
theorem yields_cell {o : Oper} {a : Act} (ty : TypeId) (x : Operand) (ho : o.op = .load ty x) (hg : o.guard = none) (p : Addr) (hx : a.eval x = .pointer (some p)) (d : TypeDesc) (hu : P.underlying ty = some d)
    (hd : (match d with | .struct _ | .array _ _ => true | _ => false) = false) (v : Value) (hS : ∀ w, S w → w.cell? p = some v) : YieldsIf P ops S o v a :=
  .inl ⟨by simp [Region.wanted, hg], fun w hw' => by
    have hagg : ∀ W : World, (isAgg ty).run P W = .ok false W := fun W => by
      rw [← hd]
      cases d <;> simp [isAgg, run_underlying hu]
    unfold execOp
    simp [ho, hx, Instr.loadAt, Instr.sureAddr, Sem.run_bind, Sem.run_pure, Result.andThen_ok, loadVar, hagg, hS w hw']⟩
end
theorem zero_yes (g : Nat) (M : Nat) (hM : M < pw 6) (h0 : M = 0) (w : World) (h : Blk w g 147 (cl (lb M))) :
    Calls Try.prog 141 #[.pointer (some ⟨g, 0, none⟩)] w fun e w' => e = .returned (.bool true) ∧ w = w' := by
  have := zero_ref g M hM w h
  rwa [decide_eq_true h0] at this
theorem zero_no (g : Nat) (M : Nat) (hM : M < pw 6) (h0 : M ≠ 0) (w : World) (h : Blk w g 147 (cl (lb M))) :
    Calls Try.prog 141 #[.pointer (some ⟨g, 0, none⟩)] w fun e w' => e = .returned (.bool false) ∧ w = w' := by
  have := zero_ref g M hM w h
  rwa [decide_eq_false h0] at this

set_option maxHeartbeats 4000000 in
theorem refDiv_same (n : Bool) (M N : Nat) (hM : M < pw 6) (hN : N < pw 6) (hN0 : 0 < N) (w : World) :
    Calls Try.prog 105 #[wdv n M, wdv (n) N] w fun e w' => e = .returned (.tuple #[wdv (sg false (M / N)) (M / N), wdv (sg n (M % N)) (M % N)]) ∧ Below w.heap.size w w' := by
  have hQ : M / N < pw 6 := Nat.lt_of_le_of_lt (Nat.div_le_self _ _) hM
  have hR : M % N < pw 6 := Nat.lt_of_le_of_lt (Nat.mod_le _ _) hM
  unfold wdv wcl
  cases n
  · go_enter Try.func105, Try.ntmps105
    go_wp2_with fail
    refine (divMag_any _ _ M N hM hN hN0 _ (by exact ((Blk.newAt (by simp [World.setRow]) 147 (cl (lb M))).alloc _)) (by exact (Blk.newAt (by simp [World.setRow]) 147 (cl (lb N))))).mono ?_
    rintro e w1 ⟨rfl, hb⟩
    have na : Blk w1 (w.heap.size) 32 (wcl false (lb M)) := (((((((Blk.newAt rfl 32 (wcl false (lb M))).alloc _).alloc _).alloc _).alloc _).alloc _)).later hb
    have nb : Blk w1 (w.heap.size + 1) 32 (wcl false (lb N)) := ((((((Blk.newAt (by simp [World.setRow]) 32 (wcl false (lb N))).alloc _).alloc _).alloc _).alloc _)).later hb
    have np : Blk w1 (w.heap.size + 1 + 1) 32 (wcl false fun _ => 0) := (((((Blk.newAt (by simp [World.setRow]) 32 (wcl false fun _ => 0)).alloc _).alloc _).alloc _)).later hb
    have nq : Blk w1 (w.heap.size + 1 + 1 + 1) 32 (wcl false fun _ => 0) := ((((Blk.newAt (by simp [World.setRow]) 32 (wcl false fun _ => 0)).alloc _).alloc _)).later hb
    have nx : Blk w1 (w.heap.size + 1 + 1 + 1 + 1) 147 (cl (lb M)) := (((Blk.newAt (by simp [World.setRow]) 147 (cl (lb M))).alloc _)).later hb
    have ny : Blk w1 (w.heap.size + 1 + 1 + 1 + 1 + 1) 147 (cl (lb N)) := ((Blk.newAt (by simp [World.setRow]) 147 (cl (lb N)))).later hb
    have nB : Below w.heap.size w w1 := below_then (below_alloc (below_alloc (below_alloc (below_alloc (below_alloc (below_alloc (Below.refl w.heap.size w) _) _) _) _) _) _) hb
    have yw1_0 := hb.size
    try simp only [World.size_alloc, size_setRow] at yw1_0
    clear hb
    have da := na
    have za_0 := da.lt
    have db := nb
    have zb_0 := db.lt
    have dp := np
    have zp_0 := dp.lt
    have dq := nq
    have zq_0 := dq.lt
    have dx := nx
    have zx_0 := dx.lt
    have dy := ny
    have zy_0 := dy.lt
    have dB := nB
    clear na nb np nq nx ny nB
    obtain ⟨ca0, ca1, ca2, ca3, ca4, ca5, ca6⟩ := da.seven
    obtain ⟨cb0, cb1, cb2, cb3, cb4, cb5, cb6⟩ := db.seven
    unfold szv cl
    go_wp2_with fail
    have na : Blk (((w1.alloc (.cells (cl (lb (M / N))) 147)).alloc (.cells (cl (lb (M % N))) 147)).drewN 1) (w.heap.size) 32 (wcl false (lb M)) := ((da.alloc _).alloc _).drewN 1
    have nb : Blk (((w1.alloc (.cells (cl (lb (M / N))) 147)).alloc (.cells (cl (lb (M % N))) 147)).drewN 1) (w.heap.size + 1) 32 (wcl false (lb N)) := ((db.alloc _).alloc _).drewN 1
    have np : Blk (((w1.alloc (.cells (cl (lb (M / N))) 147)).alloc (.cells (cl (lb (M % N))) 147)).drewN 1) (w.heap.size + 1 + 1) 32 (wcl false fun _ => 0) := ((dp.alloc _).alloc _).drewN 1
    have nq : Blk (((w1.alloc (.cells (cl (lb (M / N))) 147)).alloc (.cells (cl (lb (M % N))) 147)).drewN 1) (w.heap.size + 1 + 1 + 1) 32 (wcl false fun _ => 0) := ((dq.alloc _).alloc _).drewN 1
    have nx : Blk (((w1.alloc (.cells (cl (lb (M / N))) 147)).alloc (.cells (cl (lb (M % N))) 147)).drewN 1) (w.heap.size + 1 + 1 + 1 + 1) 147 (cl (lb M)) := ((dx.alloc _).alloc _).drewN 1
    have ny : Blk (((w1.alloc (.cells (cl (lb (M / N))) 147)).alloc (.cells (cl (lb (M % N))) 147)).drewN 1) (w.heap.size + 1 + 1 + 1 + 1 + 1) 147 (cl (lb N)) := ((dy.alloc _).alloc _).drewN 1
    have nu : Blk (((w1.alloc (.cells (cl (lb (M / N))) 147)).alloc (.cells (cl (lb (M % N))) 147)).drewN 1) (w1.heap.size) 147 (cl (lb (M / N))) := ((Blk.newAt rfl 147 (cl (lb (M / N)))).alloc _).drewN 1
    have nv : Blk (((w1.alloc (.cells (cl (lb (M / N))) 147)).alloc (.cells (cl (lb (M % N))) 147)).drewN 1) (w1.heap.size + 1) 147 (cl (lb (M % N))) := (Blk.newAt (by simp [World.setRow]) 147 (cl (lb (M % N)))).drewN 1
    have nB : Below w.heap.size w (((w1.alloc (.cells (cl (lb (M / N))) 147)).alloc (.cells (cl (lb (M % N))) 147)).drewN 1) := below_drewN (below_alloc (below_alloc dB _) _) 1
    try clear da db dp dq dx dy dB
    have da := na
    have db := nb
    have dp := np
    have dq := nq
    have dx := nx
    have dy := ny
    have du := nu
    have dv := nv
    have dB := nB
    clear na nb np nq nx ny nu nv nB
    refine wp_region_till (fun w' => Blk w' (w.heap.size) 32 (wcl false (lb M)) ∧ Blk w' (w.heap.size + 1) 32 (wcl false (lb N)) ∧ Blk w' (w1.heap.size) 147 (cl (lb (M / N))) ∧ Blk w' (w1.heap.size + 1) 147 (cl (lb (M % N)))) 13 13 #[false, false, false, false, false, false, false, false, false, false, false, false, false] rfl rfl rfl ?_
    refine wpAnyT_take (i := 0) (v := .pointer (some ⟨w.heap.size, 0, none⟩)) #[true, false, false, false, false, false, false, false, false, false, false, false, false] (by kernel_rfl) 34 rfl rfl (by kernel_rfl) (by kernel_rfl) (by kernel_rfl) (by kernel_rfl) (by kernel_rfl) (fun _ _ _ h => h) (.inl ⟨rfl, fun _ _ => by unfold execOp; simp [go_sem]⟩) ⟨da, db, du, dv⟩ ?_
    try simp only [List.setIfInBounds_toArray, List.set_cons_zero, List.set_cons_succ]
    refine wpAnyT_take (i := 1) #[true, true, false, false, false, false, false, false, false, false, false, false, false] (by kernel_rfl) 35 rfl rfl (by kernel_rfl) (by kernel_rfl) (by kernel_rfl) (by kernel_rfl) (by kernel_rfl) (fun _ _ _ h => h) (yields_cell 4 _ rfl rfl _ rfl _ (Try.underlying4) rfl (.bool false) (fun w h => (h.1.cell 0).trans rfl)) ⟨da, db, du, dv⟩ ?_
    try simp only [List.setIfInBounds_toArray, List.set_cons_zero, List.set_cons_succ]
    refine wpAnyT_take (i := 2) (v := .pointer (some ⟨w.heap.size + 1, 0, none⟩)) #[true, true, true, false, false, false, false, false, false, false, false, false, false] (by kernel_rfl) 36 rfl rfl (by kernel_rfl) (by kernel_rfl) (by kernel_rfl) (by kernel_rfl) (by kernel_rfl) (fun _ _ _ h => h) (.inl ⟨rfl, fun _ _ => by unfold execOp; simp [go_sem]⟩) ⟨da, db, du, dv⟩ ?_
    try simp only [List.setIfInBounds_toArray, List.set_cons_zero, List.set_cons_succ]
    refine wpAnyT_take (i := 3) #[true, true, true, true, false, false, false, false, false, false, false, false, false] (by kernel_rfl) 37 rfl rfl (by kernel_rfl) (by kernel_rfl) (by kernel_rfl) (by kernel_rfl) (by kernel_rfl) (fun _ _ _ h => h) (yields_cell 4 _ rfl rfl _ rfl _ (Try.underlying4) rfl (.bool false) (fun w h => (h.2.1.cell 0).trans rfl)) ⟨da, db, du, dv⟩ ?_
    try simp only [List.setIfInBounds_toArray, List.set_cons_zero, List.set_cons_succ]
    refine wpAnyT_take (i := 4) (v := .bool false) #[true, true, true, true, true, false, false, false, false, false, false, false, false] (by kernel_rfl) 38 rfl rfl (by kernel_rfl) (by kernel_rfl) (by kernel_rfl) (by kernel_rfl) (by kernel_rfl) (fun _ _ _ h => h) (.inl ⟨rfl, fun _ _ => by unfold execOp; simp [go_sem]⟩) ⟨da, db, du, dv⟩ ?_
    try simp only [List.setIfInBounds_toArray, List.set_cons_zero, List.set_cons_succ]
    refine wpAnyT_take (i := 5) #[true, true, true, true, true, true, false, false, false, false, false, false, false] (by kernel_rfl) 39 rfl rfl (by kernel_rfl) (by kernel_rfl) (by kernel_rfl) (by kernel_rfl) (by kernel_rfl) (fun _ _ _ h => h) (yields_row 147 _ rfl rfl (w1.heap.size) rfl 147 _ _ (fun w h => h.2.2.1) Try.underlying147 rfl sz147) ⟨da, db, du, dv⟩ ?_
    try simp only [List.setIfInBounds_toArray, List.set_cons_zero, List.set_cons_succ]
    refine wpAnyT_take (i := 7) (v := .pointer (some ⟨w.heap.size + 1, 0, none⟩)) #[true, true, true, true, true, true, false, true, false, false, false, false, false] (by kernel_rfl) 41 rfl rfl (by kernel_rfl) (by kernel_rfl) (by kernel_rfl) (by kernel_rfl) (by kernel_rfl) (fun _ _ _ h => h) (.inl ⟨rfl, fun _ _ => by unfold execOp; simp [go_sem]⟩) ⟨da, db, du, dv⟩ ?_
    try simp only [List.setIfInBounds_toArray, List.set_cons_zero, List.set_cons_succ]
    refine wpAnyT_take (i := 8) #[true, true, true, true, true, true, false, true, true, false, false, false, false] (by kernel_rfl) 42 rfl rfl (by kernel_rfl) (by kernel_rfl) (by kernel_rfl) (by kernel_rfl) (by kernel_rfl) (fun _ _ _ h => h) (yields_cell 4 _ rfl rfl _ rfl _ (Try.underlying4) rfl (.bool false) (fun w h => (h.2.1.cell 0).trans rfl)) ⟨da, db, du, dv⟩ ?_
    try simp only [List.setIfInBounds_toArray, List.set_cons_zero, List.set_cons_succ]
    refine wpAnyT_take (i := 9) #[true, true, true, true, true, true, false, true, true, true, false, false, false] (by kernel_rfl) 43 rfl rfl (by kernel_rfl) (by kernel_rfl) (by kernel_rfl) (by kernel_rfl) (by kernel_rfl) (fun _ _ _ h => h) (yields_row 147 _ rfl rfl (w1.heap.size + 1) rfl 147 _ _ (fun w h => h.2.2.2) Try.underlying147 rfl sz147) ⟨da, db, du, dv⟩ ?_
    try simp only [List.setIfInBounds_toArray, List.set_cons_zero, List.set_cons_succ]
    refine wpAnyT_call (i := 6) #[true, true, true, true, true, true, true, true, true, true, false, false, false] (by kernel_rfl) 40 rfl (by kernel_rfl) rfl rfl 115 #[.bool false, szv (M / N)] (by kernel_rfl) (made_sg false _ hQ _) ?_
    rintro x4 hb
    have na : Blk x4 (w.heap.size) 32 (wcl false (lb M)) := (da).later hb
    have nb : Blk x4 (w.heap.size + 1) 32 (wcl false (lb N)) := (db).later hb
    have np : Blk x4 (w.heap.size + 1 + 1) 32 (wcl false fun _ => 0) := (dp).later hb
    have nq : Blk x4 (w.heap.size + 1 + 1 + 1) 32 (wcl false fun _ => 0) := (dq).later hb
    have nx : Blk x4 (w.heap.size + 1 + 1 + 1 + 1) 147 (cl (lb M)) := (dx).later hb
    have ny : Blk x4 (w.heap.size + 1 + 1 + 1 + 1 + 1) 147 (cl (lb N)) := (dy).later hb
    have nu : Blk x4 (w1.heap.size) 147 (cl (lb (M / N))) := (du).later hb
    have nv : Blk x4 (w1.heap.size + 1) 147 (cl (lb (M % N))) := (dv).later hb
    have nB : Below w.heap.size w x4 := below_then dB hb
    have yx4_4 := hb.size
    try simp only [World.size_alloc, size_setRow] at yx4_4
    clear hb da db dp dq dx dy du dv dB
    have da := na
    have za_4 := da.lt
    have db := nb
    have zb_4 := db.lt
    have dp := np
    have zp_4 := dp.lt
    have dq := nq
    have zq_4 := dq.lt
    have dx := nx
    have zx_4 := dx.lt
    have dy := ny
    have zy_4 := dy.lt
    have du := nu
    have zu_4 := du.lt
    have dv := nv
    have zv_4 := dv.lt
    have dB := nB
    clear na nb np nq nx ny nu nv nB
    refine ⟨fun _ => ⟨da, db, du, dv⟩, ?_⟩
    try simp only [List.setIfInBounds_toArray, List.set_cons_zero, List.set_cons_succ]
    refine wpAnyT_call (i := 10) #[true, true, true, true, true, true, true, true, true, true, true, false, false] (by kernel_rfl) 44 rfl (by kernel_rfl) rfl rfl 115 #[.bool false, szv (M % N)] (by kernel_rfl) (made_sg false _ hR _) ?_
    rintro x6 hb
    have na : Blk x6 (w.heap.size) 32 (wcl false (lb M)) := (da).later hb
    have nb : Blk x6 (w.heap.size + 1) 32 (wcl false (lb N)) := (db).later hb
    have np : Blk x6 (w.heap.size + 1 + 1) 32 (wcl false fun _ => 0) := (dp).later hb
    have nq : Blk x6 (w.heap.size + 1 + 1 + 1) 32 (wcl false fun _ => 0) := (dq).later hb
    have nx : Blk x6 (w.heap.size + 1 + 1 + 1 + 1) 147 (cl (lb M)) := (dx).later hb
    have ny : Blk x6 (w.heap.size + 1 + 1 + 1 + 1 + 1) 147 (cl (lb N)) := (dy).later hb
    have nu : Blk x6 (w1.heap.size) 147 (cl (lb (M / N))) := (du).later hb
    have nv : Blk x6 (w1.heap.size + 1) 147 (cl (lb (M % N))) := (dv).later hb
    have nB : Below w.heap.size w x6 := below_then dB hb
    have yx6_6 := hb.size
    try simp only [World.size_alloc, size_setRow] at yx6_6
    clear hb da db dp dq dx dy du dv dB
    have da := na
    have za_6 := da.lt
    have db := nb
    have zb_6 := db.lt
    have dp := np
    have zp_6 := dp.lt
    have dq := nq
    have zq_6 := dq.lt
    have dx := nx
    have zx_6 := dx.lt
    have dy := ny
    have zy_6 := dy.lt
    have du := nu
    have zu_6 := du.lt
    have dv := nv
    have zv_6 := dv.lt
    have dB := nB
    clear na nb np nq nx ny nu nv nB
    refine ⟨fun _ => ⟨da, db, du, dv⟩, ?_⟩
    try simp only [List.setIfInBounds_toArray, List.set_cons_zero, List.set_cons_succ]
    refine wpAnyT_store (i := 11) #[true, true, true, true, true, true, true, true, true, true, true, true, false] (by kernel_rfl) rfl (by kernel_rfl) rfl rfl 32 _ _ rfl (w.heap.size + 1 + 1) (wcl (sg false (M / N)) (lb (M / N))) rfl rfl 32 _ dp sz32 rfl (wcl_all _ _) ⟨fun _ => ⟨da.row_far (by omega) _, db.row_far (by omega) _, du.row_far (by omega) _, dv.row_far (by omega) _⟩, ?_⟩
    replace da := da.row_far (k := w.heap.size + 1 + 1) (by omega) (wcl (sg false (M / N)) (lb (M / N)))
    replace db := db.row_far (k := w.heap.size + 1 + 1) (by omega) (wcl (sg false (M / N)) (lb (M / N)))
    replace dp := dp.row (wcl (sg false (M / N)) (lb (M / N)))
    replace dq := dq.row_far (k := w.heap.size + 1 + 1) (by omega) (wcl (sg false (M / N)) (lb (M / N)))
    replace dx := dx.row_far (k := w.heap.size + 1 + 1) (by omega) (wcl (sg false (M / N)) (lb (M / N)))
    replace dy := dy.row_far (k := w.heap.size + 1 + 1) (by omega) (wcl (sg false (M / N)) (lb (M / N)))
    replace du := du.row_far (k := w.heap.size + 1 + 1) (by omega) (wcl (sg false (M / N)) (lb (M / N)))
    replace dv := dv.row_far (k := w.heap.size + 1 + 1) (by omega) (wcl (sg false (M / N)) (lb (M / N)))
    replace dB := below_row (g := w.heap.size + 1 + 1) dB (by omega) (wcl (sg false (M / N)) (lb (M / N)))
    refine wpAnyT_store (i := 12) #[true, true, true, true, true, true, true, true, true, true, true, true, true] (by kernel_rfl) rfl (by kernel_rfl) rfl rfl 32 _ _ rfl (w.heap.size + 1 + 1 + 1) (wcl (sg false (M % N)) (lb (M % N))) rfl rfl 32 _ dq sz32 rfl (wcl_all _ _) ⟨fun _ => ⟨da.row_far (by omega) _, db.row_far (by omega) _, du.row_far (by omega) _, dv.row_far (by omega) _⟩, ?_⟩
    replace da := da.row_far (k := w.heap.size + 1 + 1 + 1) (by omega) (wcl (sg false (M % N)) (lb (M % N)))
    replace db := db.row_far (k := w.heap.size + 1 + 1 + 1) (by omega) (wcl (sg false (M % N)) (lb (M % N)))
    replace dp := dp.row_far (k := w.heap.size + 1 + 1 + 1) (by omega) (wcl (sg false (M % N)) (lb (M % N)))
    replace dq := dq.row (wcl (sg false (M % N)) (lb (M % N)))
    replace dx := dx.row_far (k := w.heap.size + 1 + 1 + 1) (by omega) (wcl (sg false (M % N)) (lb (M % N)))
    replace dy := dy.row_far (k := w.heap.size + 1 + 1 + 1) (by omega) (wcl (sg false (M % N)) (lb (M % N)))
    replace du := du.row_far (k := w.heap.size + 1 + 1 + 1) (by omega) (wcl (sg false (M % N)) (lb (M % N)))
    replace dv := dv.row_far (k := w.heap.size + 1 + 1 + 1) (by omega) (wcl (sg false (M % N)) (lb (M % N)))
    replace dB := below_row (g := w.heap.size + 1 + 1 + 1) dB (by omega) (wcl (sg false (M % N)) (lb (M % N)))
    refine wpAnyT_done (by kernel_rfl) ?_ _
    go_wp2
    refine bodyPost_ret (v := .tuple #[wdv (sg false (M / N)) (M / N), wdv (sg false (M % N)) (M % N)]) (res_row_row Try.results105 rfl dp rfl dq Try.underlying32 rfl sz32 Try.underlying32 rfl sz32) rfl ⟨rfl, dB⟩
  · go_enter Try.func105, Try.ntmps105
    go_wp2_with fail
    refine (divMag_any _ _ M N hM hN hN0 _ (by exact ((Blk.newAt (by simp [World.setRow]) 147 (cl (lb M))).alloc _)) (by exact (Blk.newAt (by simp [World.setRow]) 147 (cl (lb N))))).mono ?_
    rintro e w1 ⟨rfl, hb⟩
    have na : Blk w1 (w.heap.size) 32 (wcl true (lb M)) := (((((((Blk.newAt rfl 32 (wcl true (lb M))).alloc _).alloc _).alloc _).alloc _).alloc _)).later hb
    have nb : Blk w1 (w.heap.size + 1) 32 (wcl true (lb N)) := ((((((Blk.newAt (by simp [World.setRow]) 32 (wcl true (lb N))).alloc _).alloc _).alloc _).alloc _)).later hb
    have np : Blk w1 (w.heap.size + 1 + 1) 32 (wcl false fun _ => 0) := (((((Blk.newAt (by simp [World.setRow]) 32 (wcl false fun _ => 0)).alloc _).alloc _).alloc _)).later hb
    have nq : Blk w1 (w.heap.size + 1 + 1 + 1) 32 (wcl false fun _ => 0) := ((((Blk.newAt (by simp [World.setRow]) 32 (wcl false fun _ => 0)).alloc _).alloc _)).later hb
    have nx : Blk w1 (w.heap.size + 1 + 1 + 1 + 1) 147 (cl (lb M)) := (((Blk.newAt (by simp [World.setRow]) 147 (cl (lb M))).alloc _)).later hb
    have ny : Blk w1 (w.heap.size + 1 + 1 + 1 + 1 + 1) 147 (cl (lb N)) := ((Blk.newAt (by simp [World.setRow]) 147 (cl (lb N)))).later hb
    have nB : Below w.heap.size w w1 := below_then (below_alloc (below_alloc (below_alloc (below_alloc (below_alloc (below_alloc (Below.refl w.heap.size w) _) _) _) _) _) _) hb
    have yw1_0 := hb.size
    try simp only [World.size_alloc, size_setRow] at yw1_0
    clear hb
    have da := na
    have za_0 := da.lt
    have db := nb
    have zb_0 := db.lt
    have dp := np
    have zp_0 := dp.lt
    have dq := nq
    have zq_0 := dq.lt
    have dx := nx
    have zx_0 := dx.lt
    have dy := ny
    have zy_0 := dy.lt
    have dB := nB
    clear na nb np nq nx ny nB
    obtain ⟨ca0, ca1, ca2, ca3, ca4, ca5, ca6⟩ := da.seven
    obtain ⟨cb0, cb1, cb2, cb3, cb4, cb5, cb6⟩ := db.seven
    unfold szv cl
    go_wp2_with fail
    have na : Blk (((w1.alloc (.cells (cl (lb (M / N))) 147)).alloc (.cells (cl (lb (M % N))) 147)).drewN 1) (w.heap.size) 32 (wcl true (lb M)) := ((da.alloc _).alloc _).drewN 1
    have nb : Blk (((w1.alloc (.cells (cl (lb (M / N))) 147)).alloc (.cells (cl (lb (M % N))) 147)).drewN 1) (w.heap.size + 1) 32 (wcl true (lb N)) := ((db.alloc _).alloc _).drewN 1
    have np : Blk (((w1.alloc (.cells (cl (lb (M / N))) 147)).alloc (.cells (cl (lb (M % N))) 147)).drewN 1) (w.heap.size + 1 + 1) 32 (wcl false fun _ => 0) := ((dp.alloc _).alloc _).drewN 1
    have nq : Blk (((w1.alloc (.cells (cl (lb (M / N))) 147)).alloc (.cells (cl (lb (M % N))) 147)).drewN 1) (w.heap.size + 1 + 1 + 1) 32 (wcl false fun _ => 0) := ((dq.alloc _).alloc _).drewN 1
    have nx : Blk (((w1.alloc (.cells (cl (lb (M / N))) 147)).alloc (.cells (cl (lb (M % N))) 147)).drewN 1) (w.heap.size + 1 + 1 + 1 + 1) 147 (cl (lb M)) := ((dx.alloc _).alloc _).drewN 1
    have ny : Blk (((w1.alloc (.cells (cl (lb (M / N))) 147)).alloc (.cells (cl (lb (M % N))) 147)).drewN 1) (w.heap.size + 1 + 1 + 1 + 1 + 1) 147 (cl (lb N)) := ((dy.alloc _).alloc _).drewN 1
    have nu : Blk (((w1.alloc (.cells (cl (lb (M / N))) 147)).alloc (.cells (cl (lb (M % N))) 147)).drewN 1) (w1.heap.size) 147 (cl (lb (M / N))) := ((Blk.newAt rfl 147 (cl (lb (M / N)))).alloc _).drewN 1
    have nv : Blk (((w1.alloc (.cells (cl (lb (M / N))) 147)).alloc (.cells (cl (lb (M % N))) 147)).drewN 1) (w1.heap.size + 1) 147 (cl (lb (M % N))) := (Blk.newAt (by simp [World.setRow]) 147 (cl (lb (M % N)))).drewN 1
    have nB : Below w.heap.size w (((w1.alloc (.cells (cl (lb (M / N))) 147)).alloc (.cells (cl (lb (M % N))) 147)).drewN 1) := below_drewN (below_alloc (below_alloc dB _) _) 1
    try clear da db dp dq dx dy dB
    have da := na
    have db := nb
    have dp := np
    have dq := nq
    have dx := nx
    have dy := ny
    have du := nu
    have dv := nv
    have dB := nB
    clear na nb np nq nx ny nu nv nB
    refine wp_region_till (fun w' => Blk w' (w.heap.size) 32 (wcl true (lb M)) ∧ Blk w' (w.heap.size + 1) 32 (wcl true (lb N)) ∧ Blk w' (w1.heap.size) 147 (cl (lb (M / N))) ∧ Blk w' (w1.heap.size + 1) 147 (cl (lb (M % N)))) 13 13 #[false, false, false, false, false, false, false, false, false, false, false, false, false] rfl rfl rfl ?_
    refine wpAnyT_take (i := 0) (v := .pointer (some ⟨w.heap.size, 0, none⟩)) #[true, false, false, false, false, false, false, false, false, false, false, false, false] (by kernel_rfl) 34 rfl rfl (by kernel_rfl) (by kernel_rfl) (by kernel_rfl) (by kernel_rfl) (by kernel_rfl) (fun _ _ _ h => h) (.inl ⟨rfl, fun _ _ => by unfold execOp; simp [go_sem]⟩) ⟨da, db, du, dv⟩ ?_
    try simp only [List.setIfInBounds_toArray, List.set_cons_zero, List.set_cons_succ]
    refine wpAnyT_take (i := 1) #[true, true, false, false, false, false, false, false, false, false, false, false, false] (by kernel_rfl) 35 rfl rfl (by kernel_rfl) (by kernel_rfl) (by kernel_rfl) (by kernel_rfl) (by kernel_rfl) (fun _ _ _ h => h) (yields_cell 4 _ rfl rfl _ rfl _ (Try.underlying4) rfl (.bool true) (fun w h => (h.1.cell 0).trans rfl)) ⟨da, db, du, dv⟩ ?_
    try simp only [List.setIfInBounds_toArray, List.set_cons_zero, List.set_cons_succ]
    refine wpAnyT_take (i := 2) (v := .pointer (some ⟨w.heap.size + 1, 0, none⟩)) #[true, true, true, false, false, false, false, false, false, false, false, false, false] (by kernel_rfl) 36 rfl rfl (by kernel_rfl) (by kernel_rfl) (by kernel_rfl) (by kernel_rfl) (by kernel_rfl) (fun _ _ _ h => h) (.inl ⟨rfl, fun _ _ => by unfold execOp; simp [go_sem]⟩) ⟨da, db, du, dv⟩ ?_
    try simp only [List.setIfInBounds_toArray, List.set_cons_zero, List.set_cons_succ]
    refine wpAnyT_take (i := 3) #[true, true, true, true, false, false, false, false, false, false, false, false, false] (by kernel_rfl) 37 rfl rfl (by kernel_rfl) (by kernel_rfl) (by kernel_rfl) (by kernel_rfl) (by kernel_rfl) (fun _ _ _ h => h) (yields_cell 4 _ rfl rfl _ rfl _ (Try.underlying4) rfl (.bool true) (fun w h => (h.2.1.cell 0).trans rfl)) ⟨da, db, du, dv⟩ ?_
    try simp only [List.setIfInBounds_toArray, List.set_cons_zero, List.set_cons_succ]
    refine wpAnyT_take (i := 4) (v := .bool false) #[true, true, true, true, true, false, false, false, false, false, false, false, false] (by kernel_rfl) 38 rfl rfl (by kernel_rfl) (by kernel_rfl) (by kernel_rfl) (by kernel_rfl) (by kernel_rfl) (fun _ _ _ h => h) (.inl ⟨rfl, fun _ _ => by unfold execOp; simp [go_sem]⟩) ⟨da, db, du, dv⟩ ?_
    try simp only [List.setIfInBounds_toArray, List.set_cons_zero, List.set_cons_succ]
    refine wpAnyT_take (i := 5) #[true, true, true, true, true, true, false, false, false, false, false, false, false] (by kernel_rfl) 39 rfl rfl (by kernel_rfl) (by kernel_rfl) (by kernel_rfl) (by kernel_rfl) (by kernel_rfl) (fun _ _ _ h => h) (yields_row 147 _ rfl rfl (w1.heap.size) rfl 147 _ _ (fun w h => h.2.2.1) Try.underlying147 rfl sz147) ⟨da, db, du, dv⟩ ?_
    try simp only [List.setIfInBounds_toArray, List.set_cons_zero, List.set_cons_succ]
    refine wpAnyT_take (i := 7) (v := .pointer (some ⟨w.heap.size + 1, 0, none⟩)) #[true, true, true, true, true, true, false, true, false, false, false, false, false] (by kernel_rfl) 41 rfl rfl (by kernel_rfl) (by kernel_rfl) (by kernel_rfl) (by kernel_rfl) (by kernel_rfl) (fun _ _ _ h => h) (.inl ⟨rfl, fun _ _ => by unfold execOp; simp [go_sem]⟩) ⟨da, db, du, dv⟩ ?_
    try simp only [List.setIfInBounds_toArray, List.set_cons_zero, List.set_cons_succ]
    refine wpAnyT_take (i := 8) #[true, true, true, true, true, true, false, true, true, false, false, false, false] (by kernel_rfl) 42 rfl rfl (by kernel_rfl) (by kernel_rfl) (by kernel_rfl) (by kernel_rfl) (by kernel_rfl) (fun _ _ _ h => h) (yields_cell 4 _ rfl rfl _ rfl _ (Try.underlying4) rfl (.bool true) (fun w h => (h.2.1.cell 0).trans rfl)) ⟨da, db, du, dv⟩ ?_
    try simp only [List.setIfInBounds_toArray, List.set_cons_zero, List.set_cons_succ]
    refine wpAnyT_take (i := 9) #[true, true, true, true, true, true, false, true, true, true, false, false, false] (by kernel_rfl) 43 rfl rfl (by kernel_rfl) (by kernel_rfl) (by kernel_rfl) (by kernel_rfl) (by kernel_rfl) (fun _ _ _ h => h) (yields_row 147 _ rfl rfl (w1.heap.size + 1) rfl 147 _ _ (fun w h => h.2.2.2) Try.underlying147 rfl sz147) ⟨da, db, du, dv⟩ ?_
    try simp only [List.setIfInBounds_toArray, List.set_cons_zero, List.set_cons_succ]
    refine wpAnyT_call (i := 6) #[true, true, true, true, true, true, true, true, true, true, false, false, false] (by kernel_rfl) 40 rfl (by kernel_rfl) rfl rfl 115 #[.bool false, szv (M / N)] (by kernel_rfl) (made_sg false _ hQ _) ?_
    rintro x4 hb
    have na : Blk x4 (w.heap.size) 32 (wcl true (lb M)) := (da).later hb
    have nb : Blk x4 (w.heap.size + 1) 32 (wcl true (lb N)) := (db).later hb
    have np : Blk x4 (w.heap.size + 1 + 1) 32 (wcl false fun _ => 0) := (dp).later hb
    have nq : Blk x4 (w.heap.size + 1 + 1 + 1) 32 (wcl false fun _ => 0) := (dq).later hb
    have nx : Blk x4 (w.heap.size + 1 + 1 + 1 + 1) 147 (cl (lb M)) := (dx).later hb
    have ny : Blk x4 (w.heap.size + 1 + 1 + 1 + 1 + 1) 147 (cl (lb N)) := (dy).later hb
    have nu : Blk x4 (w1.heap.size) 147 (cl (lb (M / N))) := (du).later hb
    have nv : Blk x4 (w1.heap.size + 1) 147 (cl (lb (M % N))) := (dv).later hb
    have nB : Below w.heap.size w x4 := below_then dB hb
    have yx4_4 := hb.size
    try simp only [World.size_alloc, size_setRow] at yx4_4
    clear hb da db dp dq dx dy du dv dB
    have da := na
    have za_4 := da.lt
    have db := nb
    have zb_4 := db.lt
    have dp := np
    have zp_4 := dp.lt
    have dq := nq
    have zq_4 := dq.lt
    have dx := nx
    have zx_4 := dx.lt
    have dy := ny
    have zy_4 := dy.lt
    have du := nu
    have zu_4 := du.lt
    have dv := nv
    have zv_4 := dv.lt
    have dB := nB
    clear na nb np nq nx ny nu nv nB
    refine ⟨fun _ => ⟨da, db, du, dv⟩, ?_⟩
    try simp only [List.setIfInBounds_toArray, List.set_cons_zero, List.set_cons_succ]
    refine wpAnyT_call (i := 10) #[true, true, true, true, true, true, true, true, true, true, true, false, false] (by kernel_rfl) 44 rfl (by kernel_rfl) rfl rfl 115 #[.bool true, szv (M % N)] (by kernel_rfl) (made_sg true _ hR _) ?_
    rintro x6 hb
    have na : Blk x6 (w.heap.size) 32 (wcl true (lb M)) := (da).later hb
    have nb : Blk x6 (w.heap.size + 1) 32 (wcl true (lb N)) := (db).later hb
    have np : Blk x6 (w.heap.size + 1 + 1) 32 (wcl false fun _ => 0) := (dp).later hb
    have nq : Blk x6 (w.heap.size + 1 + 1 + 1) 32 (wcl false fun _ => 0) := (dq).later hb
    have nx : Blk x6 (w.heap.size + 1 + 1 + 1 + 1) 147 (cl (lb M)) := (dx).later hb
    have ny : Blk x6 (w.heap.size + 1 + 1 + 1 + 1 + 1) 147 (cl (lb N)) := (dy).later hb
    have nu : Blk x6 (w1.heap.size) 147 (cl (lb (M / N))) := (du).later hb
    have nv : Blk x6 (w1.heap.size + 1) 147 (cl (lb (M % N))) := (dv).later hb
    have nB : Below w.heap.size w x6 := below_then dB hb
    have yx6_6 := hb.size
    try simp only [World.size_alloc, size_setRow] at yx6_6
    clear hb da db dp dq dx dy du dv dB
    have da := na
    have za_6 := da.lt
    have db := nb
    have zb_6 := db.lt
    have dp := np
    have zp_6 := dp.lt
    have dq := nq
    have zq_6 := dq.lt
    have dx := nx
    have zx_6 := dx.lt
    have dy := ny
    have zy_6 := dy.lt
    have du := nu
    have zu_6 := du.lt
    have dv := nv
    have zv_6 := dv.lt
    have dB := nB
    clear na nb np nq nx ny nu nv nB
    refine ⟨fun _ => ⟨da, db, du, dv⟩, ?_⟩
    try simp only [List.setIfInBounds_toArray, List.set_cons_zero, List.set_cons_succ]
    refine wpAnyT_store (i := 11) #[true, true, true, true, true, true, true, true, true, true, true, true, false] (by kernel_rfl) rfl (by kernel_rfl) rfl rfl 32 _ _ rfl (w.heap.size + 1 + 1) (wcl (sg false (M / N)) (lb (M / N))) rfl rfl 32 _ dp sz32 rfl (wcl_all _ _) ⟨fun _ => ⟨da.row_far (by omega) _, db.row_far (by omega) _, du.row_far (by omega) _, dv.row_far (by omega) _⟩, ?_⟩
    replace da := da.row_far (k := w.heap.size + 1 + 1) (by omega) (wcl (sg false (M / N)) (lb (M / N)))
    replace db := db.row_far (k := w.heap.size + 1 + 1) (by omega) (wcl (sg false (M / N)) (lb (M / N)))
    replace dp := dp.row (wcl (sg false (M / N)) (lb (M / N)))
    replace dq := dq.row_far (k := w.heap.size + 1 + 1) (by omega) (wcl (sg false (M / N)) (lb (M / N)))
    replace dx := dx.row_far (k := w.heap.size + 1 + 1) (by omega) (wcl (sg false (M / N)) (lb (M / N)))
    replace dy := dy.row_far (k := w.heap.size + 1 + 1) (by omega) (wcl (sg false (M / N)) (lb (M / N)))
    replace du := du.row_far (k := w.heap.size + 1 + 1) (by omega) (wcl (sg false (M / N)) (lb (M / N)))
    replace dv := dv.row_far (k := w.heap.size + 1 + 1) (by omega) (wcl (sg false (M / N)) (lb (M / N)))
    replace dB := below_row (g := w.heap.size + 1 + 1) dB (by omega) (wcl (sg false (M / N)) (lb (M / N)))
    refine wpAnyT_store (i := 12) #[true, true, true, true, true, true, true, true, true, true, true, true, true] (by kernel_rfl) rfl (by kernel_rfl) rfl rfl 32 _ _ rfl (w.heap.size + 1 + 1 + 1) (wcl (sg true (M % N)) (lb (M % N))) rfl rfl 32 _ dq sz32 rfl (wcl_all _ _) ⟨fun _ => ⟨da.row_far (by omega) _, db.row_far (by omega) _, du.row_far (by omega) _, dv.row_far (by omega) _⟩, ?_⟩
    replace da := da.row_far (k := w.heap.size + 1 + 1 + 1) (by omega) (wcl (sg true (M % N)) (lb (M % N)))
    replace db := db.row_far (k := w.heap.size + 1 + 1 + 1) (by omega) (wcl (sg true (M % N)) (lb (M % N)))
    replace dp := dp.row_far (k := w.heap.size + 1 + 1 + 1) (by omega) (wcl (sg true (M % N)) (lb (M % N)))
    replace dq := dq.row (wcl (sg true (M % N)) (lb (M % N)))
    replace dx := dx.row_far (k := w.heap.size + 1 + 1 + 1) (by omega) (wcl (sg true (M % N)) (lb (M % N)))
    replace dy := dy.row_far (k := w.heap.size + 1 + 1 + 1) (by omega) (wcl (sg true (M % N)) (lb (M % N)))
    replace du := du.row_far (k := w.heap.size + 1 + 1 + 1) (by omega) (wcl (sg true (M % N)) (lb (M % N)))
    replace dv := dv.row_far (k := w.heap.size + 1 + 1 + 1) (by omega) (wcl (sg true (M % N)) (lb (M % N)))
    replace dB := below_row (g := w.heap.size + 1 + 1 + 1) dB (by omega) (wcl (sg true (M % N)) (lb (M % N)))
    refine wpAnyT_done (by kernel_rfl) ?_ _
    go_wp2
    refine bodyPost_ret (v := .tuple #[wdv (sg false (M / N)) (M / N), wdv (sg true (M % N)) (M % N)]) (res_row_row Try.results105 rfl dp rfl dq Try.underlying32 rfl sz32 Try.underlying32 rfl sz32) rfl ⟨rfl, dB⟩

set_option maxHeartbeats 4000000 in
theorem refDiv_zero (n : Bool) (M N : Nat) (hM : M < pw 6) (hN : N < pw 6) (hN0 : 0 < N) (h0 : M % N = 0) (w : World) :
    Calls Try.prog 105 #[wdv n M, wdv (!n) N] w fun e w' => e = .returned (.tuple #[wdv (sg true (M / N)) (M / N), wdv (sg (!n) (M % N)) (M % N)]) ∧ Below w.heap.size w w' := by
  have hQ : M / N < pw 6 := Nat.lt_of_le_of_lt (Nat.div_le_self _ _) hM
  have hR : M % N < pw 6 := Nat.lt_of_le_of_lt (Nat.mod_le _ _) hM
  have H0 := Lib.hid h0
  clear h0
  unfold wdv wcl
  cases n
  · go_enter Try.func105, Try.ntmps105
    go_wp2_with fail
    refine (divMag_any _ _ M N hM hN hN0 _ (by exact ((Blk.newAt (by simp [World.setRow]) 147 (cl (lb M))).alloc _)) (by exact (Blk.newAt (by simp [World.setRow]) 147 (cl (lb N))))).mono ?_
    rintro e w1 ⟨rfl, hb⟩
    have na : Blk w1 (w.heap.size) 32 (wcl false (lb M)) := (((((((Blk.newAt rfl 32 (wcl false (lb M))).alloc _).alloc _).alloc _).alloc _).alloc _)).later hb
    have nb : Blk w1 (w.heap.size + 1) 32 (wcl true (lb N)) := ((((((Blk.newAt (by simp [World.setRow]) 32 (wcl true (lb N))).alloc _).alloc _).alloc _).alloc _)).later hb
    have np : Blk w1 (w.heap.size + 1 + 1) 32 (wcl false fun _ => 0) := (((((Blk.newAt (by simp [World.setRow]) 32 (wcl false fun _ => 0)).alloc _).alloc _).alloc _)).later hb
    have nq : Blk w1 (w.heap.size + 1 + 1 + 1) 32 (wcl false fun _ => 0) := ((((Blk.newAt (by simp [World.setRow]) 32 (wcl false fun _ => 0)).alloc _).alloc _)).later hb
    have nx : Blk w1 (w.heap.size + 1 + 1 + 1 + 1) 147 (cl (lb M)) := (((Blk.newAt (by simp [World.setRow]) 147 (cl (lb M))).alloc _)).later hb
    have ny : Blk w1 (w.heap.size + 1 + 1 + 1 + 1 + 1) 147 (cl (lb N)) := ((Blk.newAt (by simp [World.setRow]) 147 (cl (lb N)))).later hb
    have nB : Below w.heap.size w w1 := below_then (below_alloc (below_alloc (below_alloc (below_alloc (below_alloc (below_alloc (Below.refl w.heap.size w) _) _) _) _) _) _) hb
    have yw1_0 := hb.size
    try simp only [World.size_alloc, size_setRow] at yw1_0
    clear hb
    have da := na
    have za_0 := da.lt
    have db := nb
    have zb_0 := db.lt
    have dp := np
    have zp_0 := dp.lt
    have dq := nq
    have zq_0 := dq.lt
    have dx := nx
    have zx_0 := dx.lt
    have dy := ny
    have zy_0 := dy.lt
    have dB := nB
    clear na nb np nq nx ny nB
    obtain ⟨ca0, ca1, ca2, ca3, ca4, ca5, ca6⟩ := da.seven
    obtain ⟨cb0, cb1, cb2, cb3, cb4, cb5, cb6⟩ := db.seven
    unfold szv cl
    go_wp2_with fail
    refine (zero_yes (w1.heap.size + 1) (M % N) hR H0.out _ (by exact (Blk.newAt (by simp [World.setRow]) 147 (cl (lb (M % N)))))).mono ?_
    rintro e w2 ⟨rfl, rfl⟩
    go_wp2_with fail
    have na : Blk (((w1.alloc (.cells (cl (lb (M / N))) 147)).alloc (.cells (cl (lb (M % N))) 147)).drewN 1) (w.heap.size) 32 (wcl false (lb M)) := ((da.alloc _).alloc _).drewN 1
    have nb : Blk (((w1.alloc (.cells (cl (lb (M / N))) 147)).alloc (.cells (cl (lb (M % N))) 147)).drewN 1) (w.heap.size + 1) 32 (wcl true (lb N)) := ((db.alloc _).alloc _).drewN 1
    have np : Blk (((w1.alloc (.cells (cl (lb (M / N))) 147)).alloc (.cells (cl (lb (M % N))) 147)).drewN 1) (w.heap.size + 1 + 1) 32 (wcl false fun _ => 0) := ((dp.alloc _).alloc _).drewN 1
    have nq : Blk (((w1.alloc (.cells (cl (lb (M / N))) 147)).alloc (.cells (cl (lb (M % N))) 147)).drewN 1) (w.heap.size + 1 + 1 + 1) 32 (wcl false fun _ => 0) := ((dq.alloc _).alloc _).drewN 1
    have nx : Blk (((w1.alloc (.cells (cl (lb (M / N))) 147)).alloc (.cells (cl (lb (M % N))) 147)).drewN 1) (w.heap.size + 1 + 1 + 1 + 1) 147 (cl (lb M)) := ((dx.alloc _).alloc _).drewN 1
    have ny : Blk (((w1.alloc (.cells (cl (lb (M / N))) 147)).alloc (.cells (cl (lb (M % N))) 147)).drewN 1) (w.heap.size + 1 + 1 + 1 + 1 + 1) 147 (cl (lb N)) := ((dy.alloc _).alloc _).drewN 1
    have nu : Blk (((w1.alloc (.cells (cl (lb (M / N))) 147)).alloc (.cells (cl (lb (M % N))) 147)).drewN 1) (w1.heap.size) 147 (cl (lb (M / N))) := ((Blk.newAt rfl 147 (cl (lb (M / N)))).alloc _).drewN 1
    have nv : Blk (((w1.alloc (.cells (cl (lb (M / N))) 147)).alloc (.cells (cl (lb (M % N))) 147)).drewN 1) (w1.heap.size + 1) 147 (cl (lb (M % N))) := (Blk.newAt (by simp [World.setRow]) 147 (cl (lb (M % N)))).drewN 1
    have nB : Below w.heap.size w (((w1.alloc (.cells (cl (lb (M / N))) 147)).alloc (.cells (cl (lb (M % N))) 147)).drewN 1) := below_drewN (below_alloc (below_alloc dB _) _) 1
    try clear da db dp dq dx dy dB
    have da := na
    have db := nb
    have dp := np
    have dq := nq
    have dx := nx
    have dy := ny
    have du := nu
    have dv := nv
    have dB := nB
    clear na nb np nq nx ny nu nv nB
    refine wp_region_till (fun w' => Blk w' (w.heap.size) 32 (wcl false (lb M)) ∧ Blk w' (w.heap.size + 1) 32 (wcl true (lb N)) ∧ Blk w' (w1.heap.size) 147 (cl (lb (M / N))) ∧ Blk w' (w1.heap.size + 1) 147 (cl (lb (M % N)))) 13 13 #[false, false, false, false, false, false, false, false, false, false, false, false, false] rfl rfl rfl ?_
    refine wpAnyT_take (i := 0) (v := .pointer (some ⟨w.heap.size, 0, none⟩)) #[true, false, false, false, false, false, false, false, false, false, false, false, false] (by kernel_rfl) 34 rfl rfl (by kernel_rfl) (by kernel_rfl) (by kernel_rfl) (by kernel_rfl) (by kernel_rfl) (fun _ _ _ h => h) (.inl ⟨rfl, fun _ _ => by unfold execOp; simp [go_sem]⟩) ⟨da, db, du, dv⟩ ?_
    try simp only [List.setIfInBounds_toArray, List.set_cons_zero, List.set_cons_succ]
    refine wpAnyT_take (i := 1) #[true, true, false, false, false, false, false, false, false, false, false, false, false] (by kernel_rfl) 35 rfl rfl (by kernel_rfl) (by kernel_rfl) (by kernel_rfl) (by kernel_rfl) (by kernel_rfl) (fun _ _ _ h => h) (yields_cell 4 _ rfl rfl _ rfl _ (Try.underlying4) rfl (.bool false) (fun w h => (h.1.cell 0).trans rfl)) ⟨da, db, du, dv⟩ ?_
    try simp only [List.setIfInBounds_toArray, List.set_cons_zero, List.set_cons_succ]
    refine wpAnyT_take (i := 2) (v := .pointer (some ⟨w.heap.size + 1, 0, none⟩)) #[true, true, true, false, false, false, false, false, false, false, false, false, false] (by kernel_rfl) 36 rfl rfl (by kernel_rfl) (by kernel_rfl) (by kernel_rfl) (by kernel_rfl) (by kernel_rfl) (fun _ _ _ h => h) (.inl ⟨rfl, fun _ _ => by unfold execOp; simp [go_sem]⟩) ⟨da, db, du, dv⟩ ?_
    try simp only [List.setIfInBounds_toArray, List.set_cons_zero, List.set_cons_succ]
    refine wpAnyT_take (i := 3) #[true, true, true, true, false, false, false, false, false, false, false, false, false] (by kernel_rfl) 37 rfl rfl (by kernel_rfl) (by kernel_rfl) (by kernel_rfl) (by kernel_rfl) (by kernel_rfl) (fun _ _ _ h => h) (yields_cell 4 _ rfl rfl _ rfl _ (Try.underlying4) rfl (.bool true) (fun w h => (h.2.1.cell 0).trans rfl)) ⟨da, db, du, dv⟩ ?_
    try simp only [List.setIfInBounds_toArray, List.set_cons_zero, List.set_cons_succ]
    refine wpAnyT_take (i := 4) (v := .bool true) #[true, true, true, true, true, false, false, false, false, false, false, false, false] (by kernel_rfl) 38 rfl rfl (by kernel_rfl) (by kernel_rfl) (by kernel_rfl) (by kernel_rfl) (by kernel_rfl) (fun _ _ _ h => h) (.inl ⟨rfl, fun _ _ => by unfold execOp; simp [go_sem]⟩) ⟨da, db, du, dv⟩ ?_
    try simp only [List.setIfInBounds_toArray, List.set_cons_zero, List.set_cons_succ]
    refine wpAnyT_take (i := 5) #[true, true, true, true, true, true, false, false, false, false, false, false, false] (by kernel_rfl) 39 rfl rfl (by kernel_rfl) (by kernel_rfl) (by kernel_rfl) (by kernel_rfl) (by kernel_rfl) (fun _ _ _ h => h) (yields_row 147 _ rfl rfl (w1.heap.size) rfl 147 _ _ (fun w h => h.2.2.1) Try.underlying147 rfl sz147) ⟨da, db, du, dv⟩ ?_
    try simp only [List.setIfInBounds_toArray, List.set_cons_zero, List.set_cons_succ]
    refine wpAnyT_take (i := 7) (v := .pointer (some ⟨w.heap.size + 1, 0, none⟩)) #[true, true, true, true, true, true, false, true, false, false, false, false, false] (by kernel_rfl) 41 rfl rfl (by kernel_rfl) (by kernel_rfl) (by kernel_rfl) (by kernel_rfl) (by kernel_rfl) (fun _ _ _ h => h) (.inl ⟨rfl, fun _ _ => by unfold execOp; simp [go_sem]⟩) ⟨da, db, du, dv⟩ ?_
    try simp only [List.setIfInBounds_toArray, List.set_cons_zero, List.set_cons_succ]
    refine wpAnyT_take (i := 8) #[true, true, true, true, true, true, false, true, true, false, false, false, false] (by kernel_rfl) 42 rfl rfl (by kernel_rfl) (by kernel_rfl) (by kernel_rfl) (by kernel_rfl) (by kernel_rfl) (fun _ _ _ h => h) (yields_cell 4 _ rfl rfl _ rfl _ (Try.underlying4) rfl (.bool true) (fun w h => (h.2.1.cell 0).trans rfl)) ⟨da, db, du, dv⟩ ?_
    try simp only [List.setIfInBounds_toArray, List.set_cons_zero, List.set_cons_succ]
    refine wpAnyT_take (i := 9) #[true, true, true, true, true, true, false, true, true, true, false, false, false] (by kernel_rfl) 43 rfl rfl (by kernel_rfl) (by kernel_rfl) (by kernel_rfl) (by kernel_rfl) (by kernel_rfl) (fun _ _ _ h => h) (yields_row 147 _ rfl rfl (w1.heap.size + 1) rfl 147 _ _ (fun w h => h.2.2.2) Try.underlying147 rfl sz147) ⟨da, db, du, dv⟩ ?_
    try simp only [List.setIfInBounds_toArray, List.set_cons_zero, List.set_cons_succ]
    refine wpAnyT_call (i := 6) #[true, true, true, true, true, true, true, true, true, true, false, false, false] (by kernel_rfl) 40 rfl (by kernel_rfl) rfl rfl 115 #[.bool true, szv (M / N)] (by kernel_rfl) (made_sg true _ hQ _) ?_
    rintro x4 hb
    have na : Blk x4 (w.heap.size) 32 (wcl false (lb M)) := (da).later hb
    have nb : Blk x4 (w.heap.size + 1) 32 (wcl true (lb N)) := (db).later hb
    have np : Blk x4 (w.heap.size + 1 + 1) 32 (wcl false fun _ => 0) := (dp).later hb
    have nq : Blk x4 (w.heap.size + 1 + 1 + 1) 32 (wcl false fun _ => 0) := (dq).later hb
    have nx : Blk x4 (w.heap.size + 1 + 1 + 1 + 1) 147 (cl (lb M)) := (dx).later hb
    have ny : Blk x4 (w.heap.size + 1 + 1 + 1 + 1 + 1) 147 (cl (lb N)) := (dy).later hb
    have nu : Blk x4 (w1.heap.size) 147 (cl (lb (M / N))) := (du).later hb
    have nv : Blk x4 (w1.heap.size + 1) 147 (cl (lb (M % N))) := (dv).later hb
    have nB : Below w.heap.size w x4 := below_then dB hb
    have yx4_4 := hb.size
    try simp only [World.size_alloc, size_setRow] at yx4_4
    clear hb da db dp dq dx dy du dv dB
    have da := na
    have za_4 := da.lt
    have db := nb
    have zb_4 := db.lt
    have dp := np
    have zp_4 := dp.lt
    have dq := nq
    have zq_4 := dq.lt
    have dx := nx
    have zx_4 := dx.lt
    have dy := ny
    have zy_4 := dy.lt
    have du := nu
    have zu_4 := du.lt
    have dv := nv
    have zv_4 := dv.lt
    have dB := nB
    clear na nb np nq nx ny nu nv nB
    refine ⟨fun _ => ⟨da, db, du, dv⟩, ?_⟩
    try simp only [List.setIfInBounds_toArray, List.set_cons_zero, List.set_cons_succ]
    refine wpAnyT_call (i := 10) #[true, true, true, true, true, true, true, true, true, true, true, false, false] (by kernel_rfl) 44 rfl (by kernel_rfl) rfl rfl 115 #[.bool true, szv (M % N)] (by kernel_rfl) (made_sg true _ hR _) ?_
    rintro x6 hb
    have na : Blk x6 (w.heap.size) 32 (wcl false (lb M)) := (da).later hb
    have nb : Blk x6 (w.heap.size + 1) 32 (wcl true (lb N)) := (db).later hb
    have np : Blk x6 (w.heap.size + 1 + 1) 32 (wcl false fun _ => 0) := (dp).later hb
    have nq : Blk x6 (w.heap.size + 1 + 1 + 1) 32 (wcl false fun _ => 0) := (dq).later hb
    have nx : Blk x6 (w.heap.size + 1 + 1 + 1 + 1) 147 (cl (lb M)) := (dx).later hb
    have ny : Blk x6 (w.heap.size + 1 + 1 + 1 + 1 + 1) 147 (cl (lb N)) := (dy).later hb
    have nu : Blk x6 (w1.heap.size) 147 (cl (lb (M / N))) := (du).later hb
    have nv : Blk x6 (w1.heap.size + 1) 147 (cl (lb (M % N))) := (dv).later hb
    have nB : Below w.heap.size w x6 := below_then dB hb
    have yx6_6 := hb.size
    try simp only [World.size_alloc, size_setRow] at yx6_6
    clear hb da db dp dq dx dy du dv dB
    have da := na
    have za_6 := da.lt
    have db := nb
    have zb_6 := db.lt
    have dp := np
    have zp_6 := dp.lt
    have dq := nq
    have zq_6 := dq.lt
    have dx := nx
    have zx_6 := dx.lt
    have dy := ny
    have zy_6 := dy.lt
    have du := nu
    have zu_6 := du.lt
    have dv := nv
    have zv_6 := dv.lt
    have dB := nB
    clear na nb np nq nx ny nu nv nB
    refine ⟨fun _ => ⟨da, db, du, dv⟩, ?_⟩
    try simp only [List.setIfInBounds_toArray, List.set_cons_zero, List.set_cons_succ]
    refine wpAnyT_store (i := 11) #[true, true, true, true, true, true, true, true, true, true, true, true, false] (by kernel_rfl) rfl (by kernel_rfl) rfl rfl 32 _ _ rfl (w.heap.size + 1 + 1) (wcl (sg true (M / N)) (lb (M / N))) rfl rfl 32 _ dp sz32 rfl (wcl_all _ _) ⟨fun _ => ⟨da.row_far (by omega) _, db.row_far (by omega) _, du.row_far (by omega) _, dv.row_far (by omega) _⟩, ?_⟩
    replace da := da.row_far (k := w.heap.size + 1 + 1) (by omega) (wcl (sg true (M / N)) (lb (M / N)))
    replace db := db.row_far (k := w.heap.size + 1 + 1) (by omega) (wcl (sg true (M / N)) (lb (M / N)))
    replace dp := dp.row (wcl (sg true (M / N)) (lb (M / N)))
    replace dq := dq.row_far (k := w.heap.size + 1 + 1) (by omega) (wcl (sg true (M / N)) (lb (M / N)))
    replace dx := dx.row_far (k := w.heap.size + 1 + 1) (by omega) (wcl (sg true (M / N)) (lb (M / N)))
    replace dy := dy.row_far (k := w.heap.size + 1 + 1) (by omega) (wcl (sg true (M / N)) (lb (M / N)))
    replace du := du.row_far (k := w.heap.size + 1 + 1) (by omega) (wcl (sg true (M / N)) (lb (M / N)))
    replace dv := dv.row_far (k := w.heap.size + 1 + 1) (by omega) (wcl (sg true (M / N)) (lb (M / N)))
    replace dB := below_row (g := w.heap.size + 1 + 1) dB (by omega) (wcl (sg true (M / N)) (lb (M / N)))
    refine wpAnyT_store (i := 12) #[true, true, true, true, true, true, true, true, true, true, true, true, true] (by kernel_rfl) rfl (by kernel_rfl) rfl rfl 32 _ _ rfl (w.heap.size + 1 + 1 + 1) (wcl (sg true (M % N)) (lb (M % N))) rfl rfl 32 _ dq sz32 rfl (wcl_all _ _) ⟨fun _ => ⟨da.row_far (by omega) _, db.row_far (by omega) _, du.row_far (by omega) _, dv.row_far (by omega) _⟩, ?_⟩
    replace da := da.row_far (k := w.heap.size + 1 + 1 + 1) (by omega) (wcl (sg true (M % N)) (lb (M % N)))
    replace db := db.row_far (k := w.heap.size + 1 + 1 + 1) (by omega) (wcl (sg true (M % N)) (lb (M % N)))
    replace dp := dp.row_far (k := w.heap.size + 1 + 1 + 1) (by omega) (wcl (sg true (M % N)) (lb (M % N)))
    replace dq := dq.row (wcl (sg true (M % N)) (lb (M % N)))
    replace dx := dx.row_far (k := w.heap.size + 1 + 1 + 1) (by omega) (wcl (sg true (M % N)) (lb (M % N)))
    replace dy := dy.row_far (k := w.heap.size + 1 + 1 + 1) (by omega) (wcl (sg true (M % N)) (lb (M % N)))
    replace du := du.row_far (k := w.heap.size + 1 + 1 + 1) (by omega) (wcl (sg true (M % N)) (lb (M % N)))
    replace dv := dv.row_far (k := w.heap.size + 1 + 1 + 1) (by omega) (wcl (sg true (M % N)) (lb (M % N)))
    replace dB := below_row (g := w.heap.size + 1 + 1 + 1) dB (by omega) (wcl (sg true (M % N)) (lb (M % N)))
    refine wpAnyT_done (by kernel_rfl) ?_ _
    go_wp2
    refine bodyPost_ret (v := .tuple #[wdv (sg true (M / N)) (M / N), wdv (sg true (M % N)) (M % N)]) (res_row_row Try.results105 rfl dp rfl dq Try.underlying32 rfl sz32 Try.underlying32 rfl sz32) rfl ⟨rfl, dB⟩
  · go_enter Try.func105, Try.ntmps105
    go_wp2_with fail
    refine (divMag_any _ _ M N hM hN hN0 _ (by exact ((Blk.newAt (by simp [World.setRow]) 147 (cl (lb M))).alloc _)) (by exact (Blk.newAt (by simp [World.setRow]) 147 (cl (lb N))))).mono ?_
    rintro e w1 ⟨rfl, hb⟩
    have na : Blk w1 (w.heap.size) 32 (wcl true (lb M)) := (((((((Blk.newAt rfl 32 (wcl true (lb M))).alloc _).alloc _).alloc _).alloc _).alloc _)).later hb
    have nb : Blk w1 (w.heap.size + 1) 32 (wcl false (lb N)) := ((((((Blk.newAt (by simp [World.setRow]) 32 (wcl false (lb N))).alloc _).alloc _).alloc _).alloc _)).later hb
    have np : Blk w1 (w.heap.size + 1 + 1) 32 (wcl false fun _ => 0) := (((((Blk.newAt (by simp [World.setRow]) 32 (wcl false fun _ => 0)).alloc _).alloc _).alloc _)).later hb
    have nq : Blk w1 (w.heap.size + 1 + 1 + 1) 32 (wcl false fun _ => 0) := ((((Blk.newAt (by simp [World.setRow]) 32 (wcl false fun _ => 0)).alloc _).alloc _)).later hb
    have nx : Blk w1 (w.heap.size + 1 + 1 + 1 + 1) 147 (cl (lb M)) := (((Blk.newAt (by simp [World.setRow]) 147 (cl (lb M))).alloc _)).later hb
    have ny : Blk w1 (w.heap.size + 1 + 1 + 1 + 1 + 1) 147 (cl (lb N)) := ((Blk.newAt (by simp [World.setRow]) 147 (cl (lb N)))).later hb
    have nB : Below w.heap.size w w1 := below_then (below_alloc (below_alloc (below_alloc (below_alloc (below_alloc (below_alloc (Below.refl w.heap.size w) _) _) _) _) _) _) hb
    have yw1_0 := hb.size
    try simp only [World.size_alloc, size_setRow] at yw1_0
    clear hb
    have da := na
    have za_0 := da.lt
    have db := nb
    have zb_0 := db.lt
    have dp := np
    have zp_0 := dp.lt
    have dq := nq
    have zq_0 := dq.lt
    have dx := nx
    have zx_0 := dx.lt
    have dy := ny
    have zy_0 := dy.lt
    have dB := nB
    clear na nb np nq nx ny nB
    obtain ⟨ca0, ca1, ca2, ca3, ca4, ca5, ca6⟩ := da.seven
    obtain ⟨cb0, cb1, cb2, cb3, cb4, cb5, cb6⟩ := db.seven
    unfold szv cl
    go_wp2_with fail
    refine (zero_yes (w1.heap.size + 1) (M % N) hR H0.out _ (by exact (Blk.newAt (by simp [World.setRow]) 147 (cl (lb (M % N)))))).mono ?_
    rintro e w2 ⟨rfl, rfl⟩
    go_wp2_with fail
    have na : Blk (((w1.alloc (.cells (cl (lb (M / N))) 147)).alloc (.cells (cl (lb (M % N))) 147)).drewN 1) (w.heap.size) 32 (wcl true (lb M)) := ((da.alloc _).alloc _).drewN 1
    have nb : Blk (((w1.alloc (.cells (cl (lb (M / N))) 147)).alloc (.cells (cl (lb (M % N))) 147)).drewN 1) (w.heap.size + 1) 32 (wcl false (lb N)) := ((db.alloc _).alloc _).drewN 1
    have np : Blk (((w1.alloc (.cells (cl (lb (M / N))) 147)).alloc (.cells (cl (lb (M % N))) 147)).drewN 1) (w.heap.size + 1 + 1) 32 (wcl false fun _ => 0) := ((dp.alloc _).alloc _).drewN 1
    have nq : Blk (((w1.alloc (.cells (cl (lb (M / N))) 147)).alloc (.cells (cl (lb (M % N))) 147)).drewN 1) (w.heap.size + 1 + 1 + 1) 32 (wcl false fun _ => 0) := ((dq.alloc _).alloc _).drewN 1
    have nx : Blk (((w1.alloc (.cells (cl (lb (M / N))) 147)).alloc (.cells (cl (lb (M % N))) 147)).drewN 1) (w.heap.size + 1 + 1 + 1 + 1) 147 (cl (lb M)) := ((dx.alloc _).alloc _).drewN 1
    have ny : Blk (((w1.alloc (.cells (cl (lb (M / N))) 147)).alloc (.cells (cl (lb (M % N))) 147)).drewN 1) (w.heap.size + 1 + 1 + 1 + 1 + 1) 147 (cl (lb N)) := ((dy.alloc _).alloc _).drewN 1
    have nu : Blk (((w1.alloc (.cells (cl (lb (M / N))) 147)).alloc (.cells (cl (lb (M % N))) 147)).drewN 1) (w1.heap.size) 147 (cl (lb (M / N))) := ((Blk.newAt rfl 147 (cl (lb (M / N)))).alloc _).drewN 1
    have nv : Blk (((w1.alloc (.cells (cl (lb (M / N))) 147)).alloc (.cells (cl (lb (M % N))) 147)).drewN 1) (w1.heap.size + 1) 147 (cl (lb (M % N))) := (Blk.newAt (by simp [World.setRow]) 147 (cl (lb (M % N)))).drewN 1
    have nB : Below w.heap.size w (((w1.alloc (.cells (cl (lb (M / N))) 147)).alloc (.cells (cl (lb (M % N))) 147)).drewN 1) := below_drewN (below_alloc (below_alloc dB _) _) 1
    try clear da db dp dq dx dy dB
    have da := na
    have db := nb
    have dp := np
    have dq := nq
    have dx := nx
    have dy := ny
    have du := nu
    have dv := nv
    have dB := nB
    clear na nb np nq nx ny nu nv nB
    refine wp_region_till (fun w' => Blk w' (w.heap.size) 32 (wcl true (lb M)) ∧ Blk w' (w.heap.size + 1) 32 (wcl false (lb N)) ∧ Blk w' (w1.heap.size) 147 (cl (lb (M / N))) ∧ Blk w' (w1.heap.size + 1) 147 (cl (lb (M % N)))) 13 13 #[false, false, false, false, false, false, false, false, false, false, false, false, false] rfl rfl rfl ?_
    refine wpAnyT_take (i := 0) (v := .pointer (some ⟨w.heap.size, 0, none⟩)) #[true, false, false, false, false, false, false, false, false, false, false, false, false] (by kernel_rfl) 34 rfl rfl (by kernel_rfl) (by kernel_rfl) (by kernel_rfl) (by kernel_rfl) (by kernel_rfl) (fun _ _ _ h => h) (.inl ⟨rfl, fun _ _ => by unfold execOp; simp [go_sem]⟩) ⟨da, db, du, dv⟩ ?_
    try simp only [List.setIfInBounds_toArray, List.set_cons_zero, List.set_cons_succ]
    refine wpAnyT_take (i := 1) #[true, true, false, false, false, false, false, false, false, false, false, false, false] (by kernel_rfl) 35 rfl rfl (by kernel_rfl) (by kernel_rfl) (by kernel_rfl) (by kernel_rfl) (by kernel_rfl) (fun _ _ _ h => h) (yields_cell 4 _ rfl rfl _ rfl _ (Try.underlying4) rfl (.bool true) (fun w h => (h.1.cell 0).trans rfl)) ⟨da, db, du, dv⟩ ?_
    try simp only [List.setIfInBounds_toArray, List.set_cons_zero, List.set_cons_succ]
    refine wpAnyT_take (i := 2) (v := .pointer (some ⟨w.heap.size + 1, 0, none⟩)) #[true, true, true, false, false, false, false, false, false, false, false, false, false] (by kernel_rfl) 36 rfl rfl (by kernel_rfl) (by kernel_rfl) (by kernel_rfl) (by kernel_rfl) (by kernel_rfl) (fun _ _ _ h => h) (.inl ⟨rfl, fun _ _ => by unfold execOp; simp [go_sem]⟩) ⟨da, db, du, dv⟩ ?_
    try simp only [List.setIfInBounds_toArray, List.set_cons_zero, List.set_cons_succ]
    refine wpAnyT_take (i := 3) #[true, true, true, true, false, false, false, false, false, false, false, false, false] (by kernel_rfl) 37 rfl rfl (by kernel_rfl) (by kernel_rfl) (by kernel_rfl) (by kernel_rfl) (by kernel_rfl) (fun _ _ _ h => h) (yields_cell 4 _ rfl rfl _ rfl _ (Try.underlying4) rfl (.bool false) (fun w h => (h.2.1.cell 0).trans rfl)) ⟨da, db, du, dv⟩ ?_
    try simp only [List.setIfInBounds_toArray, List.set_cons_zero, List.set_cons_succ]
    refine wpAnyT_take (i := 4) (v := .bool true) #[true, true, true, true, true, false, false, false, false, false, false, false, false] (by kernel_rfl) 38 rfl rfl (by kernel_rfl) (by kernel_rfl) (by kernel_rfl) (by kernel_rfl) (by kernel_rfl) (fun _ _ _ h => h) (.inl ⟨rfl, fun _ _ => by unfold execOp; simp [go_sem]⟩) ⟨da, db, du, dv⟩ ?_
    try simp only [List.setIfInBounds_toArray, List.set_cons_zero, List.set_cons_succ]
    refine wpAnyT_take (i := 5) #[true, true, true, true, true, true, false, false, false, false, false, false, false] (by kernel_rfl) 39 rfl rfl (by kernel_rfl) (by kernel_rfl) (by kernel_rfl) (by kernel_rfl) (by kernel_rfl) (fun _ _ _ h => h) (yields_row 147 _ rfl rfl (w1.heap.size) rfl 147 _ _ (fun w h => h.2.2.1) Try.underlying147 rfl sz147) ⟨da, db, du, dv⟩ ?_
    try simp only [List.setIfInBounds_toArray, List.set_cons_zero, List.set_cons_succ]
    refine wpAnyT_take (i := 7) (v := .pointer (some ⟨w.heap.size + 1, 0, none⟩)) #[true, true, true, true, true, true, false, true, false, false, false, false, false] (by kernel_rfl) 41 rfl rfl (by kernel_rfl) (by kernel_rfl) (by kernel_rfl) (by kernel_rfl) (by kernel_rfl) (fun _ _ _ h => h) (.inl ⟨rfl, fun _ _ => by unfold execOp; simp [go_sem]⟩) ⟨da, db, du, dv⟩ ?_
    try simp only [List.setIfInBounds_toArray, List.set_cons_zero, List.set_cons_succ]
    refine wpAnyT_take (i := 8) #[true, true, true, true, true, true, false, true, true, false, false, false, false] (by kernel_rfl) 42 rfl rfl (by kernel_rfl) (by kernel_rfl) (by kernel_rfl) (by kernel_rfl) (by kernel_rfl) (fun _ _ _ h => h) (yields_cell 4 _ rfl rfl _ rfl _ (Try.underlying4) rfl (.bool false) (fun w h => (h.2.1.cell 0).trans rfl)) ⟨da, db, du, dv⟩ ?_
    try simp only [List.setIfInBounds_toArray, List.set_cons_zero, List.set_cons_succ]
    refine wpAnyT_take (i := 9) #[true, true, true, true, true, true, false, true, true, true, false, false, false] (by kernel_rfl) 43 rfl rfl (by kernel_rfl) (by kernel_rfl) (by kernel_rfl) (by kernel_rfl) (by kernel_rfl) (fun _ _ _ h => h) (yields_row 147 _ rfl rfl (w1.heap.size + 1) rfl 147 _ _ (fun w h => h.2.2.2) Try.underlying147 rfl sz147) ⟨da, db, du, dv⟩ ?_
    try simp only [List.setIfInBounds_toArray, List.set_cons_zero, List.set_cons_succ]
    refine wpAnyT_call (i := 6) #[true, true, true, true, true, true, true, true, true, true, false, false, false] (by kernel_rfl) 40 rfl (by kernel_rfl) rfl rfl 115 #[.bool true, szv (M / N)] (by kernel_rfl) (made_sg true _ hQ _) ?_
    rintro x4 hb
    have na : Blk x4 (w.heap.size) 32 (wcl true (lb M)) := (da).later hb
    have nb : Blk x4 (w.heap.size + 1) 32 (wcl false (lb N)) := (db).later hb
    have np : Blk x4 (w.heap.size + 1 + 1) 32 (wcl false fun _ => 0) := (dp).later hb
    have nq : Blk x4 (w.heap.size + 1 + 1 + 1) 32 (wcl false fun _ => 0) := (dq).later hb
    have nx : Blk x4 (w.heap.size + 1 + 1 + 1 + 1) 147 (cl (lb M)) := (dx).later hb
    have ny : Blk x4 (w.heap.size + 1 + 1 + 1 + 1 + 1) 147 (cl (lb N)) := (dy).later hb
    have nu : Blk x4 (w1.heap.size) 147 (cl (lb (M / N))) := (du).later hb
    have nv : Blk x4 (w1.heap.size + 1) 147 (cl (lb (M % N))) := (dv).later hb
    have nB : Below w.heap.size w x4 := below_then dB hb
    have yx4_4 := hb.size
    try simp only [World.size_alloc, size_setRow] at yx4_4
    clear hb da db dp dq dx dy du dv dB
    have da := na
    have za_4 := da.lt
    have db := nb
    have zb_4 := db.lt
    have dp := np
    have zp_4 := dp.lt
    have dq := nq
    have zq_4 := dq.lt
    have dx := nx
    have zx_4 := dx.lt
    have dy := ny
    have zy_4 := dy.lt
    have du := nu
    have zu_4 := du.lt
    have dv := nv
    have zv_4 := dv.lt
    have dB := nB
    clear na nb np nq nx ny nu nv nB
    refine ⟨fun _ => ⟨da, db, du, dv⟩, ?_⟩
    try simp only [List.setIfInBounds_toArray, List.set_cons_zero, List.set_cons_succ]
    refine wpAnyT_call (i := 10) #[true, true, true, true, true, true, true, true, true, true, true, false, false] (by kernel_rfl) 44 rfl (by kernel_rfl) rfl rfl 115 #[.bool false, szv (M % N)] (by kernel_rfl) (made_sg false _ hR _) ?_
    rintro x6 hb
    have na : Blk x6 (w.heap.size) 32 (wcl true (lb M)) := (da).later hb
    have nb : Blk x6 (w.heap.size + 1) 32 (wcl false (lb N)) := (db).later hb
    have np : Blk x6 (w.heap.size + 1 + 1) 32 (wcl false fun _ => 0) := (dp).later hb
    have nq : Blk x6 (w.heap.size + 1 + 1 + 1) 32 (wcl false fun _ => 0) := (dq).later hb
    have nx : Blk x6 (w.heap.size + 1 + 1 + 1 + 1) 147 (cl (lb M)) := (dx).later hb
    have ny : Blk x6 (w.heap.size + 1 + 1 + 1 + 1 + 1) 147 (cl (lb N)) := (dy).later hb
    have nu : Blk x6 (w1.heap.size) 147 (cl (lb (M / N))) := (du).later hb
    have nv : Blk x6 (w1.heap.size + 1) 147 (cl (lb (M % N))) := (dv).later hb
    have nB : Below w.heap.size w x6 := below_then dB hb
    have yx6_6 := hb.size
    try simp only [World.size_alloc, size_setRow] at yx6_6
    clear hb da db dp dq dx dy du dv dB
    have da := na
    have za_6 := da.lt
    have db := nb
    have zb_6 := db.lt
    have dp := np
    have zp_6 := dp.lt
    have dq := nq
    have zq_6 := dq.lt
    have dx := nx
    have zx_6 := dx.lt
    have dy := ny
    have zy_6 := dy.lt
    have du := nu
    have zu_6 := du.lt
    have dv := nv
    have zv_6 := dv.lt
    have dB := nB
    clear na nb np nq nx ny nu nv nB
    refine ⟨fun _ => ⟨da, db, du, dv⟩, ?_⟩
    try simp only [List.setIfInBounds_toArray, List.set_cons_zero, List.set_cons_succ]
    refine wpAnyT_store (i := 11) #[true, true, true, true, true, true, true, true, true, true, true, true, false] (by kernel_rfl) rfl (by kernel_rfl) rfl rfl 32 _ _ rfl (w.heap.size + 1 + 1) (wcl (sg true (M / N)) (lb (M / N))) rfl rfl 32 _ dp sz32 rfl (wcl_all _ _) ⟨fun _ => ⟨da.row_far (by omega) _, db.row_far (by omega) _, du.row_far (by omega) _, dv.row_far (by omega) _⟩, ?_⟩
    replace da := da.row_far (k := w.heap.size + 1 + 1) (by omega) (wcl (sg true (M / N)) (lb (M / N)))
    replace db := db.row_far (k := w.heap.size + 1 + 1) (by omega) (wcl (sg true (M / N)) (lb (M / N)))
    replace dp := dp.row (wcl (sg true (M / N)) (lb (M / N)))
    replace dq := dq.row_far (k := w.heap.size + 1 + 1) (by omega) (wcl (sg true (M / N)) (lb (M / N)))
    replace dx := dx.row_far (k := w.heap.size + 1 + 1) (by omega) (wcl (sg true (M / N)) (lb (M / N)))
    replace dy := dy.row_far (k := w.heap.size + 1 + 1) (by omega) (wcl (sg true (M / N)) (lb (M / N)))
    replace du := du.row_far (k := w.heap.size + 1 + 1) (by omega) (wcl (sg true (M / N)) (lb (M / N)))
    replace dv := dv.row_far (k := w.heap.size + 1 + 1) (by omega) (wcl (sg true (M / N)) (lb (M / N)))
    replace dB := below_row (g := w.heap.size + 1 + 1) dB (by omega) (wcl (sg true (M / N)) (lb (M / N)))
    refine wpAnyT_store (i := 12) #[true, true, true, true, true, true, true, true, true, true, true, true, true] (by kernel_rfl) rfl (by kernel_rfl) rfl rfl 32 _ _ rfl (w.heap.size + 1 + 1 + 1) (wcl (sg false (M % N)) (lb (M % N))) rfl rfl 32 _ dq sz32 rfl (wcl_all _ _) ⟨fun _ => ⟨da.row_far (by omega) _, db.row_far (by omega) _, du.row_far (by omega) _, dv.row_far (by omega) _⟩, ?_⟩
    replace da := da.row_far (k := w.heap.size + 1 + 1 + 1) (by omega) (wcl (sg false (M % N)) (lb (M % N)))
    replace db := db.row_far (k := w.heap.size + 1 + 1 + 1) (by omega) (wcl (sg false (M % N)) (lb (M % N)))
    replace dp := dp.row_far (k := w.heap.size + 1 + 1 + 1) (by omega) (wcl (sg false (M % N)) (lb (M % N)))
    replace dq := dq.row (wcl (sg false (M % N)) (lb (M % N)))
    replace dx := dx.row_far (k := w.heap.size + 1 + 1 + 1) (by omega) (wcl (sg false (M % N)) (lb (M % N)))
    replace dy := dy.row_far (k := w.heap.size + 1 + 1 + 1) (by omega) (wcl (sg false (M % N)) (lb (M % N)))
    replace du := du.row_far (k := w.heap.size + 1 + 1 + 1) (by omega) (wcl (sg false (M % N)) (lb (M % N)))
    replace dv := dv.row_far (k := w.heap.size + 1 + 1 + 1) (by omega) (wcl (sg false (M % N)) (lb (M % N)))
    replace dB := below_row (g := w.heap.size + 1 + 1 + 1) dB (by omega) (wcl (sg false (M % N)) (lb (M % N)))
    refine wpAnyT_done (by kernel_rfl) ?_ _
    go_wp2
    refine bodyPost_ret (v := .tuple #[wdv (sg true (M / N)) (M / N), wdv (sg false (M % N)) (M % N)]) (res_row_row Try.results105 rfl dp rfl dq Try.underlying32 rfl sz32 Try.underlying32 rfl sz32) rfl ⟨rfl, dB⟩
end Go.Proofs.Ytjgikfejfglllaa
