/- The laws' helpers: moves. -/
import Derived.Test.YtcfaammnkbkfcaaN24
import Derived.Deep.MidRow
set_option linter.unusedVariables false
set_option linter.unusedSimpArgs false
namespace Go.Proofs.Ytcfaammnkbkfcaa
open Go.RowKit


theorem size62 : (Try.prog.info? 62).map (·.size) = some 2 := by kernel_rfl
section
variable {P : Program} {ops : Array Oper} {S : World → Prop}
theorem yields_mid {o : Oper} {a : Act} (ty : TypeId) (x : Operand) (ho : o.op = .load ty x) (hg : o.guard = none) (g off : Nat) (hx : a.eval x = .pointer (some ⟨g, off, none⟩)) (cs : List Value) (d : TypeDesc)
    (hS : ∀ w, S w → w.rangeAt g off cs) (hu : P.underlying ty = some d) (hd : d.isRow = true) (hi : (P.info? ty).map (·.size) = some cs.length) : YieldsIf P ops S o (.agg cs.toArray) a :=
  .inl ⟨by simp [Region.wanted, hg], fun w hw' => by
    unfold execOp
    simp only [ho, hx, Instr.loadAt, Instr.sureAddr, Sem.run_bind, Sem.run_pure, Result.andThen_ok, run_loadVar_mid w g off ty cs d (hS w hw') hu hd hi]⟩
end
theorem yields_idx {ops : Array Oper} {S : World → Prop} {o : Oper} {a : Act} (x y : Operand) (ho : o.op = .indexAddr 51 x y) (hg : o.guard = none) (g n c k : Nat) (hx : a.eval x = .slice (some ⟨g, 0, none⟩) n c) (hy : a.eval y = .int .i64 k) (hk : k < n) :
    YieldsIf Try.prog ops S o (.pointer (some ⟨g, k * 2, none⟩)) a :=
  .inl ⟨by simp [Region.wanted, hg], fun w _ => by
    unfold execOp
    simp only [ho, hx, hy]
    simp [go_sem, hk]⟩
theorem eqMove_yes (a b : Int) (w : World) : Calls Try.prog 103 #[.agg #[.int .i8 a, .int .i64 b], .agg #[.int .i8 a, .int .i64 b]] w fun e w' => e = .returned (.bool true) ∧ Below w.heap.size w w' := by
  have := eqMove_any a b a b w
  rwa [decide_eq_true (And.intro rfl rfl)] at this
theorem range2 {w : World} {g o : Nat} {x y : Value} (h0 : w.cell? ⟨g, o, none⟩ = some x) (h1 : w.cell? ⟨g, o + 1, none⟩ = some y) : w.rangeAt g o [x, y] := by
  intro j v hj
  match j, hj with
  | 0, hj => simp at hj; subst hj; exact h0
  | 1, hj => simp at hj; subst hj; exact h1
  | j + 2, hj => simp at hj
theorem range_later {w w' : World} {g o : Nat} {cs : List Value} (h : w.rangeAt g o cs) (hb : Below w.heap.size w w') (hg : g < w.heap.size) : w'.rangeAt g o cs := fun j v hj => (hb.cell (p := ⟨g, o + j, none⟩) hg).trans (h j v hj)
set_option maxHeartbeats 4000000 in
theorem eqMoves_yes (v u : Value) (l : List (Int × Int)) (hl : l.length ≤ 1048576) (w : World) (hr : RdM w v l) (hu : RdM w u l) : Calls Try.prog 32 #[v, u] w fun e w' => e = .returned (.bool true) ∧ Below w.heap.size w w' := by
  obtain ⟨A, c, rfl, hr⟩ := hr
  obtain ⟨A', c', rfl, hu⟩ := hu
  obtain ⟨n, hn⟩ : ∃ n, n = l.length := ⟨_, rfl⟩
  rw [← hn] at hr hu hl ⊢
  have HK := Lib.hid hr
  have HK' := Lib.hid hu
  clear hr hu hn
  go_enter Try.func32, Try.ntmps32
  go_wp2_with fail
  go_loopw [5] (fun i wr => ∃ k : Nat, k ≤ n ∧ i = .int .i64 k ∧ Below w.heap.size w wr) (fun i _ => n - (intOf i).toNat)
  case atStart => exact ⟨0, by omega, rfl, Below.refl _ _⟩
  case round =>
    obtain ⟨k, hk, rfl, hB⟩ := hrel
    by_cases hlt : k < n
    · obtain ⟨g, rfl, hg, hc0, hc1⟩ := HK.out k hlt
      obtain ⟨g', rfl, hg', hd0, hd1⟩ := HK'.out k hlt
      obtain ⟨x, hx⟩ : ∃ x, x = (l.getD k (0, 0)).1 := ⟨_, rfl⟩
      obtain ⟨y, hy⟩ : ∃ x, x = (l.getD k (0, 0)).2 := ⟨_, rfl⟩
      rw [← hx] at hc0 hd0
      rw [← hy] at hc1 hd1
      have e2 : 2 * k = k * 2 := Nat.mul_comm _ _
      rw [e2] at hc0 hc1 hd0 hd1
      have hs : wr.rangeAt g (k * 2) [.int .i8 x, .int .i64 y] ∧ wr.rangeAt g' (k * 2) [.int .i8 x, .int .i64 y] :=
        ⟨range2 ((hB.cell (p := ⟨g, k * 2, none⟩) hg).trans hc0) ((hB.cell (p := ⟨g, k * 2 + 1, none⟩) hg).trans hc1), range2 ((hB.cell (p := ⟨g', k * 2, none⟩) hg').trans hd0) ((hB.cell (p := ⟨g', k * 2 + 1, none⟩) hg').trans hd1)⟩
      have hBx := hB.size
      have HGT : g < wr.heap.size ∧ g' < wr.heap.size := ⟨by omega, by omega⟩
      clear hc0 hc1 hd0 hd1 hx hy e2
      go_upto_region 6 with fail
      refine rg_begin (fun w' => w'.rangeAt g (k * 2) [.int .i8 x, .int .i64 y] ∧ w'.rangeAt g' (k * 2) [.int .i8 x, .int .i64 y]) 10 10 #[false, false, false, false, false, false, false, false, false, false] rfl rfl rfl ?_
      intro x1 hb
      replace hs := And.intro (range_later hs.1 hb HGT.1) (range_later hs.2 hb HGT.2)
      replace HGT := And.intro (Nat.lt_of_lt_of_le HGT.1 hb.size) (Nat.lt_of_lt_of_le HGT.2 hb.size)
      replace hB := below_thenB hB hb hBx
      replace hBx := Nat.le_trans hBx hb.size
      clear hb
      refine wpAnyT_take (i := 0) (v := .slice (some ⟨g, 0, none⟩) n c) #[true, false, false, false, false, false, false, false, false, false] (by kernel_rfl) 17 rfl rfl (by kernel_rfl) (by kernel_rfl) (by kernel_rfl) (by kernel_rfl) (by kernel_rfl) (fun _ _ _ h => h) (.inl ⟨rfl, fun _ _ => by unfold execOp; simp [go_sem]⟩) hs ?_
      try simp only [List.setIfInBounds_toArray, List.set_cons_zero, List.set_cons_succ]
      refine wpAnyT_take (i := 1) (v := .int .i64 (k : Int)) #[true, true, false, false, false, false, false, false, false, false] (by kernel_rfl) 18 rfl rfl (by kernel_rfl) (by kernel_rfl) (by kernel_rfl) (by kernel_rfl) (by kernel_rfl) (fun _ _ _ h => h) (.inl ⟨rfl, fun _ _ => by unfold execOp; simp [go_sem]⟩) hs ?_
      try simp only [List.setIfInBounds_toArray, List.set_cons_zero, List.set_cons_succ]
      refine wpAnyT_take (i := 2) #[true, true, true, false, false, false, false, false, false, false] (by kernel_rfl) 19 rfl rfl (by kernel_rfl) (by kernel_rfl) (by kernel_rfl) (by kernel_rfl) (by kernel_rfl) (fun _ _ _ h => h) (yields_idx _ _ rfl rfl g n c k rfl rfl hlt) hs ?_
      try simp only [List.setIfInBounds_toArray, List.set_cons_zero, List.set_cons_succ]
      refine wpAnyT_take (i := 3) #[true, true, true, true, false, false, false, false, false, false] (by kernel_rfl) 20 rfl rfl (by kernel_rfl) (by kernel_rfl) (by kernel_rfl) (by kernel_rfl) (by kernel_rfl) (fun _ _ _ h => h) (yields_mid 62 _ rfl rfl g (k * 2) rfl [.int .i8 x, .int .i64 y] _ (fun w h => h.1) Try.underlying62 rfl size62) hs ?_
      try simp only [List.setIfInBounds_toArray, List.set_cons_zero, List.set_cons_succ]
      refine wpAnyT_take (i := 4) (v := .slice (some ⟨g', 0, none⟩) n c') #[true, true, true, true, true, false, false, false, false, false] (by kernel_rfl) 21 rfl rfl (by kernel_rfl) (by kernel_rfl) (by kernel_rfl) (by kernel_rfl) (by kernel_rfl) (fun _ _ _ h => h) (.inl ⟨rfl, fun _ _ => by unfold execOp; simp [go_sem]⟩) hs ?_
      try simp only [List.setIfInBounds_toArray, List.set_cons_zero, List.set_cons_succ]
      refine wpAnyT_take (i := 5) (v := .int .i64 (k : Int)) #[true, true, true, true, true, true, false, false, false, false] (by kernel_rfl) 22 rfl rfl (by kernel_rfl) (by kernel_rfl) (by kernel_rfl) (by kernel_rfl) (by kernel_rfl) (fun _ _ _ h => h) (.inl ⟨rfl, fun _ _ => by unfold execOp; simp [go_sem]⟩) hs ?_
      try simp only [List.setIfInBounds_toArray, List.set_cons_zero, List.set_cons_succ]
      refine wpAnyT_take (i := 6) #[true, true, true, true, true, true, true, false, false, false] (by kernel_rfl) 23 rfl rfl (by kernel_rfl) (by kernel_rfl) (by kernel_rfl) (by kernel_rfl) (by kernel_rfl) (fun _ _ _ h => h) (yields_idx _ _ rfl rfl g' n c' k rfl rfl hlt) hs ?_
      try simp only [List.setIfInBounds_toArray, List.set_cons_zero, List.set_cons_succ]
      refine wpAnyT_take (i := 7) #[true, true, true, true, true, true, true, true, false, false] (by kernel_rfl) 24 rfl rfl (by kernel_rfl) (by kernel_rfl) (by kernel_rfl) (by kernel_rfl) (by kernel_rfl) (fun _ _ _ h => h) (yields_mid 62 _ rfl rfl g' (k * 2) rfl [.int .i8 x, .int .i64 y] _ (fun w h => h.2) Try.underlying62 rfl size62) hs ?_
      try simp only [List.setIfInBounds_toArray, List.set_cons_zero, List.set_cons_succ]
      refine rg_list (l := [8]) (by kernel_rfl) rfl ?_
      intro i hi
      obtain rfl := List.mem_singleton.1 hi
      refine rg_call #[true, true, true, true, true, true, true, true, true, false] (by kernel_rfl) 25 rfl rfl (by kernel_rfl) 103 #[.agg #[.int .i8 x, .int .i64 y], .agg #[.int .i8 x, .int .i64 y]] (by kernel_rfl) (eqMove_yes x y _) ?_
      intro x2 hb
      replace hs := And.intro (range_later hs.1 hb HGT.1) (range_later hs.2 hb HGT.2)
      replace HGT := And.intro (Nat.lt_of_lt_of_le HGT.1 hb.size) (Nat.lt_of_lt_of_le HGT.2 hb.size)
      replace hB := below_thenB hB hb hBx
      replace hBx := Nat.le_trans hBx hb.size
      clear hb
      refine ⟨fun _ => hs, ?_⟩
      try simp only [List.setIfInBounds_toArray, List.set_cons_zero, List.set_cons_succ]
      refine wpAnyT_take (i := 9) (v := .bool false) #[true, true, true, true, true, true, true, true, true, true] (by kernel_rfl) 26 rfl rfl (by kernel_rfl) (by kernel_rfl) (by kernel_rfl) (by kernel_rfl) (by kernel_rfl) (fun _ _ _ h => h) (.inl ⟨rfl, fun _ _ => by unfold execOp; simp [go_sem]⟩) hs ?_
      try simp only [List.setIfInBounds_toArray, List.set_cons_zero, List.set_cons_succ]
      refine wpAnyT_done (by kernel_rfl) ?_ _
      clear hs HGT hBx hg hg'
      go_wp2_with fail
      go_roundw
      case rel => exact ⟨k + 1, by omega, by go_num, hB⟩
      case measure => simp [intOf] <;> omega
    · obtain rfl : k = n := by omega
      go_wp2
      go_ret
      exact ⟨rfl, hB⟩
/-- Marks of moves. -/
def mkM (k0 n : Nat) : List (Int × Int) := (List.range n).map (fun (i : Nat) => (IntKind.i8.wrap (((k0 + 2 * i : Nat) : Int)), ((k0 + 2 * i + 1 : Nat) : Int)))
theorem mkM_len (k n : Nat) : (mkM k n).length = n := by simp [mkM]
theorem mkM_at (k n j : Nat) (hj : j < n) : (mkM k n).getD j (0, 0) = (IntKind.i8.wrap (((k + 2 * j : Nat) : Int)), ((k + 2 * j + 1 : Nat) : Int)) := by simp [mkM, hj]
set_option maxHeartbeats 4000000 in
theorem markMoves_any (base : Nat) (v : Value) (l : List (Int × Int)) (k0 : Nat) (hk0 : k0 ≤ 1000000000) (hlen : l.length ≤ 1048576) (w : World) (hr : w.ownsRow base 62 2 v l.length (mz l)) :
    Calls Try.prog 33 #[v, .int .i64 k0] w fun e w' => e = .returned (.int .i64 ((k0 + 2 * l.length : Nat) : Int)) ∧ w'.ownsRow base 62 2 v l.length (mz (mkM k0 l.length)) ∧ w.grownBy w' v.ownBlock := by
  obtain ⟨n, hn⟩ : ∃ n, n = l.length := ⟨_, rfl⟩
  rw [← hn] at hlen hr ⊢
  have HN := Lib.hid hn
  clear hn
  by_cases h0 : n = 0
  · subst h0
    obtain ⟨A, c, rfl⟩ := own_slice hr
    go_enter Try.func33, Try.ntmps33
    go_wp2_with fail
    go_loop [1, 5] (fun q i => q = .int .i64 k0 ∧ i = .int .i64 0) (fun q i => 0)
    case atStart => exact ⟨rfl, rfl⟩
    case round =>
      obtain ⟨rfl, rfl⟩ := hrel
      go_wp2
      go_ret
      have hl : l = [] := List.eq_nil_of_length_eq_zero HN.out.symm
      subst hl
      exact ⟨rfl, (show mkM k0 0 = [] from rfl) ▸ hr, ⟨rfl, rfl, rfl, Nat.le_refl _, fun _ _ _ => rfl⟩⟩
  · obtain ⟨g, cp, rfl, hg⟩ := own_ptr hr (by omega)
    have hgr0 : w.grownBy w (some g) := ⟨rfl, rfl, rfl, Nat.le_refl _, fun _ _ _ => rfl⟩
    go_enter Try.func33, Try.ntmps33
    go_wp2_with fail
    go_loopw [1, 5] (fun q i wr => ∃ (k : Nat) (xs : List (Int × Int)), k ≤ n ∧ q = .int .i64 ((k0 + 2 * k : Nat) : Int) ∧ i = .int .i64 k ∧ xs.length = n ∧ (∀ j, j < k → xs.getD j (0, 0) = (mkM k0 n).getD j (0, 0)) ∧ wr.ownsRow base 62 2 (.slice (some ⟨g, 0, none⟩) n cp) n (mz xs) ∧ w.grownBy wr (some g)) (fun q i _ => n - (intOf i).toNat)
    case atStart => exact ⟨0, l, by omega, by simp, rfl, HN.out.symm, fun j hj => by omega, hr, hgr0⟩
    case round =>
      clear hr hgr0
      obtain ⟨k, xs, hk, hq, rfl, hx, hall, hown, hgr⟩ := hrel
      obtain ⟨X, hX⟩ : ∃ X : Nat, X = k0 + 2 * k := ⟨_, rfl⟩
      rw [← hX] at hq
      subst hq
      have hXb : X ≤ 1002097152 := by omega
      have HXX := Lib.hid hX
      have HX := Lib.hid hx
      have HA := Lib.hid hall
      have HGR := Lib.hid hgr
      clear hx hall hgr
      by_cases hlt : k < n
      · clear hX
        have hco := (hown.cellAt (2 * k) (by omega)).trans (mz_at xs k (by rw [HX.out]; exact hlt)).1
        have hfo := hown.frozenAt (2 * k)
        obtain ⟨hst, hgs⟩ := hown.stored (2 * k) (.int .i8 (IntKind.i8.wrap (X : Int)))
        rw [mz_set0 _ _ _ (by rw [HX.out]; exact hlt)] at hst
        obtain ⟨ys, hys⟩ : ∃ ys, ys = xs.set k (IntKind.i8.wrap (X : Int), (xs.getD k (0, 0)).2) := ⟨_, rfl⟩
        rw [← hys] at hst
        have hyl : ys.length = n := by rw [hys, List.length_set]; exact HX.out
        have hco2 := (hst.cellAt (2 * k + 1) (by omega)).trans (mz_at ys k (by rw [hyl]; exact hlt)).2
        have hfo2 := hst.frozenAt (2 * k + 1)
        obtain ⟨hst2, hgs2⟩ := hst.stored (2 * k + 1) (.int .i64 ((X + 1 : Nat) : Int))
        rw [mz_set1 _ _ _ (by rw [hyl]; exact hlt)] at hst2
        have hgr2 := (HGR.out.trans hgs).trans hgs2
        have e2 : 2 * k = k * 2 := Nat.mul_comm _ _
        rw [e2] at hco hfo hco2 hfo2 hst2 hgr2
        have hfin : ys.set k ((ys.getD k (0, 0)).1, ((X + 1 : Nat) : Int)) = xs.set k (IntKind.i8.wrap (X : Int), ((X + 1 : Nat) : Int)) := by
          rw [hys]
          simp [HX.out, hlt, List.set_set]
        rw [hfin] at hst2
        have HG2 := Lib.hid hgr2
        have HST2 := Lib.hid hst2
        have HYL := Lib.hid hyl
        clear hown hgr2 hgs hgs2 HGR hst hst2 hys hyl hfin e2
        go_wp2_with fail
        go_roundw
        case rel => exact ⟨k + 1, xs.set k (IntKind.i8.wrap (X : Int), ((X + 1 : Nat) : Int)), by omega, int_eq (by have := HXX.out; omega), by go_num, by rw [List.length_set]; exact HX.out, fun j hj => by
          by_cases e : j = k
          · rw [e, mkM_at _ _ _ hlt, ← HXX.out]
            simp [HX.out, hlt]
          · rw [← HA.out j (by omega)]
            simp [List.getElem?_set, Ne.symm e], by simpa using HST2.out, by simpa using HG2.out⟩
        case measure => simp [intOf] <;> omega
      · obtain rfl : k = n := by omega
        have he : xs = mkM k0 k := ext_getM (by rw [HX.out, mkM_len]) (fun j hj => HA.out j (by rw [← HX.out]; exact hj))
        subst he
        go_wp2
        go_ret
        exact ⟨rfl, hown, HGR.out⟩
set_option maxHeartbeats 2000000 in
theorem heldMoves_any (v : Value) (k0 n : Nat) (hk0 : k0 ≤ 1000000000) (hlen : n ≤ 1048576) (w : World) (hr : RdM w v (mkM k0 n)) :
    Calls Try.prog 34 #[v, .int .i64 k0] w fun e w' => e = .returned (.int .i64 ((k0 + 2 * n : Nat) : Int)) ∧ w = w' := by
  obtain ⟨A, c, rfl, hr⟩ := hr
  rw [mkM_len] at *
  have HK := Lib.hid hr
  clear hr
  go_enter Try.func34, Try.ntmps34
  go_wp2_with fail
  go_loop [1, 5] (fun q i => ∃ k : Nat, k ≤ n ∧ q = .int .i64 ((k0 + 2 * k : Nat) : Int) ∧ i = .int .i64 k) (fun q i => n - (intOf i).toNat)
  case atStart => exact ⟨0, by omega, by simp, rfl⟩
  case round =>
    obtain ⟨k, hk, hq, rfl⟩ := hrel
    obtain ⟨X, hX⟩ : ∃ X : Nat, X = k0 + 2 * k := ⟨_, rfl⟩
    rw [← hX] at hq
    subst hq
    by_cases hlt : k < n
    · obtain ⟨g, rfl, hg, hc0, hc1⟩ := HK.out k hlt
      rw [mkM_at _ _ _ hlt, ← hX] at hc0 hc1
      have e2 : 2 * k = k * 2 := Nat.mul_comm _ _
      rw [e2] at hc0 hc1
      have hXb : X ≤ 1002097152 := by omega
      have HXX := Lib.hid hX
      clear HK hg e2 hX
      have hc0 : w.cell? ⟨g, k * 2, none⟩ = some (.int .i8 (IntKind.i8.wrap (X : Int))) := hc0
      have hc1 : w.cell? ⟨g, k * 2 + 1, none⟩ = some (.int .i64 ((X + 1 : Nat) : Int)) := hc1
      obtain ⟨Y, hY⟩ : ∃ Y, Y = IntKind.i8.wrap (X : Int) := ⟨_, rfl⟩
      rw [← hY] at hc0
      have b1 : (Y != IntKind.i8.wrap (X : Int)) = false := by rw [hY]; simp
      have b2 : (((X + 1 : Nat) : Int) != (X : Int) + 1) = false := by simp
      go_wp2_with fail
      go_round
      case rel => exact ⟨k + 1, by omega, int_eq (by have := HXX.out; omega), by go_num⟩
      case measure => simp [intOf] <;> omega
    · obtain rfl : k = n := by omega
      go_wp2
      go_ret
      exact ⟨rfl, rfl⟩
end Go.Proofs.Ytcfaammnkbkfcaa
