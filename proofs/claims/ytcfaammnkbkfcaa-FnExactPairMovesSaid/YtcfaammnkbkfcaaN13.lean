/- A step: the last term, infinite; no step. -/
import Derived.Test.YtcfaammnkbkfcaaN12
set_option linter.unusedVariables false
set_option linter.unusedSimpArgs false
namespace Go.Proofs.Ytcfaammnkbkfcaa
open Go.RowKit


set_option maxHeartbeats 8000000 in
set_option maxRecDepth 100000 in
theorem step_inf (bs gp g gk : Nat) (a b c d : Int) (tk n cc : Nat) (A : Option Addr) (ml : List (Int × Int)) (gl : List Int) (ha : a.natAbs ≤ 1000000000000000) (hb : b.natAbs ≤ 1000000000000000) (hc : c.natAbs ≤ 1000000000000000) (hd : d.natAbs ≤ 1000000000000000)
    (hml : ml.length ≤ 4000000) (hgl : gl.length ≤ 4000000) (hn : n ≤ 40) (htk : tk ≤ 41) (htn : tk = n) (hno : ¬ (alk [a, a + b] [c, c + d] = true ∧ 0 < tk)) (w : World) (hgp : bs ≤ gp) (hg : bs ≤ g) (hgk : bs ≤ gk) (dp : Blk w gp 45 #[.int .i64 a, .int .i64 b, .int .i64 c, .int .i64 d]) (dk : Blk w gk 3 #[.int .i64 tk]) (hS : St w 138 bs g ml gl false) :
    Calls Try.prog 149 #[.pointer (some ⟨gp, 0, none⟩), .pointer (some ⟨g, 0, none⟩), .slice A n cc, .pointer (some ⟨gk, 0, none⟩)] w fun e w' => e = .returned (.bool true) ∧ Blk w' gp 45 #[.int .i64 a, .int .i64 a, .int .i64 c, .int .i64 c] ∧ Blk w' gk 3 #[.int .i64 ((tk + 1 : Nat) : Int)] ∧ St w' 138 bs g (ml ++ [(2, 0)]) gl false ∧ Below bs w w' := by
  subst htn
  have hgv := fun v u w hv hu => gives_any v u [a, a + b] [c, c + d] (by simp) (by simp) rfl (by
    intro j hj
    match j, hj with
    | 0, _ => simp; omega
    | 1, _ => simp; omega
    | j + 2, hj => simp at hj; omega) w hv hu
  obtain ⟨V, hV⟩ : ∃ V, V = alkV [a, a + b] [c, c + d] := ⟨_, rfl⟩
  have hVb : V.natAbs ≤ 1000000000000001 := by
    rw [hV]
    unfold alkV
    by_cases h : alk [a, a + b] [c, c + d] = true
    · rw [if_pos h]
      have h0 := (alk_len 2 rfl h 0 (by decide)).1
      have := fl_abs a c (by simpa using h0)
      simp
      omega
    · rw [if_neg h]
      simp
  obtain ⟨K, hK⟩ : ∃ K, K = alk [a, a + b] [c, c + d] := ⟨_, rfl⟩
  rw [← hV, ← hK] at hgv
  rw [← hK] at hno
  have hno : K = true → tk = 0 := fun h => by
    have : ¬ 0 < tk := fun h2 => hno ⟨h, h2⟩
    omega
  have HNO := Lib.hid hno
  clear hV hK hno
  have hBx : bs ≤ w.heap.size := by have := dp.lt; omega
  have dB : Below bs w w := Below.refl _ _
  have hab : IntKind.i64.wrap (a + b) = a + b := IntWalk.i64_in _ (by omega)
  have hcd : IntKind.i64.wrap (c + d) = c + d := IntWalk.i64_in _ (by omega)
  have hneg : IntKind.i64.wrap (-V) = -V := IntWalk.i64_in _ (by omega)
  have HML := Lib.hid hml
  have HGL := Lib.hid hgl
  have HGV := Lib.hid hgv
  clear hgv hml hgl
  go_enter Try.func149, Try.ntmps149
  go_upto_region 1 with fail
  go_cut [9, 10] (fun p q wx => p = .int .i64 V ∧ q = .bool K ∧ Blk wx gp 45 #[.int .i64 a, .int .i64 b, .int .i64 c, .int .i64 d] ∧ Blk wx gk 3 #[.int .i64 tk] ∧ St wx 138 bs g ml gl false ∧ Below bs w wx ∧ bs ≤ wx.heap.size)
  case first =>
    refine rg_begin (fun w' => Blk w' (gp) 45 (#[.int .i64 a, .int .i64 b, .int .i64 c, .int .i64 d])) 34 34 #[false, false, false, false, false, false, false, false, false, false, false, false, false, false, false, false, false, false, false, false, false, false, false, false, false, false, false, false, false, false, false, false, false, false] rfl rfl rfl ?_
    intro x1 hb
    replace dp := dp.later hb
    replace dk := dk.later hb
    replace hS := hS.later hb
    replace dB := below_thenB dB hb hBx
    replace hBx := Nat.le_trans hBx hb.size
    clear hb
    refine wpAnyT_take (i := 0) (v := .pointer (some ⟨gp, 0, none⟩)) #[true, false, false, false, false, false, false, false, false, false, false, false, false, false, false, false, false, false, false, false, false, false, false, false, false, false, false, false, false, false, false, false, false, false] (by kernel_rfl) 13 rfl rfl (by kernel_rfl) (by kernel_rfl) (by kernel_rfl) (by kernel_rfl) (by kernel_rfl) (fun _ _ _ h => h) (.inl ⟨rfl, fun _ _ => by unfold execOp; simp [go_sem]⟩) dp ?_
    try simp only [List.setIfInBounds_toArray, List.set_cons_zero, List.set_cons_succ]
    refine wpAnyT_take (i := 1) (v := .pointer (some ⟨gp, 0, none⟩)) #[true, true, false, false, false, false, false, false, false, false, false, false, false, false, false, false, false, false, false, false, false, false, false, false, false, false, false, false, false, false, false, false, false, false] (by kernel_rfl) 14 rfl rfl (by kernel_rfl) (by kernel_rfl) (by kernel_rfl) (by kernel_rfl) (by kernel_rfl) (fun _ _ _ h => h) (.inl ⟨rfl, fun _ _ => by unfold execOp; simp [go_sem]⟩) dp ?_
    try simp only [List.setIfInBounds_toArray, List.set_cons_zero, List.set_cons_succ]
    refine wpAnyT_take (i := 2) (v := .pointer (some ⟨gp, 0, none⟩)) #[true, true, true, false, false, false, false, false, false, false, false, false, false, false, false, false, false, false, false, false, false, false, false, false, false, false, false, false, false, false, false, false, false, false] (by kernel_rfl) 15 rfl rfl (by kernel_rfl) (by kernel_rfl) (by kernel_rfl) (by kernel_rfl) (by kernel_rfl) (fun _ _ _ h => h) (.inl ⟨rfl, fun _ _ => by unfold execOp; simp [go_sem]⟩) dp ?_
    try simp only [List.setIfInBounds_toArray, List.set_cons_zero, List.set_cons_succ]
    refine wpAnyT_take (i := 3) #[true, true, true, true, false, false, false, false, false, false, false, false, false, false, false, false, false, false, false, false, false, false, false, false, false, false, false, false, false, false, false, false, false, false] (by kernel_rfl) 16 rfl rfl (by kernel_rfl) (by kernel_rfl) (by kernel_rfl) (by kernel_rfl) (by kernel_rfl) (fun _ _ _ h => h) (yields_cell 2 _ rfl rfl _ rfl _ (Try.underlying2) rfl (.int .i64 a) (fun w h => (h.cell 0).trans rfl)) dp ?_
    try simp only [List.setIfInBounds_toArray, List.set_cons_zero, List.set_cons_succ]
    refine wpAnyT_take (i := 4) (v := .pointer (some ⟨gp, 0, none⟩)) #[true, true, true, true, true, false, false, false, false, false, false, false, false, false, false, false, false, false, false, false, false, false, false, false, false, false, false, false, false, false, false, false, false, false] (by kernel_rfl) 17 rfl rfl (by kernel_rfl) (by kernel_rfl) (by kernel_rfl) (by kernel_rfl) (by kernel_rfl) (fun _ _ _ h => h) (.inl ⟨rfl, fun _ _ => by unfold execOp; simp [go_sem]⟩) dp ?_
    try simp only [List.setIfInBounds_toArray, List.set_cons_zero, List.set_cons_succ]
    refine wpAnyT_take (i := 5) (v := .pointer (some ⟨gp, 0, none⟩)) #[true, true, true, true, true, true, false, false, false, false, false, false, false, false, false, false, false, false, false, false, false, false, false, false, false, false, false, false, false, false, false, false, false, false] (by kernel_rfl) 18 rfl rfl (by kernel_rfl) (by kernel_rfl) (by kernel_rfl) (by kernel_rfl) (by kernel_rfl) (fun _ _ _ h => h) (.inl ⟨rfl, fun _ _ => by unfold execOp; simp [go_sem]⟩) dp ?_
    try simp only [List.setIfInBounds_toArray, List.set_cons_zero, List.set_cons_succ]
    refine wpAnyT_take (i := 6) (v := .pointer (some ⟨gp, 0, none⟩)) #[true, true, true, true, true, true, true, false, false, false, false, false, false, false, false, false, false, false, false, false, false, false, false, false, false, false, false, false, false, false, false, false, false, false] (by kernel_rfl) 19 rfl rfl (by kernel_rfl) (by kernel_rfl) (by kernel_rfl) (by kernel_rfl) (by kernel_rfl) (fun _ _ _ h => h) (.inl ⟨rfl, fun _ _ => by unfold execOp; simp [go_sem]⟩) dp ?_
    try simp only [List.setIfInBounds_toArray, List.set_cons_zero, List.set_cons_succ]
    refine wpAnyT_take (i := 7) #[true, true, true, true, true, true, true, true, false, false, false, false, false, false, false, false, false, false, false, false, false, false, false, false, false, false, false, false, false, false, false, false, false, false] (by kernel_rfl) 20 rfl rfl (by kernel_rfl) (by kernel_rfl) (by kernel_rfl) (by kernel_rfl) (by kernel_rfl) (fun _ _ _ h => h) (yields_cell 2 _ rfl rfl _ rfl _ (Try.underlying2) rfl (.int .i64 a) (fun w h => (h.cell 0).trans rfl)) dp ?_
    try simp only [List.setIfInBounds_toArray, List.set_cons_zero, List.set_cons_succ]
    refine wpAnyT_take (i := 8) (v := .pointer (some ⟨gp, 0, none⟩)) #[true, true, true, true, true, true, true, true, true, false, false, false, false, false, false, false, false, false, false, false, false, false, false, false, false, false, false, false, false, false, false, false, false, false] (by kernel_rfl) 21 rfl rfl (by kernel_rfl) (by kernel_rfl) (by kernel_rfl) (by kernel_rfl) (by kernel_rfl) (fun _ _ _ h => h) (.inl ⟨rfl, fun _ _ => by unfold execOp; simp [go_sem]⟩) dp ?_
    try simp only [List.setIfInBounds_toArray, List.set_cons_zero, List.set_cons_succ]
    refine wpAnyT_take (i := 9) (v := .pointer (some ⟨gp, 0, none⟩)) #[true, true, true, true, true, true, true, true, true, true, false, false, false, false, false, false, false, false, false, false, false, false, false, false, false, false, false, false, false, false, false, false, false, false] (by kernel_rfl) 22 rfl rfl (by kernel_rfl) (by kernel_rfl) (by kernel_rfl) (by kernel_rfl) (by kernel_rfl) (fun _ _ _ h => h) (.inl ⟨rfl, fun _ _ => by unfold execOp; simp [go_sem]⟩) dp ?_
    try simp only [List.setIfInBounds_toArray, List.set_cons_zero, List.set_cons_succ]
    refine wpAnyT_take (i := 10) (v := .pointer (some ⟨gp, 1, none⟩)) #[true, true, true, true, true, true, true, true, true, true, true, false, false, false, false, false, false, false, false, false, false, false, false, false, false, false, false, false, false, false, false, false, false, false] (by kernel_rfl) 23 rfl rfl (by kernel_rfl) (by kernel_rfl) (by kernel_rfl) (by kernel_rfl) (by kernel_rfl) (fun _ _ _ h => h) (.inl ⟨rfl, fun _ _ => by unfold execOp; simp [go_sem]⟩) dp ?_
    try simp only [List.setIfInBounds_toArray, List.set_cons_zero, List.set_cons_succ]
    refine wpAnyT_take (i := 11) #[true, true, true, true, true, true, true, true, true, true, true, true, false, false, false, false, false, false, false, false, false, false, false, false, false, false, false, false, false, false, false, false, false, false] (by kernel_rfl) 24 rfl rfl (by kernel_rfl) (by kernel_rfl) (by kernel_rfl) (by kernel_rfl) (by kernel_rfl) (fun _ _ _ h => h) (yields_cell 2 _ rfl rfl _ rfl _ (Try.underlying2) rfl (.int .i64 b) (fun w h => (h.cell 1).trans rfl)) dp ?_
    try simp only [List.setIfInBounds_toArray, List.set_cons_zero, List.set_cons_succ]
    refine wpAnyT_take (i := 12) (v := .int .i64 (a + b)) #[true, true, true, true, true, true, true, true, true, true, true, true, true, false, false, false, false, false, false, false, false, false, false, false, false, false, false, false, false, false, false, false, false, false] (by kernel_rfl) 25 rfl rfl (by kernel_rfl) (by kernel_rfl) (by kernel_rfl) (by kernel_rfl) (by kernel_rfl) (fun _ _ _ h => h) (.inl ⟨rfl, fun _ _ => by unfold execOp; simp [go_sem, hab]⟩) dp ?_
    try simp only [List.setIfInBounds_toArray, List.set_cons_zero, List.set_cons_succ]
    refine wpAnyT_take (i := 14) (v := .pointer (some ⟨gp, 0, none⟩)) #[true, true, true, true, true, true, true, true, true, true, true, true, true, false, true, false, false, false, false, false, false, false, false, false, false, false, false, false, false, false, false, false, false, false] (by kernel_rfl) 27 rfl rfl (by kernel_rfl) (by kernel_rfl) (by kernel_rfl) (by kernel_rfl) (by kernel_rfl) (fun _ _ _ h => h) (.inl ⟨rfl, fun _ _ => by unfold execOp; simp [go_sem]⟩) dp ?_
    try simp only [List.setIfInBounds_toArray, List.set_cons_zero, List.set_cons_succ]
    refine wpAnyT_take (i := 15) (v := .pointer (some ⟨gp, 0, none⟩)) #[true, true, true, true, true, true, true, true, true, true, true, true, true, false, true, true, false, false, false, false, false, false, false, false, false, false, false, false, false, false, false, false, false, false] (by kernel_rfl) 28 rfl rfl (by kernel_rfl) (by kernel_rfl) (by kernel_rfl) (by kernel_rfl) (by kernel_rfl) (fun _ _ _ h => h) (.inl ⟨rfl, fun _ _ => by unfold execOp; simp [go_sem]⟩) dp ?_
    try simp only [List.setIfInBounds_toArray, List.set_cons_zero, List.set_cons_succ]
    refine wpAnyT_take (i := 16) (v := .pointer (some ⟨gp, 2, none⟩)) #[true, true, true, true, true, true, true, true, true, true, true, true, true, false, true, true, true, false, false, false, false, false, false, false, false, false, false, false, false, false, false, false, false, false] (by kernel_rfl) 29 rfl rfl (by kernel_rfl) (by kernel_rfl) (by kernel_rfl) (by kernel_rfl) (by kernel_rfl) (fun _ _ _ h => h) (.inl ⟨rfl, fun _ _ => by unfold execOp; simp [go_sem]⟩) dp ?_
    try simp only [List.setIfInBounds_toArray, List.set_cons_zero, List.set_cons_succ]
    refine wpAnyT_take (i := 17) #[true, true, true, true, true, true, true, true, true, true, true, true, true, false, true, true, true, true, false, false, false, false, false, false, false, false, false, false, false, false, false, false, false, false] (by kernel_rfl) 30 rfl rfl (by kernel_rfl) (by kernel_rfl) (by kernel_rfl) (by kernel_rfl) (by kernel_rfl) (fun _ _ _ h => h) (yields_cell 2 _ rfl rfl _ rfl _ (Try.underlying2) rfl (.int .i64 c) (fun w h => (h.cell 2).trans rfl)) dp ?_
    try simp only [List.setIfInBounds_toArray, List.set_cons_zero, List.set_cons_succ]
    refine wpAnyT_take (i := 18) (v := .pointer (some ⟨gp, 0, none⟩)) #[true, true, true, true, true, true, true, true, true, true, true, true, true, false, true, true, true, true, true, false, false, false, false, false, false, false, false, false, false, false, false, false, false, false] (by kernel_rfl) 31 rfl rfl (by kernel_rfl) (by kernel_rfl) (by kernel_rfl) (by kernel_rfl) (by kernel_rfl) (fun _ _ _ h => h) (.inl ⟨rfl, fun _ _ => by unfold execOp; simp [go_sem]⟩) dp ?_
    try simp only [List.setIfInBounds_toArray, List.set_cons_zero, List.set_cons_succ]
    refine wpAnyT_take (i := 19) (v := .pointer (some ⟨gp, 0, none⟩)) #[true, true, true, true, true, true, true, true, true, true, true, true, true, false, true, true, true, true, true, true, false, false, false, false, false, false, false, false, false, false, false, false, false, false] (by kernel_rfl) 32 rfl rfl (by kernel_rfl) (by kernel_rfl) (by kernel_rfl) (by kernel_rfl) (by kernel_rfl) (fun _ _ _ h => h) (.inl ⟨rfl, fun _ _ => by unfold execOp; simp [go_sem]⟩) dp ?_
    try simp only [List.setIfInBounds_toArray, List.set_cons_zero, List.set_cons_succ]
    refine wpAnyT_take (i := 20) (v := .pointer (some ⟨gp, 2, none⟩)) #[true, true, true, true, true, true, true, true, true, true, true, true, true, false, true, true, true, true, true, true, true, false, false, false, false, false, false, false, false, false, false, false, false, false] (by kernel_rfl) 33 rfl rfl (by kernel_rfl) (by kernel_rfl) (by kernel_rfl) (by kernel_rfl) (by kernel_rfl) (fun _ _ _ h => h) (.inl ⟨rfl, fun _ _ => by unfold execOp; simp [go_sem]⟩) dp ?_
    try simp only [List.setIfInBounds_toArray, List.set_cons_zero, List.set_cons_succ]
    refine wpAnyT_take (i := 21) #[true, true, true, true, true, true, true, true, true, true, true, true, true, false, true, true, true, true, true, true, true, true, false, false, false, false, false, false, false, false, false, false, false, false] (by kernel_rfl) 34 rfl rfl (by kernel_rfl) (by kernel_rfl) (by kernel_rfl) (by kernel_rfl) (by kernel_rfl) (fun _ _ _ h => h) (yields_cell 2 _ rfl rfl _ rfl _ (Try.underlying2) rfl (.int .i64 c) (fun w h => (h.cell 2).trans rfl)) dp ?_
    try simp only [List.setIfInBounds_toArray, List.set_cons_zero, List.set_cons_succ]
    refine wpAnyT_take (i := 22) (v := .pointer (some ⟨gp, 0, none⟩)) #[true, true, true, true, true, true, true, true, true, true, true, true, true, false, true, true, true, true, true, true, true, true, true, false, false, false, false, false, false, false, false, false, false, false] (by kernel_rfl) 35 rfl rfl (by kernel_rfl) (by kernel_rfl) (by kernel_rfl) (by kernel_rfl) (by kernel_rfl) (fun _ _ _ h => h) (.inl ⟨rfl, fun _ _ => by unfold execOp; simp [go_sem]⟩) dp ?_
    try simp only [List.setIfInBounds_toArray, List.set_cons_zero, List.set_cons_succ]
    refine wpAnyT_take (i := 23) (v := .pointer (some ⟨gp, 0, none⟩)) #[true, true, true, true, true, true, true, true, true, true, true, true, true, false, true, true, true, true, true, true, true, true, true, true, false, false, false, false, false, false, false, false, false, false] (by kernel_rfl) 36 rfl rfl (by kernel_rfl) (by kernel_rfl) (by kernel_rfl) (by kernel_rfl) (by kernel_rfl) (fun _ _ _ h => h) (.inl ⟨rfl, fun _ _ => by unfold execOp; simp [go_sem]⟩) dp ?_
    try simp only [List.setIfInBounds_toArray, List.set_cons_zero, List.set_cons_succ]
    refine wpAnyT_take (i := 24) (v := .pointer (some ⟨gp, 3, none⟩)) #[true, true, true, true, true, true, true, true, true, true, true, true, true, false, true, true, true, true, true, true, true, true, true, true, true, false, false, false, false, false, false, false, false, false] (by kernel_rfl) 37 rfl rfl (by kernel_rfl) (by kernel_rfl) (by kernel_rfl) (by kernel_rfl) (by kernel_rfl) (fun _ _ _ h => h) (.inl ⟨rfl, fun _ _ => by unfold execOp; simp [go_sem]⟩) dp ?_
    try simp only [List.setIfInBounds_toArray, List.set_cons_zero, List.set_cons_succ]
    refine wpAnyT_take (i := 25) #[true, true, true, true, true, true, true, true, true, true, true, true, true, false, true, true, true, true, true, true, true, true, true, true, true, true, false, false, false, false, false, false, false, false] (by kernel_rfl) 38 rfl rfl (by kernel_rfl) (by kernel_rfl) (by kernel_rfl) (by kernel_rfl) (by kernel_rfl) (fun _ _ _ h => h) (yields_cell 2 _ rfl rfl _ rfl _ (Try.underlying2) rfl (.int .i64 d) (fun w h => (h.cell 3).trans rfl)) dp ?_
    try simp only [List.setIfInBounds_toArray, List.set_cons_zero, List.set_cons_succ]
    refine wpAnyT_take (i := 26) (v := .int .i64 (c + d)) #[true, true, true, true, true, true, true, true, true, true, true, true, true, false, true, true, true, true, true, true, true, true, true, true, true, true, true, false, false, false, false, false, false, false] (by kernel_rfl) 39 rfl rfl (by kernel_rfl) (by kernel_rfl) (by kernel_rfl) (by kernel_rfl) (by kernel_rfl) (fun _ _ _ h => h) (.inl ⟨rfl, fun _ _ => by unfold execOp; simp [go_sem, hcd]⟩) dp ?_
    try simp only [List.setIfInBounds_toArray, List.set_cons_zero, List.set_cons_succ]
    refine rg_list (l := [13, 27]) (by kernel_rfl) rfl ?_
    intro i hi
    simp only [List.mem_cons, List.not_mem_nil, or_false] at hi
    rcases hi with rfl | rfl
    · refine rg_slice #[true, true, true, true, true, true, true, true, true, true, true, true, true, true, true, true, true, true, true, true, true, true, true, true, true, true, true, false, false, false, false, false, false, false] (by kernel_rfl) 26 rfl rfl (by kernel_rfl) 2 2 (#[.int .i64 a, .int .i64 (a + b)]) (by kernel_rfl) ?_
      intro gx x2 hn hb
      replace dp := dp.later hb
      replace dk := dk.later hb
      replace hS := hS.later hb
      replace dB := below_thenB dB hb hBx
      replace hBx := Nat.le_trans hBx hb.size
      clear hb
      have dx := hn
      clear hn
      refine ⟨fun _ => dp, ?_⟩
      try simp only [List.setIfInBounds_toArray, List.set_cons_zero, List.set_cons_succ]
      refine rg_list (l := [27]) (by kernel_rfl) rfl ?_
      intro i hi
      obtain rfl := List.mem_singleton.1 hi
      refine rg_slice #[true, true, true, true, true, true, true, true, true, true, true, true, true, true, true, true, true, true, true, true, true, true, true, true, true, true, true, true, false, false, false, false, false, false] (by kernel_rfl) 40 rfl rfl (by kernel_rfl) 2 2 (#[.int .i64 c, .int .i64 (c + d)]) (by kernel_rfl) ?_
      intro gy x3 hn hb
      replace dp := dp.later hb
      replace dk := dk.later hb
      replace dx := dx.later hb
      replace hS := hS.later hb
      replace dB := below_thenB dB hb hBx
      replace hBx := Nat.le_trans hBx hb.size
      clear hb
      have dy := hn
      clear hn
      refine ⟨fun _ => dp, ?_⟩
      try simp only [List.setIfInBounds_toArray, List.set_cons_zero, List.set_cons_succ]
      refine rg_list (l := [28]) (by kernel_rfl) rfl ?_
      intro i hi
      obtain rfl := List.mem_singleton.1 hi
      refine rg_call #[true, true, true, true, true, true, true, true, true, true, true, true, true, true, true, true, true, true, true, true, true, true, true, true, true, true, true, true, true, false, false, false, false, false] (by kernel_rfl) 41 rfl rfl (by kernel_rfl) 163 #[.slice (some ⟨gx, 0, none⟩) 2 2, .slice (some ⟨gy, 0, none⟩) 2 2] (by kernel_rfl) (HGV.out _ _ _ (Rd.of_two dx) (Rd.of_two dy)) ?_
      intro x4 hw
      have hb := hw.below
      clear hw
      replace dp := dp.later hb
      replace dk := dk.later hb
      replace dx := dx.later hb
      replace dy := dy.later hb
      replace hS := hS.later hb
      replace dB := below_thenB dB hb hBx
      replace hBx := Nat.le_trans hBx hb.size
      clear hb
      refine ⟨fun _ => dp, ?_⟩
      try simp only [List.setIfInBounds_toArray, List.set_cons_zero, List.set_cons_succ]
      refine wpAnyT_take (i := 29) (v := .tuple #[.int .i64 V, .bool K]) #[true, true, true, true, true, true, true, true, true, true, true, true, true, true, true, true, true, true, true, true, true, true, true, true, true, true, true, true, true, true, false, false, false, false] (by kernel_rfl) 12 rfl rfl (by kernel_rfl) (by kernel_rfl) (by kernel_rfl) (by kernel_rfl) (by kernel_rfl) (fun _ _ _ h => h) (.inl ⟨rfl, fun _ _ => by unfold execOp; simp [go_sem]⟩) dp ?_
      try simp only [List.setIfInBounds_toArray, List.set_cons_zero, List.set_cons_succ]
      refine wpAnyT_take (i := 30) (v := .int .i64 V) #[true, true, true, true, true, true, true, true, true, true, true, true, true, true, true, true, true, true, true, true, true, true, true, true, true, true, true, true, true, true, true, false, false, false] (by kernel_rfl) 42 rfl rfl (by kernel_rfl) (by kernel_rfl) (by kernel_rfl) (by kernel_rfl) (by kernel_rfl) (fun _ _ _ h => h) (.inl ⟨rfl, fun _ _ => by unfold execOp; simp [go_sem]⟩) dp ?_
      try simp only [List.setIfInBounds_toArray, List.set_cons_zero, List.set_cons_succ]
      refine wpAnyT_take (i := 31) (v := .bool K) #[true, true, true, true, true, true, true, true, true, true, true, true, true, true, true, true, true, true, true, true, true, true, true, true, true, true, true, true, true, true, true, true, false, false] (by kernel_rfl) 43 rfl rfl (by kernel_rfl) (by kernel_rfl) (by kernel_rfl) (by kernel_rfl) (by kernel_rfl) (fun _ _ _ h => h) (.inl ⟨rfl, fun _ _ => by unfold execOp; simp [go_sem]⟩) dp ?_
      try simp only [List.setIfInBounds_toArray, List.set_cons_zero, List.set_cons_succ]
      refine wpAnyT_take (i := 32) (v := .int .i64 V) #[true, true, true, true, true, true, true, true, true, true, true, true, true, true, true, true, true, true, true, true, true, true, true, true, true, true, true, true, true, true, true, true, true, false] (by kernel_rfl) 9 rfl rfl (by kernel_rfl) (by kernel_rfl) (by kernel_rfl) (by kernel_rfl) (by kernel_rfl) (fun _ _ _ h => h) (.inl ⟨rfl, fun _ _ => by unfold execOp; simp [go_sem]⟩) dp ?_
      try simp only [List.setIfInBounds_toArray, List.set_cons_zero, List.set_cons_succ]
      refine wpAnyT_take (i := 33) (v := .bool K) #[true, true, true, true, true, true, true, true, true, true, true, true, true, true, true, true, true, true, true, true, true, true, true, true, true, true, true, true, true, true, true, true, true, true] (by kernel_rfl) 10 rfl rfl (by kernel_rfl) (by kernel_rfl) (by kernel_rfl) (by kernel_rfl) (by kernel_rfl) (fun _ _ _ h => h) (.inl ⟨rfl, fun _ _ => by unfold execOp; simp [go_sem]⟩) dp ?_
      try simp only [List.setIfInBounds_toArray, List.set_cons_zero, List.set_cons_succ]
      refine wpAnyT_done (by kernel_rfl) ?_ _
      go_wp2_with fail
      go_meet
      case rel => exact ⟨rfl, rfl, dp, dk, hS, dB, hBx⟩
    · refine rg_slice #[true, true, true, true, true, true, true, true, true, true, true, true, true, false, true, true, true, true, true, true, true, true, true, true, true, true, true, true, false, false, false, false, false, false] (by kernel_rfl) 40 rfl rfl (by kernel_rfl) 2 2 (#[.int .i64 c, .int .i64 (c + d)]) (by kernel_rfl) ?_
      intro gy x5 hn hb
      replace dp := dp.later hb
      replace dk := dk.later hb
      replace hS := hS.later hb
      replace dB := below_thenB dB hb hBx
      replace hBx := Nat.le_trans hBx hb.size
      clear hb
      have dy := hn
      clear hn
      refine ⟨fun _ => dp, ?_⟩
      try simp only [List.setIfInBounds_toArray, List.set_cons_zero, List.set_cons_succ]
      refine rg_list (l := [13]) (by kernel_rfl) rfl ?_
      intro i hi
      obtain rfl := List.mem_singleton.1 hi
      refine rg_slice #[true, true, true, true, true, true, true, true, true, true, true, true, true, true, true, true, true, true, true, true, true, true, true, true, true, true, true, true, false, false, false, false, false, false] (by kernel_rfl) 26 rfl rfl (by kernel_rfl) 2 2 (#[.int .i64 a, .int .i64 (a + b)]) (by kernel_rfl) ?_
      intro gx x6 hn hb
      replace dp := dp.later hb
      replace dk := dk.later hb
      replace dy := dy.later hb
      replace hS := hS.later hb
      replace dB := below_thenB dB hb hBx
      replace hBx := Nat.le_trans hBx hb.size
      clear hb
      have dx := hn
      clear hn
      refine ⟨fun _ => dp, ?_⟩
      try simp only [List.setIfInBounds_toArray, List.set_cons_zero, List.set_cons_succ]
      refine rg_list (l := [28]) (by kernel_rfl) rfl ?_
      intro i hi
      obtain rfl := List.mem_singleton.1 hi
      refine rg_call #[true, true, true, true, true, true, true, true, true, true, true, true, true, true, true, true, true, true, true, true, true, true, true, true, true, true, true, true, true, false, false, false, false, false] (by kernel_rfl) 41 rfl rfl (by kernel_rfl) 163 #[.slice (some ⟨gx, 0, none⟩) 2 2, .slice (some ⟨gy, 0, none⟩) 2 2] (by kernel_rfl) (HGV.out _ _ _ (Rd.of_two dx) (Rd.of_two dy)) ?_
      intro x7 hw
      have hb := hw.below
      clear hw
      replace dp := dp.later hb
      replace dk := dk.later hb
      replace dy := dy.later hb
      replace dx := dx.later hb
      replace hS := hS.later hb
      replace dB := below_thenB dB hb hBx
      replace hBx := Nat.le_trans hBx hb.size
      clear hb
      refine ⟨fun _ => dp, ?_⟩
      try simp only [List.setIfInBounds_toArray, List.set_cons_zero, List.set_cons_succ]
      refine wpAnyT_take (i := 29) (v := .tuple #[.int .i64 V, .bool K]) #[true, true, true, true, true, true, true, true, true, true, true, true, true, true, true, true, true, true, true, true, true, true, true, true, true, true, true, true, true, true, false, false, false, false] (by kernel_rfl) 12 rfl rfl (by kernel_rfl) (by kernel_rfl) (by kernel_rfl) (by kernel_rfl) (by kernel_rfl) (fun _ _ _ h => h) (.inl ⟨rfl, fun _ _ => by unfold execOp; simp [go_sem]⟩) dp ?_
      try simp only [List.setIfInBounds_toArray, List.set_cons_zero, List.set_cons_succ]
      refine wpAnyT_take (i := 30) (v := .int .i64 V) #[true, true, true, true, true, true, true, true, true, true, true, true, true, true, true, true, true, true, true, true, true, true, true, true, true, true, true, true, true, true, true, false, false, false] (by kernel_rfl) 42 rfl rfl (by kernel_rfl) (by kernel_rfl) (by kernel_rfl) (by kernel_rfl) (by kernel_rfl) (fun _ _ _ h => h) (.inl ⟨rfl, fun _ _ => by unfold execOp; simp [go_sem]⟩) dp ?_
      try simp only [List.setIfInBounds_toArray, List.set_cons_zero, List.set_cons_succ]
      refine wpAnyT_take (i := 31) (v := .bool K) #[true, true, true, true, true, true, true, true, true, true, true, true, true, true, true, true, true, true, true, true, true, true, true, true, true, true, true, true, true, true, true, true, false, false] (by kernel_rfl) 43 rfl rfl (by kernel_rfl) (by kernel_rfl) (by kernel_rfl) (by kernel_rfl) (by kernel_rfl) (fun _ _ _ h => h) (.inl ⟨rfl, fun _ _ => by unfold execOp; simp [go_sem]⟩) dp ?_
      try simp only [List.setIfInBounds_toArray, List.set_cons_zero, List.set_cons_succ]
      refine wpAnyT_take (i := 32) (v := .int .i64 V) #[true, true, true, true, true, true, true, true, true, true, true, true, true, true, true, true, true, true, true, true, true, true, true, true, true, true, true, true, true, true, true, true, true, false] (by kernel_rfl) 9 rfl rfl (by kernel_rfl) (by kernel_rfl) (by kernel_rfl) (by kernel_rfl) (by kernel_rfl) (fun _ _ _ h => h) (.inl ⟨rfl, fun _ _ => by unfold execOp; simp [go_sem]⟩) dp ?_
      try simp only [List.setIfInBounds_toArray, List.set_cons_zero, List.set_cons_succ]
      refine wpAnyT_take (i := 33) (v := .bool K) #[true, true, true, true, true, true, true, true, true, true, true, true, true, true, true, true, true, true, true, true, true, true, true, true, true, true, true, true, true, true, true, true, true, true] (by kernel_rfl) 10 rfl rfl (by kernel_rfl) (by kernel_rfl) (by kernel_rfl) (by kernel_rfl) (by kernel_rfl) (fun _ _ _ h => h) (.inl ⟨rfl, fun _ _ => by unfold execOp; simp [go_sem]⟩) dp ?_
      try simp only [List.setIfInBounds_toArray, List.set_cons_zero, List.set_cons_succ]
      refine wpAnyT_done (by kernel_rfl) ?_ _
      go_wp2_with fail
      go_meet
      case rel => exact ⟨rfl, rfl, dp, dk, hS, dB, hBx⟩
  case rest =>
    clear dp dk hS dB hBx
    obtain ⟨rfl, rfl, dp, dk, hS, dB, hBx⟩ := hcut
    obtain ⟨v1, hv1⟩ : ∃ v, v = wc := ⟨_, rfl⟩
    subst hv1
    have ck := dk.cell 0
    have ck : v1.cell? ⟨gk, 0, none⟩ = some (.int .i64 tk) := ck
    go_upto_region 3 with fail
    go_cut [44] (fun q wx => q = .bool false ∧ wx = v1)
    case first =>
      have hno := HNO.out
      clear HNO
      cases K
      · go_wp2_with fail
        go_meet
        case rel => exact ⟨rfl, rfl⟩
      · obtain rfl := hno rfl
        go_wp2_with fail
        go_meet
        case rel => exact ⟨rfl, rfl⟩
    case rest =>
    obtain ⟨rfl, hwc⟩ := hcut
    obtain rfl := hwc
    obtain ⟨v2, hv2⟩ : ∃ v, v = wc := ⟨_, rfl⟩
    subst hv2
    have hll : ¬ (tk : Int) < (tk : Int) := by omega
    go_upto_region 12 with fail
    go_wp2_with fail
    refine (take_any bs g ml gl false 2 0 HML.out _ hg hS).mono ?_
    rintro e w5 ⟨rfl, hs, hf⟩
    replace dp := hf.kept _ _ _ dp (by decide) (by decide) (by decide)
    replace dk := hf.kept _ _ _ dk (by decide) (by decide) (by decide)
    replace hS := hs
    replace dB := dB.trans hf.below
    replace hBx := Nat.le_trans hBx hf.size
    clear hs hf ck
    go_upto_region 13 with fail
    refine rg_begin (fun w' => Blk w' (gp) 45 (#[.int .i64 a, .int .i64 b, .int .i64 c, .int .i64 d])) 19 20 #[false, false, false, false, false, false, false, false, false, false, false, false, false, false, false, false, false, false, false, false] rfl rfl rfl ?_
    intro x1 hb
    replace dp := dp.later hb
    replace dk := dk.later hb
    replace hS := hS.later hb
    replace dB := below_thenB dB hb hBx
    replace hBx := Nat.le_trans hBx hb.size
    clear hb
    refine wpAnyT_take (i := 0) (v := .pointer (some ⟨gp, 0, none⟩)) #[true, false, false, false, false, false, false, false, false, false, false, false, false, false, false, false, false, false, false, false] (by kernel_rfl) 153 rfl rfl (by kernel_rfl) (by kernel_rfl) (by kernel_rfl) (by kernel_rfl) (by kernel_rfl) (fun _ _ _ h => h) (.inl ⟨rfl, fun _ _ => by unfold execOp; simp [go_sem]⟩) dp ?_
    try simp only [List.setIfInBounds_toArray, List.set_cons_zero, List.set_cons_succ]
    refine wpAnyT_take (i := 1) (v := .pointer (some ⟨gp, 0, none⟩)) #[true, true, false, false, false, false, false, false, false, false, false, false, false, false, false, false, false, false, false, false] (by kernel_rfl) 154 rfl rfl (by kernel_rfl) (by kernel_rfl) (by kernel_rfl) (by kernel_rfl) (by kernel_rfl) (fun _ _ _ h => h) (.inl ⟨rfl, fun _ _ => by unfold execOp; simp [go_sem]⟩) dp ?_
    try simp only [List.setIfInBounds_toArray, List.set_cons_zero, List.set_cons_succ]
    refine wpAnyT_take (i := 2) (v := .pointer (some ⟨gp, 0, none⟩)) #[true, true, true, false, false, false, false, false, false, false, false, false, false, false, false, false, false, false, false, false] (by kernel_rfl) 155 rfl rfl (by kernel_rfl) (by kernel_rfl) (by kernel_rfl) (by kernel_rfl) (by kernel_rfl) (fun _ _ _ h => h) (.inl ⟨rfl, fun _ _ => by unfold execOp; simp [go_sem]⟩) dp ?_
    try simp only [List.setIfInBounds_toArray, List.set_cons_zero, List.set_cons_succ]
    refine wpAnyT_take (i := 3) (v := .pointer (some ⟨gp, 0, none⟩)) #[true, true, true, true, false, false, false, false, false, false, false, false, false, false, false, false, false, false, false, false] (by kernel_rfl) 156 rfl rfl (by kernel_rfl) (by kernel_rfl) (by kernel_rfl) (by kernel_rfl) (by kernel_rfl) (fun _ _ _ h => h) (.inl ⟨rfl, fun _ _ => by unfold execOp; simp [go_sem]⟩) dp ?_
    try simp only [List.setIfInBounds_toArray, List.set_cons_zero, List.set_cons_succ]
    refine wpAnyT_take (i := 4) #[true, true, true, true, true, false, false, false, false, false, false, false, false, false, false, false, false, false, false, false] (by kernel_rfl) 157 rfl rfl (by kernel_rfl) (by kernel_rfl) (by kernel_rfl) (by kernel_rfl) (by kernel_rfl) (fun _ _ _ h => h) (yields_cell 2 _ rfl rfl _ rfl _ (Try.underlying2) rfl (.int .i64 a) (fun w h => (h.cell 0).trans rfl)) dp ?_
    try simp only [List.setIfInBounds_toArray, List.set_cons_zero, List.set_cons_succ]
    refine wpAnyT_take (i := 5) (v := .pointer (some ⟨gp, 0, none⟩)) #[true, true, true, true, true, true, false, false, false, false, false, false, false, false, false, false, false, false, false, false] (by kernel_rfl) 158 rfl rfl (by kernel_rfl) (by kernel_rfl) (by kernel_rfl) (by kernel_rfl) (by kernel_rfl) (fun _ _ _ h => h) (.inl ⟨rfl, fun _ _ => by unfold execOp; simp [go_sem]⟩) dp ?_
    try simp only [List.setIfInBounds_toArray, List.set_cons_zero, List.set_cons_succ]
    refine wpAnyT_take (i := 6) (v := .pointer (some ⟨gp, 0, none⟩)) #[true, true, true, true, true, true, true, false, false, false, false, false, false, false, false, false, false, false, false, false] (by kernel_rfl) 159 rfl rfl (by kernel_rfl) (by kernel_rfl) (by kernel_rfl) (by kernel_rfl) (by kernel_rfl) (fun _ _ _ h => h) (.inl ⟨rfl, fun _ _ => by unfold execOp; simp [go_sem]⟩) dp ?_
    try simp only [List.setIfInBounds_toArray, List.set_cons_zero, List.set_cons_succ]
    refine wpAnyT_take (i := 7) (v := .pointer (some ⟨gp, 0, none⟩)) #[true, true, true, true, true, true, true, true, false, false, false, false, false, false, false, false, false, false, false, false] (by kernel_rfl) 160 rfl rfl (by kernel_rfl) (by kernel_rfl) (by kernel_rfl) (by kernel_rfl) (by kernel_rfl) (fun _ _ _ h => h) (.inl ⟨rfl, fun _ _ => by unfold execOp; simp [go_sem]⟩) dp ?_
    try simp only [List.setIfInBounds_toArray, List.set_cons_zero, List.set_cons_succ]
    refine wpAnyT_take (i := 8) #[true, true, true, true, true, true, true, true, true, false, false, false, false, false, false, false, false, false, false, false] (by kernel_rfl) 161 rfl rfl (by kernel_rfl) (by kernel_rfl) (by kernel_rfl) (by kernel_rfl) (by kernel_rfl) (fun _ _ _ h => h) (yields_cell 2 _ rfl rfl _ rfl _ (Try.underlying2) rfl (.int .i64 a) (fun w h => (h.cell 0).trans rfl)) dp ?_
    try simp only [List.setIfInBounds_toArray, List.set_cons_zero, List.set_cons_succ]
    refine wpAnyT_take (i := 9) (v := .pointer (some ⟨gp, 0, none⟩)) #[true, true, true, true, true, true, true, true, true, true, false, false, false, false, false, false, false, false, false, false] (by kernel_rfl) 162 rfl rfl (by kernel_rfl) (by kernel_rfl) (by kernel_rfl) (by kernel_rfl) (by kernel_rfl) (fun _ _ _ h => h) (.inl ⟨rfl, fun _ _ => by unfold execOp; simp [go_sem]⟩) dp ?_
    try simp only [List.setIfInBounds_toArray, List.set_cons_zero, List.set_cons_succ]
    refine wpAnyT_take (i := 10) (v := .pointer (some ⟨gp, 0, none⟩)) #[true, true, true, true, true, true, true, true, true, true, true, false, false, false, false, false, false, false, false, false] (by kernel_rfl) 163 rfl rfl (by kernel_rfl) (by kernel_rfl) (by kernel_rfl) (by kernel_rfl) (by kernel_rfl) (fun _ _ _ h => h) (.inl ⟨rfl, fun _ _ => by unfold execOp; simp [go_sem]⟩) dp ?_
    try simp only [List.setIfInBounds_toArray, List.set_cons_zero, List.set_cons_succ]
    refine wpAnyT_take (i := 11) (v := .pointer (some ⟨gp, 2, none⟩)) #[true, true, true, true, true, true, true, true, true, true, true, true, false, false, false, false, false, false, false, false] (by kernel_rfl) 164 rfl rfl (by kernel_rfl) (by kernel_rfl) (by kernel_rfl) (by kernel_rfl) (by kernel_rfl) (fun _ _ _ h => h) (.inl ⟨rfl, fun _ _ => by unfold execOp; simp [go_sem]⟩) dp ?_
    try simp only [List.setIfInBounds_toArray, List.set_cons_zero, List.set_cons_succ]
    refine wpAnyT_take (i := 12) #[true, true, true, true, true, true, true, true, true, true, true, true, true, false, false, false, false, false, false, false] (by kernel_rfl) 165 rfl rfl (by kernel_rfl) (by kernel_rfl) (by kernel_rfl) (by kernel_rfl) (by kernel_rfl) (fun _ _ _ h => h) (yields_cell 2 _ rfl rfl _ rfl _ (Try.underlying2) rfl (.int .i64 c) (fun w h => (h.cell 2).trans rfl)) dp ?_
    try simp only [List.setIfInBounds_toArray, List.set_cons_zero, List.set_cons_succ]
    refine wpAnyT_take (i := 13) (v := .pointer (some ⟨gp, 0, none⟩)) #[true, true, true, true, true, true, true, true, true, true, true, true, true, true, false, false, false, false, false, false] (by kernel_rfl) 166 rfl rfl (by kernel_rfl) (by kernel_rfl) (by kernel_rfl) (by kernel_rfl) (by kernel_rfl) (fun _ _ _ h => h) (.inl ⟨rfl, fun _ _ => by unfold execOp; simp [go_sem]⟩) dp ?_
    try simp only [List.setIfInBounds_toArray, List.set_cons_zero, List.set_cons_succ]
    refine wpAnyT_take (i := 14) (v := .pointer (some ⟨gp, 0, none⟩)) #[true, true, true, true, true, true, true, true, true, true, true, true, true, true, true, false, false, false, false, false] (by kernel_rfl) 167 rfl rfl (by kernel_rfl) (by kernel_rfl) (by kernel_rfl) (by kernel_rfl) (by kernel_rfl) (fun _ _ _ h => h) (.inl ⟨rfl, fun _ _ => by unfold execOp; simp [go_sem]⟩) dp ?_
    try simp only [List.setIfInBounds_toArray, List.set_cons_zero, List.set_cons_succ]
    refine wpAnyT_take (i := 15) (v := .pointer (some ⟨gp, 2, none⟩)) #[true, true, true, true, true, true, true, true, true, true, true, true, true, true, true, true, false, false, false, false] (by kernel_rfl) 168 rfl rfl (by kernel_rfl) (by kernel_rfl) (by kernel_rfl) (by kernel_rfl) (by kernel_rfl) (fun _ _ _ h => h) (.inl ⟨rfl, fun _ _ => by unfold execOp; simp [go_sem]⟩) dp ?_
    try simp only [List.setIfInBounds_toArray, List.set_cons_zero, List.set_cons_succ]
    refine wpAnyT_take (i := 16) #[true, true, true, true, true, true, true, true, true, true, true, true, true, true, true, true, true, false, false, false] (by kernel_rfl) 169 rfl rfl (by kernel_rfl) (by kernel_rfl) (by kernel_rfl) (by kernel_rfl) (by kernel_rfl) (fun _ _ _ h => h) (yields_cell 2 _ rfl rfl _ rfl _ (Try.underlying2) rfl (.int .i64 c) (fun w h => (h.cell 2).trans rfl)) dp ?_
    try simp only [List.setIfInBounds_toArray, List.set_cons_zero, List.set_cons_succ]
    refine wpAnyT_take (i := 17) (v := .agg #[.int .i64 a, .int .i64 a, .int .i64 c, .int .i64 c]) #[true, true, true, true, true, true, true, true, true, true, true, true, true, true, true, true, true, true, false, false] (by kernel_rfl) 170 rfl rfl (by kernel_rfl) (by kernel_rfl) (by kernel_rfl) (by kernel_rfl) (by kernel_rfl) (fun _ _ _ h => h) (.inl ⟨rfl, fun _ _ => by unfold execOp; simp [go_sem]⟩) dp ?_
    try simp only [List.setIfInBounds_toArray, List.set_cons_zero, List.set_cons_succ]
    refine wpAnyT_take (i := 18) (v := .pointer (some ⟨gp, 0, none⟩)) #[true, true, true, true, true, true, true, true, true, true, true, true, true, true, true, true, true, true, true, false] (by kernel_rfl) 171 rfl rfl (by kernel_rfl) (by kernel_rfl) (by kernel_rfl) (by kernel_rfl) (by kernel_rfl) (fun _ _ _ h => h) (.inl ⟨rfl, fun _ _ => by unfold execOp; simp [go_sem]⟩) dp ?_
    try simp only [List.setIfInBounds_toArray, List.set_cons_zero, List.set_cons_succ]
    refine rg_list (l := [19]) (by kernel_rfl) rfl ?_
    intro i hi
    obtain rfl := List.mem_singleton.1 hi
    refine rg_store #[true, true, true, true, true, true, true, true, true, true, true, true, true, true, true, true, true, true, true, true] (by kernel_rfl) rfl rfl (by kernel_rfl) 45 _ _ rfl (gp) (#[.int .i64 a, .int .i64 a, .int .i64 c, .int .i64 c]) rfl rfl 45 _ dp sz45 rfl (by simp [Value.oneCell']) ?_
    intro x2 hc hn
    replace dk := dk.chg hc (Blk.ne_ dk dp (by decide))
    replace hS := hS.far dp (by decide) (by decide) (by decide) hc
    replace dB := below_chg' dB hc hgp hBx
    replace hBx := Nat.le_trans hBx hc.size
    replace dp := hn
    clear hc hn
    refine ⟨fun h => absurd h (by decide), ?_⟩
    try simp only [List.setIfInBounds_toArray, List.set_cons_zero, List.set_cons_succ]
    refine wpAnyT_done (by kernel_rfl) ?_ _
    obtain ⟨vz, hvz⟩ : ∃ v, v = x2 := ⟨_, rfl⟩
    subst hvz
    have cg : vz.cell? ⟨gk, 0, none⟩ = some (.int .i64 tk) := dk.cell 0
    have fg := dk.frozen 0
    have hw1 : IntKind.i64.wrap ((tk : Int) + 1) = ((tk + 1 : Nat) : Int) := by rw [IntWalk.i64_in _ (by omega)]; omega
    go_upto_region 15 with fail
    (try rw [hw1])
    have hcw := (Chg.refl vz gk).set 0 (.int .i64 ((tk + 1 : Nat) : Int))
    replace dp := dp.chg hcw (Blk.ne_ dp dk (by decide))
    replace hS := hS.far dk (by decide) (by decide) (by decide) hcw
    replace dB := below_chg' dB hcw hgk hBx
    replace dk := dk.set_ 0 (.int .i64 ((tk + 1 : Nat) : Int))
    obtain ⟨vy, hvy⟩ : ∃ v, v = vz.setCell ⟨gk, 0, none⟩ (.int .i64 ((tk + 1 : Nat) : Int)) := ⟨_, rfl⟩
    have hvy2 := hvy
    (try push_cast at hvy2)
    rw [← hvy] at dp dk hS dB
    first | rw [← hvy] | rw [← hvy2]
    obtain ⟨mv, gv, hb1, hm1, hg1⟩ := hS
    have co : vy.cell? ⟨g, 2, none⟩ = some (.bool false) := hb1.cell 2
    clear hvy hvy2 cg fg hcw
    go_wp2
    go_ret
    exact ⟨rfl, dp, dk, ⟨mv, gv, hb1, hm1, hg1⟩, dB⟩

set_option maxHeartbeats 8000000 in
set_option maxRecDepth 100000 in
theorem step_stop (bs gp g gk : Nat) (a b c d : Int) (tk n cc : Nat) (A : Option Addr) (ml : List (Int × Int)) (gl : List Int) (ha : a.natAbs ≤ 1000000000000000) (hb : b.natAbs ≤ 1000000000000000) (hc : c.natAbs ≤ 1000000000000000) (hd : d.natAbs ≤ 1000000000000000)
    (hml : ml.length ≤ 4000000) (hgl : gl.length ≤ 4000000) (hn : n ≤ 40) (htk : tk ≤ 41) (htn : n < tk) (hno : ¬ (alk [a, a + b] [c, c + d] = true ∧ 0 < tk)) (w : World) (hgp : bs ≤ gp) (hg : bs ≤ g) (hgk : bs ≤ gk) (dp : Blk w gp 45 #[.int .i64 a, .int .i64 b, .int .i64 c, .int .i64 d]) (dk : Blk w gk 3 #[.int .i64 tk]) (hS : St w 138 bs g ml gl false) :
    Calls Try.prog 149 #[.pointer (some ⟨gp, 0, none⟩), .pointer (some ⟨g, 0, none⟩), .slice A n cc, .pointer (some ⟨gk, 0, none⟩)] w fun e w' => e = .returned (.bool false) ∧ Blk w' gp 45 #[.int .i64 a, .int .i64 b, .int .i64 c, .int .i64 d] ∧ Blk w' gk 3 #[.int .i64 tk] ∧ St w' 138 bs g ml gl false ∧ Below bs w w' := by
  have hgv := fun v u w hv hu => gives_any v u [a, a + b] [c, c + d] (by simp) (by simp) rfl (by
    intro j hj
    match j, hj with
    | 0, _ => simp; omega
    | 1, _ => simp; omega
    | j + 2, hj => simp at hj; omega) w hv hu
  obtain ⟨V, hV⟩ : ∃ V, V = alkV [a, a + b] [c, c + d] := ⟨_, rfl⟩
  have hVb : V.natAbs ≤ 1000000000000001 := by
    rw [hV]
    unfold alkV
    by_cases h : alk [a, a + b] [c, c + d] = true
    · rw [if_pos h]
      have h0 := (alk_len 2 rfl h 0 (by decide)).1
      have := fl_abs a c (by simpa using h0)
      simp
      omega
    · rw [if_neg h]
      simp
  obtain ⟨K, hK⟩ : ∃ K, K = alk [a, a + b] [c, c + d] := ⟨_, rfl⟩
  rw [← hV, ← hK] at hgv
  rw [← hK] at hno
  have hno : K = true → tk = 0 := fun h => by
    have : ¬ 0 < tk := fun h2 => hno ⟨h, h2⟩
    omega
  have HNO := Lib.hid hno
  clear hV hK hno
  have hBx : bs ≤ w.heap.size := by have := dp.lt; omega
  have dB : Below bs w w := Below.refl _ _
  have hab : IntKind.i64.wrap (a + b) = a + b := IntWalk.i64_in _ (by omega)
  have hcd : IntKind.i64.wrap (c + d) = c + d := IntWalk.i64_in _ (by omega)
  have hneg : IntKind.i64.wrap (-V) = -V := IntWalk.i64_in _ (by omega)
  have HML := Lib.hid hml
  have HGL := Lib.hid hgl
  have HGV := Lib.hid hgv
  clear hgv hml hgl
  go_enter Try.func149, Try.ntmps149
  go_upto_region 1 with fail
  go_cut [9, 10] (fun p q wx => p = .int .i64 V ∧ q = .bool K ∧ Blk wx gp 45 #[.int .i64 a, .int .i64 b, .int .i64 c, .int .i64 d] ∧ Blk wx gk 3 #[.int .i64 tk] ∧ St wx 138 bs g ml gl false ∧ Below bs w wx ∧ bs ≤ wx.heap.size)
  case first =>
    refine rg_begin (fun w' => Blk w' (gp) 45 (#[.int .i64 a, .int .i64 b, .int .i64 c, .int .i64 d])) 34 34 #[false, false, false, false, false, false, false, false, false, false, false, false, false, false, false, false, false, false, false, false, false, false, false, false, false, false, false, false, false, false, false, false, false, false] rfl rfl rfl ?_
    intro x1 hb
    replace dp := dp.later hb
    replace dk := dk.later hb
    replace hS := hS.later hb
    replace dB := below_thenB dB hb hBx
    replace hBx := Nat.le_trans hBx hb.size
    clear hb
    refine wpAnyT_take (i := 0) (v := .pointer (some ⟨gp, 0, none⟩)) #[true, false, false, false, false, false, false, false, false, false, false, false, false, false, false, false, false, false, false, false, false, false, false, false, false, false, false, false, false, false, false, false, false, false] (by kernel_rfl) 13 rfl rfl (by kernel_rfl) (by kernel_rfl) (by kernel_rfl) (by kernel_rfl) (by kernel_rfl) (fun _ _ _ h => h) (.inl ⟨rfl, fun _ _ => by unfold execOp; simp [go_sem]⟩) dp ?_
    try simp only [List.setIfInBounds_toArray, List.set_cons_zero, List.set_cons_succ]
    refine wpAnyT_take (i := 1) (v := .pointer (some ⟨gp, 0, none⟩)) #[true, true, false, false, false, false, false, false, false, false, false, false, false, false, false, false, false, false, false, false, false, false, false, false, false, false, false, false, false, false, false, false, false, false] (by kernel_rfl) 14 rfl rfl (by kernel_rfl) (by kernel_rfl) (by kernel_rfl) (by kernel_rfl) (by kernel_rfl) (fun _ _ _ h => h) (.inl ⟨rfl, fun _ _ => by unfold execOp; simp [go_sem]⟩) dp ?_
    try simp only [List.setIfInBounds_toArray, List.set_cons_zero, List.set_cons_succ]
    refine wpAnyT_take (i := 2) (v := .pointer (some ⟨gp, 0, none⟩)) #[true, true, true, false, false, false, false, false, false, false, false, false, false, false, false, false, false, false, false, false, false, false, false, false, false, false, false, false, false, false, false, false, false, false] (by kernel_rfl) 15 rfl rfl (by kernel_rfl) (by kernel_rfl) (by kernel_rfl) (by kernel_rfl) (by kernel_rfl) (fun _ _ _ h => h) (.inl ⟨rfl, fun _ _ => by unfold execOp; simp [go_sem]⟩) dp ?_
    try simp only [List.setIfInBounds_toArray, List.set_cons_zero, List.set_cons_succ]
    refine wpAnyT_take (i := 3) #[true, true, true, true, false, false, false, false, false, false, false, false, false, false, false, false, false, false, false, false, false, false, false, false, false, false, false, false, false, false, false, false, false, false] (by kernel_rfl) 16 rfl rfl (by kernel_rfl) (by kernel_rfl) (by kernel_rfl) (by kernel_rfl) (by kernel_rfl) (fun _ _ _ h => h) (yields_cell 2 _ rfl rfl _ rfl _ (Try.underlying2) rfl (.int .i64 a) (fun w h => (h.cell 0).trans rfl)) dp ?_
    try simp only [List.setIfInBounds_toArray, List.set_cons_zero, List.set_cons_succ]
    refine wpAnyT_take (i := 4) (v := .pointer (some ⟨gp, 0, none⟩)) #[true, true, true, true, true, false, false, false, false, false, false, false, false, false, false, false, false, false, false, false, false, false, false, false, false, false, false, false, false, false, false, false, false, false] (by kernel_rfl) 17 rfl rfl (by kernel_rfl) (by kernel_rfl) (by kernel_rfl) (by kernel_rfl) (by kernel_rfl) (fun _ _ _ h => h) (.inl ⟨rfl, fun _ _ => by unfold execOp; simp [go_sem]⟩) dp ?_
    try simp only [List.setIfInBounds_toArray, List.set_cons_zero, List.set_cons_succ]
    refine wpAnyT_take (i := 5) (v := .pointer (some ⟨gp, 0, none⟩)) #[true, true, true, true, true, true, false, false, false, false, false, false, false, false, false, false, false, false, false, false, false, false, false, false, false, false, false, false, false, false, false, false, false, false] (by kernel_rfl) 18 rfl rfl (by kernel_rfl) (by kernel_rfl) (by kernel_rfl) (by kernel_rfl) (by kernel_rfl) (fun _ _ _ h => h) (.inl ⟨rfl, fun _ _ => by unfold execOp; simp [go_sem]⟩) dp ?_
    try simp only [List.setIfInBounds_toArray, List.set_cons_zero, List.set_cons_succ]
    refine wpAnyT_take (i := 6) (v := .pointer (some ⟨gp, 0, none⟩)) #[true, true, true, true, true, true, true, false, false, false, false, false, false, false, false, false, false, false, false, false, false, false, false, false, false, false, false, false, false, false, false, false, false, false] (by kernel_rfl) 19 rfl rfl (by kernel_rfl) (by kernel_rfl) (by kernel_rfl) (by kernel_rfl) (by kernel_rfl) (fun _ _ _ h => h) (.inl ⟨rfl, fun _ _ => by unfold execOp; simp [go_sem]⟩) dp ?_
    try simp only [List.setIfInBounds_toArray, List.set_cons_zero, List.set_cons_succ]
    refine wpAnyT_take (i := 7) #[true, true, true, true, true, true, true, true, false, false, false, false, false, false, false, false, false, false, false, false, false, false, false, false, false, false, false, false, false, false, false, false, false, false] (by kernel_rfl) 20 rfl rfl (by kernel_rfl) (by kernel_rfl) (by kernel_rfl) (by kernel_rfl) (by kernel_rfl) (fun _ _ _ h => h) (yields_cell 2 _ rfl rfl _ rfl _ (Try.underlying2) rfl (.int .i64 a) (fun w h => (h.cell 0).trans rfl)) dp ?_
    try simp only [List.setIfInBounds_toArray, List.set_cons_zero, List.set_cons_succ]
    refine wpAnyT_take (i := 8) (v := .pointer (some ⟨gp, 0, none⟩)) #[true, true, true, true, true, true, true, true, true, false, false, false, false, false, false, false, false, false, false, false, false, false, false, false, false, false, false, false, false, false, false, false, false, false] (by kernel_rfl) 21 rfl rfl (by kernel_rfl) (by kernel_rfl) (by kernel_rfl) (by kernel_rfl) (by kernel_rfl) (fun _ _ _ h => h) (.inl ⟨rfl, fun _ _ => by unfold execOp; simp [go_sem]⟩) dp ?_
    try simp only [List.setIfInBounds_toArray, List.set_cons_zero, List.set_cons_succ]
    refine wpAnyT_take (i := 9) (v := .pointer (some ⟨gp, 0, none⟩)) #[true, true, true, true, true, true, true, true, true, true, false, false, false, false, false, false, false, false, false, false, false, false, false, false, false, false, false, false, false, false, false, false, false, false] (by kernel_rfl) 22 rfl rfl (by kernel_rfl) (by kernel_rfl) (by kernel_rfl) (by kernel_rfl) (by kernel_rfl) (fun _ _ _ h => h) (.inl ⟨rfl, fun _ _ => by unfold execOp; simp [go_sem]⟩) dp ?_
    try simp only [List.setIfInBounds_toArray, List.set_cons_zero, List.set_cons_succ]
    refine wpAnyT_take (i := 10) (v := .pointer (some ⟨gp, 1, none⟩)) #[true, true, true, true, true, true, true, true, true, true, true, false, false, false, false, false, false, false, false, false, false, false, false, false, false, false, false, false, false, false, false, false, false, false] (by kernel_rfl) 23 rfl rfl (by kernel_rfl) (by kernel_rfl) (by kernel_rfl) (by kernel_rfl) (by kernel_rfl) (fun _ _ _ h => h) (.inl ⟨rfl, fun _ _ => by unfold execOp; simp [go_sem]⟩) dp ?_
    try simp only [List.setIfInBounds_toArray, List.set_cons_zero, List.set_cons_succ]
    refine wpAnyT_take (i := 11) #[true, true, true, true, true, true, true, true, true, true, true, true, false, false, false, false, false, false, false, false, false, false, false, false, false, false, false, false, false, false, false, false, false, false] (by kernel_rfl) 24 rfl rfl (by kernel_rfl) (by kernel_rfl) (by kernel_rfl) (by kernel_rfl) (by kernel_rfl) (fun _ _ _ h => h) (yields_cell 2 _ rfl rfl _ rfl _ (Try.underlying2) rfl (.int .i64 b) (fun w h => (h.cell 1).trans rfl)) dp ?_
    try simp only [List.setIfInBounds_toArray, List.set_cons_zero, List.set_cons_succ]
    refine wpAnyT_take (i := 12) (v := .int .i64 (a + b)) #[true, true, true, true, true, true, true, true, true, true, true, true, true, false, false, false, false, false, false, false, false, false, false, false, false, false, false, false, false, false, false, false, false, false] (by kernel_rfl) 25 rfl rfl (by kernel_rfl) (by kernel_rfl) (by kernel_rfl) (by kernel_rfl) (by kernel_rfl) (fun _ _ _ h => h) (.inl ⟨rfl, fun _ _ => by unfold execOp; simp [go_sem, hab]⟩) dp ?_
    try simp only [List.setIfInBounds_toArray, List.set_cons_zero, List.set_cons_succ]
    refine wpAnyT_take (i := 14) (v := .pointer (some ⟨gp, 0, none⟩)) #[true, true, true, true, true, true, true, true, true, true, true, true, true, false, true, false, false, false, false, false, false, false, false, false, false, false, false, false, false, false, false, false, false, false] (by kernel_rfl) 27 rfl rfl (by kernel_rfl) (by kernel_rfl) (by kernel_rfl) (by kernel_rfl) (by kernel_rfl) (fun _ _ _ h => h) (.inl ⟨rfl, fun _ _ => by unfold execOp; simp [go_sem]⟩) dp ?_
    try simp only [List.setIfInBounds_toArray, List.set_cons_zero, List.set_cons_succ]
    refine wpAnyT_take (i := 15) (v := .pointer (some ⟨gp, 0, none⟩)) #[true, true, true, true, true, true, true, true, true, true, true, true, true, false, true, true, false, false, false, false, false, false, false, false, false, false, false, false, false, false, false, false, false, false] (by kernel_rfl) 28 rfl rfl (by kernel_rfl) (by kernel_rfl) (by kernel_rfl) (by kernel_rfl) (by kernel_rfl) (fun _ _ _ h => h) (.inl ⟨rfl, fun _ _ => by unfold execOp; simp [go_sem]⟩) dp ?_
    try simp only [List.setIfInBounds_toArray, List.set_cons_zero, List.set_cons_succ]
    refine wpAnyT_take (i := 16) (v := .pointer (some ⟨gp, 2, none⟩)) #[true, true, true, true, true, true, true, true, true, true, true, true, true, false, true, true, true, false, false, false, false, false, false, false, false, false, false, false, false, false, false, false, false, false] (by kernel_rfl) 29 rfl rfl (by kernel_rfl) (by kernel_rfl) (by kernel_rfl) (by kernel_rfl) (by kernel_rfl) (fun _ _ _ h => h) (.inl ⟨rfl, fun _ _ => by unfold execOp; simp [go_sem]⟩) dp ?_
    try simp only [List.setIfInBounds_toArray, List.set_cons_zero, List.set_cons_succ]
    refine wpAnyT_take (i := 17) #[true, true, true, true, true, true, true, true, true, true, true, true, true, false, true, true, true, true, false, false, false, false, false, false, false, false, false, false, false, false, false, false, false, false] (by kernel_rfl) 30 rfl rfl (by kernel_rfl) (by kernel_rfl) (by kernel_rfl) (by kernel_rfl) (by kernel_rfl) (fun _ _ _ h => h) (yields_cell 2 _ rfl rfl _ rfl _ (Try.underlying2) rfl (.int .i64 c) (fun w h => (h.cell 2).trans rfl)) dp ?_
    try simp only [List.setIfInBounds_toArray, List.set_cons_zero, List.set_cons_succ]
    refine wpAnyT_take (i := 18) (v := .pointer (some ⟨gp, 0, none⟩)) #[true, true, true, true, true, true, true, true, true, true, true, true, true, false, true, true, true, true, true, false, false, false, false, false, false, false, false, false, false, false, false, false, false, false] (by kernel_rfl) 31 rfl rfl (by kernel_rfl) (by kernel_rfl) (by kernel_rfl) (by kernel_rfl) (by kernel_rfl) (fun _ _ _ h => h) (.inl ⟨rfl, fun _ _ => by unfold execOp; simp [go_sem]⟩) dp ?_
    try simp only [List.setIfInBounds_toArray, List.set_cons_zero, List.set_cons_succ]
    refine wpAnyT_take (i := 19) (v := .pointer (some ⟨gp, 0, none⟩)) #[true, true, true, true, true, true, true, true, true, true, true, true, true, false, true, true, true, true, true, true, false, false, false, false, false, false, false, false, false, false, false, false, false, false] (by kernel_rfl) 32 rfl rfl (by kernel_rfl) (by kernel_rfl) (by kernel_rfl) (by kernel_rfl) (by kernel_rfl) (fun _ _ _ h => h) (.inl ⟨rfl, fun _ _ => by unfold execOp; simp [go_sem]⟩) dp ?_
    try simp only [List.setIfInBounds_toArray, List.set_cons_zero, List.set_cons_succ]
    refine wpAnyT_take (i := 20) (v := .pointer (some ⟨gp, 2, none⟩)) #[true, true, true, true, true, true, true, true, true, true, true, true, true, false, true, true, true, true, true, true, true, false, false, false, false, false, false, false, false, false, false, false, false, false] (by kernel_rfl) 33 rfl rfl (by kernel_rfl) (by kernel_rfl) (by kernel_rfl) (by kernel_rfl) (by kernel_rfl) (fun _ _ _ h => h) (.inl ⟨rfl, fun _ _ => by unfold execOp; simp [go_sem]⟩) dp ?_
    try simp only [List.setIfInBounds_toArray, List.set_cons_zero, List.set_cons_succ]
    refine wpAnyT_take (i := 21) #[true, true, true, true, true, true, true, true, true, true, true, true, true, false, true, true, true, true, true, true, true, true, false, false, false, false, false, false, false, false, false, false, false, false] (by kernel_rfl) 34 rfl rfl (by kernel_rfl) (by kernel_rfl) (by kernel_rfl) (by kernel_rfl) (by kernel_rfl) (fun _ _ _ h => h) (yields_cell 2 _ rfl rfl _ rfl _ (Try.underlying2) rfl (.int .i64 c) (fun w h => (h.cell 2).trans rfl)) dp ?_
    try simp only [List.setIfInBounds_toArray, List.set_cons_zero, List.set_cons_succ]
    refine wpAnyT_take (i := 22) (v := .pointer (some ⟨gp, 0, none⟩)) #[true, true, true, true, true, true, true, true, true, true, true, true, true, false, true, true, true, true, true, true, true, true, true, false, false, false, false, false, false, false, false, false, false, false] (by kernel_rfl) 35 rfl rfl (by kernel_rfl) (by kernel_rfl) (by kernel_rfl) (by kernel_rfl) (by kernel_rfl) (fun _ _ _ h => h) (.inl ⟨rfl, fun _ _ => by unfold execOp; simp [go_sem]⟩) dp ?_
    try simp only [List.setIfInBounds_toArray, List.set_cons_zero, List.set_cons_succ]
    refine wpAnyT_take (i := 23) (v := .pointer (some ⟨gp, 0, none⟩)) #[true, true, true, true, true, true, true, true, true, true, true, true, true, false, true, true, true, true, true, true, true, true, true, true, false, false, false, false, false, false, false, false, false, false] (by kernel_rfl) 36 rfl rfl (by kernel_rfl) (by kernel_rfl) (by kernel_rfl) (by kernel_rfl) (by kernel_rfl) (fun _ _ _ h => h) (.inl ⟨rfl, fun _ _ => by unfold execOp; simp [go_sem]⟩) dp ?_
    try simp only [List.setIfInBounds_toArray, List.set_cons_zero, List.set_cons_succ]
    refine wpAnyT_take (i := 24) (v := .pointer (some ⟨gp, 3, none⟩)) #[true, true, true, true, true, true, true, true, true, true, true, true, true, false, true, true, true, true, true, true, true, true, true, true, true, false, false, false, false, false, false, false, false, false] (by kernel_rfl) 37 rfl rfl (by kernel_rfl) (by kernel_rfl) (by kernel_rfl) (by kernel_rfl) (by kernel_rfl) (fun _ _ _ h => h) (.inl ⟨rfl, fun _ _ => by unfold execOp; simp [go_sem]⟩) dp ?_
    try simp only [List.setIfInBounds_toArray, List.set_cons_zero, List.set_cons_succ]
    refine wpAnyT_take (i := 25) #[true, true, true, true, true, true, true, true, true, true, true, true, true, false, true, true, true, true, true, true, true, true, true, true, true, true, false, false, false, false, false, false, false, false] (by kernel_rfl) 38 rfl rfl (by kernel_rfl) (by kernel_rfl) (by kernel_rfl) (by kernel_rfl) (by kernel_rfl) (fun _ _ _ h => h) (yields_cell 2 _ rfl rfl _ rfl _ (Try.underlying2) rfl (.int .i64 d) (fun w h => (h.cell 3).trans rfl)) dp ?_
    try simp only [List.setIfInBounds_toArray, List.set_cons_zero, List.set_cons_succ]
    refine wpAnyT_take (i := 26) (v := .int .i64 (c + d)) #[true, true, true, true, true, true, true, true, true, true, true, true, true, false, true, true, true, true, true, true, true, true, true, true, true, true, true, false, false, false, false, false, false, false] (by kernel_rfl) 39 rfl rfl (by kernel_rfl) (by kernel_rfl) (by kernel_rfl) (by kernel_rfl) (by kernel_rfl) (fun _ _ _ h => h) (.inl ⟨rfl, fun _ _ => by unfold execOp; simp [go_sem, hcd]⟩) dp ?_
    try simp only [List.setIfInBounds_toArray, List.set_cons_zero, List.set_cons_succ]
    refine rg_list (l := [13, 27]) (by kernel_rfl) rfl ?_
    intro i hi
    simp only [List.mem_cons, List.not_mem_nil, or_false] at hi
    rcases hi with rfl | rfl
    · refine rg_slice #[true, true, true, true, true, true, true, true, true, true, true, true, true, true, true, true, true, true, true, true, true, true, true, true, true, true, true, false, false, false, false, false, false, false] (by kernel_rfl) 26 rfl rfl (by kernel_rfl) 2 2 (#[.int .i64 a, .int .i64 (a + b)]) (by kernel_rfl) ?_
      intro gx x2 hn hb
      replace dp := dp.later hb
      replace dk := dk.later hb
      replace hS := hS.later hb
      replace dB := below_thenB dB hb hBx
      replace hBx := Nat.le_trans hBx hb.size
      clear hb
      have dx := hn
      clear hn
      refine ⟨fun _ => dp, ?_⟩
      try simp only [List.setIfInBounds_toArray, List.set_cons_zero, List.set_cons_succ]
      refine rg_list (l := [27]) (by kernel_rfl) rfl ?_
      intro i hi
      obtain rfl := List.mem_singleton.1 hi
      refine rg_slice #[true, true, true, true, true, true, true, true, true, true, true, true, true, true, true, true, true, true, true, true, true, true, true, true, true, true, true, true, false, false, false, false, false, false] (by kernel_rfl) 40 rfl rfl (by kernel_rfl) 2 2 (#[.int .i64 c, .int .i64 (c + d)]) (by kernel_rfl) ?_
      intro gy x3 hn hb
      replace dp := dp.later hb
      replace dk := dk.later hb
      replace dx := dx.later hb
      replace hS := hS.later hb
      replace dB := below_thenB dB hb hBx
      replace hBx := Nat.le_trans hBx hb.size
      clear hb
      have dy := hn
      clear hn
      refine ⟨fun _ => dp, ?_⟩
      try simp only [List.setIfInBounds_toArray, List.set_cons_zero, List.set_cons_succ]
      refine rg_list (l := [28]) (by kernel_rfl) rfl ?_
      intro i hi
      obtain rfl := List.mem_singleton.1 hi
      refine rg_call #[true, true, true, true, true, true, true, true, true, true, true, true, true, true, true, true, true, true, true, true, true, true, true, true, true, true, true, true, true, false, false, false, false, false] (by kernel_rfl) 41 rfl rfl (by kernel_rfl) 163 #[.slice (some ⟨gx, 0, none⟩) 2 2, .slice (some ⟨gy, 0, none⟩) 2 2] (by kernel_rfl) (HGV.out _ _ _ (Rd.of_two dx) (Rd.of_two dy)) ?_
      intro x4 hw
      have hb := hw.below
      clear hw
      replace dp := dp.later hb
      replace dk := dk.later hb
      replace dx := dx.later hb
      replace dy := dy.later hb
      replace hS := hS.later hb
      replace dB := below_thenB dB hb hBx
      replace hBx := Nat.le_trans hBx hb.size
      clear hb
      refine ⟨fun _ => dp, ?_⟩
      try simp only [List.setIfInBounds_toArray, List.set_cons_zero, List.set_cons_succ]
      refine wpAnyT_take (i := 29) (v := .tuple #[.int .i64 V, .bool K]) #[true, true, true, true, true, true, true, true, true, true, true, true, true, true, true, true, true, true, true, true, true, true, true, true, true, true, true, true, true, true, false, false, false, false] (by kernel_rfl) 12 rfl rfl (by kernel_rfl) (by kernel_rfl) (by kernel_rfl) (by kernel_rfl) (by kernel_rfl) (fun _ _ _ h => h) (.inl ⟨rfl, fun _ _ => by unfold execOp; simp [go_sem]⟩) dp ?_
      try simp only [List.setIfInBounds_toArray, List.set_cons_zero, List.set_cons_succ]
      refine wpAnyT_take (i := 30) (v := .int .i64 V) #[true, true, true, true, true, true, true, true, true, true, true, true, true, true, true, true, true, true, true, true, true, true, true, true, true, true, true, true, true, true, true, false, false, false] (by kernel_rfl) 42 rfl rfl (by kernel_rfl) (by kernel_rfl) (by kernel_rfl) (by kernel_rfl) (by kernel_rfl) (fun _ _ _ h => h) (.inl ⟨rfl, fun _ _ => by unfold execOp; simp [go_sem]⟩) dp ?_
      try simp only [List.setIfInBounds_toArray, List.set_cons_zero, List.set_cons_succ]
      refine wpAnyT_take (i := 31) (v := .bool K) #[true, true, true, true, true, true, true, true, true, true, true, true, true, true, true, true, true, true, true, true, true, true, true, true, true, true, true, true, true, true, true, true, false, false] (by kernel_rfl) 43 rfl rfl (by kernel_rfl) (by kernel_rfl) (by kernel_rfl) (by kernel_rfl) (by kernel_rfl) (fun _ _ _ h => h) (.inl ⟨rfl, fun _ _ => by unfold execOp; simp [go_sem]⟩) dp ?_
      try simp only [List.setIfInBounds_toArray, List.set_cons_zero, List.set_cons_succ]
      refine wpAnyT_take (i := 32) (v := .int .i64 V) #[true, true, true, true, true, true, true, true, true, true, true, true, true, true, true, true, true, true, true, true, true, true, true, true, true, true, true, true, true, true, true, true, true, false] (by kernel_rfl) 9 rfl rfl (by kernel_rfl) (by kernel_rfl) (by kernel_rfl) (by kernel_rfl) (by kernel_rfl) (fun _ _ _ h => h) (.inl ⟨rfl, fun _ _ => by unfold execOp; simp [go_sem]⟩) dp ?_
      try simp only [List.setIfInBounds_toArray, List.set_cons_zero, List.set_cons_succ]
      refine wpAnyT_take (i := 33) (v := .bool K) #[true, true, true, true, true, true, true, true, true, true, true, true, true, true, true, true, true, true, true, true, true, true, true, true, true, true, true, true, true, true, true, true, true, true] (by kernel_rfl) 10 rfl rfl (by kernel_rfl) (by kernel_rfl) (by kernel_rfl) (by kernel_rfl) (by kernel_rfl) (fun _ _ _ h => h) (.inl ⟨rfl, fun _ _ => by unfold execOp; simp [go_sem]⟩) dp ?_
      try simp only [List.setIfInBounds_toArray, List.set_cons_zero, List.set_cons_succ]
      refine wpAnyT_done (by kernel_rfl) ?_ _
      go_wp2_with fail
      go_meet
      case rel => exact ⟨rfl, rfl, dp, dk, hS, dB, hBx⟩
    · refine rg_slice #[true, true, true, true, true, true, true, true, true, true, true, true, true, false, true, true, true, true, true, true, true, true, true, true, true, true, true, true, false, false, false, false, false, false] (by kernel_rfl) 40 rfl rfl (by kernel_rfl) 2 2 (#[.int .i64 c, .int .i64 (c + d)]) (by kernel_rfl) ?_
      intro gy x5 hn hb
      replace dp := dp.later hb
      replace dk := dk.later hb
      replace hS := hS.later hb
      replace dB := below_thenB dB hb hBx
      replace hBx := Nat.le_trans hBx hb.size
      clear hb
      have dy := hn
      clear hn
      refine ⟨fun _ => dp, ?_⟩
      try simp only [List.setIfInBounds_toArray, List.set_cons_zero, List.set_cons_succ]
      refine rg_list (l := [13]) (by kernel_rfl) rfl ?_
      intro i hi
      obtain rfl := List.mem_singleton.1 hi
      refine rg_slice #[true, true, true, true, true, true, true, true, true, true, true, true, true, true, true, true, true, true, true, true, true, true, true, true, true, true, true, true, false, false, false, false, false, false] (by kernel_rfl) 26 rfl rfl (by kernel_rfl) 2 2 (#[.int .i64 a, .int .i64 (a + b)]) (by kernel_rfl) ?_
      intro gx x6 hn hb
      replace dp := dp.later hb
      replace dk := dk.later hb
      replace dy := dy.later hb
      replace hS := hS.later hb
      replace dB := below_thenB dB hb hBx
      replace hBx := Nat.le_trans hBx hb.size
      clear hb
      have dx := hn
      clear hn
      refine ⟨fun _ => dp, ?_⟩
      try simp only [List.setIfInBounds_toArray, List.set_cons_zero, List.set_cons_succ]
      refine rg_list (l := [28]) (by kernel_rfl) rfl ?_
      intro i hi
      obtain rfl := List.mem_singleton.1 hi
      refine rg_call #[true, true, true, true, true, true, true, true, true, true, true, true, true, true, true, true, true, true, true, true, true, true, true, true, true, true, true, true, true, false, false, false, false, false] (by kernel_rfl) 41 rfl rfl (by kernel_rfl) 163 #[.slice (some ⟨gx, 0, none⟩) 2 2, .slice (some ⟨gy, 0, none⟩) 2 2] (by kernel_rfl) (HGV.out _ _ _ (Rd.of_two dx) (Rd.of_two dy)) ?_
      intro x7 hw
      have hb := hw.below
      clear hw
      replace dp := dp.later hb
      replace dk := dk.later hb
      replace dy := dy.later hb
      replace dx := dx.later hb
      replace hS := hS.later hb
      replace dB := below_thenB dB hb hBx
      replace hBx := Nat.le_trans hBx hb.size
      clear hb
      refine ⟨fun _ => dp, ?_⟩
      try simp only [List.setIfInBounds_toArray, List.set_cons_zero, List.set_cons_succ]
      refine wpAnyT_take (i := 29) (v := .tuple #[.int .i64 V, .bool K]) #[true, true, true, true, true, true, true, true, true, true, true, true, true, true, true, true, true, true, true, true, true, true, true, true, true, true, true, true, true, true, false, false, false, false] (by kernel_rfl) 12 rfl rfl (by kernel_rfl) (by kernel_rfl) (by kernel_rfl) (by kernel_rfl) (by kernel_rfl) (fun _ _ _ h => h) (.inl ⟨rfl, fun _ _ => by unfold execOp; simp [go_sem]⟩) dp ?_
      try simp only [List.setIfInBounds_toArray, List.set_cons_zero, List.set_cons_succ]
      refine wpAnyT_take (i := 30) (v := .int .i64 V) #[true, true, true, true, true, true, true, true, true, true, true, true, true, true, true, true, true, true, true, true, true, true, true, true, true, true, true, true, true, true, true, false, false, false] (by kernel_rfl) 42 rfl rfl (by kernel_rfl) (by kernel_rfl) (by kernel_rfl) (by kernel_rfl) (by kernel_rfl) (fun _ _ _ h => h) (.inl ⟨rfl, fun _ _ => by unfold execOp; simp [go_sem]⟩) dp ?_
      try simp only [List.setIfInBounds_toArray, List.set_cons_zero, List.set_cons_succ]
      refine wpAnyT_take (i := 31) (v := .bool K) #[true, true, true, true, true, true, true, true, true, true, true, true, true, true, true, true, true, true, true, true, true, true, true, true, true, true, true, true, true, true, true, true, false, false] (by kernel_rfl) 43 rfl rfl (by kernel_rfl) (by kernel_rfl) (by kernel_rfl) (by kernel_rfl) (by kernel_rfl) (fun _ _ _ h => h) (.inl ⟨rfl, fun _ _ => by unfold execOp; simp [go_sem]⟩) dp ?_
      try simp only [List.setIfInBounds_toArray, List.set_cons_zero, List.set_cons_succ]
      refine wpAnyT_take (i := 32) (v := .int .i64 V) #[true, true, true, true, true, true, true, true, true, true, true, true, true, true, true, true, true, true, true, true, true, true, true, true, true, true, true, true, true, true, true, true, true, false] (by kernel_rfl) 9 rfl rfl (by kernel_rfl) (by kernel_rfl) (by kernel_rfl) (by kernel_rfl) (by kernel_rfl) (fun _ _ _ h => h) (.inl ⟨rfl, fun _ _ => by unfold execOp; simp [go_sem]⟩) dp ?_
      try simp only [List.setIfInBounds_toArray, List.set_cons_zero, List.set_cons_succ]
      refine wpAnyT_take (i := 33) (v := .bool K) #[true, true, true, true, true, true, true, true, true, true, true, true, true, true, true, true, true, true, true, true, true, true, true, true, true, true, true, true, true, true, true, true, true, true] (by kernel_rfl) 10 rfl rfl (by kernel_rfl) (by kernel_rfl) (by kernel_rfl) (by kernel_rfl) (by kernel_rfl) (fun _ _ _ h => h) (.inl ⟨rfl, fun _ _ => by unfold execOp; simp [go_sem]⟩) dp ?_
      try simp only [List.setIfInBounds_toArray, List.set_cons_zero, List.set_cons_succ]
      refine wpAnyT_done (by kernel_rfl) ?_ _
      go_wp2_with fail
      go_meet
      case rel => exact ⟨rfl, rfl, dp, dk, hS, dB, hBx⟩
  case rest =>
    clear dp dk hS dB hBx
    obtain ⟨rfl, rfl, dp, dk, hS, dB, hBx⟩ := hcut
    obtain ⟨v1, hv1⟩ : ∃ v, v = wc := ⟨_, rfl⟩
    subst hv1
    have ck := dk.cell 0
    have ck : v1.cell? ⟨gk, 0, none⟩ = some (.int .i64 tk) := ck
    go_upto_region 3 with fail
    go_cut [44] (fun q wx => q = .bool false ∧ wx = v1)
    case first =>
      have hno := HNO.out
      clear HNO
      cases K
      · go_wp2_with fail
        go_meet
        case rel => exact ⟨rfl, rfl⟩
      · obtain rfl := hno rfl
        go_wp2_with fail
        go_meet
        case rel => exact ⟨rfl, rfl⟩
    case rest =>
    obtain ⟨rfl, hwc⟩ := hcut
    obtain rfl := hwc
    obtain ⟨v2, hv2⟩ : ∃ v, v = wc := ⟨_, rfl⟩
    subst hv2
    have hb0 : ((tk : Int) == (n : Int)) = false := beq_false_of_ne (by omega)
    go_wp2
    go_ret
    exact ⟨rfl, dp, dk, hS, dB⟩
end Go.Proofs.Ytcfaammnkbkfcaa
