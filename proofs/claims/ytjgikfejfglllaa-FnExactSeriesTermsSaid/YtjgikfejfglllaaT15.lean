/- The sum of a series: the reference's. -/
import Derived.Test.YtjgikfejfglllaaT14
import Derived.Test.YtjgikfejfglllaaT10
import Derived.IntWalk
import Derived.Maps.RangeWalk
import Derived.Deep.DeepCutAuto
import Derived.Deep.Light
import Derived.Test.YtjgikfejfglllaaT5
set_option linter.unusedVariables false
set_option linter.unusedSimpArgs false
namespace Go.Proofs.Ytjgikfejfglllaa
open Go.RowKit


theorem refDivN (M N : Nat) (hM : M < pw 6) (hN : N < pw 6) (hN0 : 0 < N) (w : World) :
    Calls Try.prog 105 #[wdv false M, wdv false N] w fun e w' => e = .returned (.tuple #[wdv false (M / N), wdv false (M % N)]) ∧ Below w.heap.size w w' := refDiv_same false M N hM hN hN0 w

set_option maxHeartbeats 8000000 in
theorem sum_any (g T a b c d : Nat) (t : Bool) (n : Nat) (h1 : 2 ≤ b) (h2 : b ≤ 1000) (h3 : 1 ≤ a) (h4 : 2 * a ≤ b) (h5 : 1 ≤ c) (h6 : c ≤ 1000) (h7 : d ≤ 1000) (hn : n ≤ 64) (w : World) (hG : Blk w g T (serC a b c d t)) :
    Calls Try.prog 54 #[.pointer (some ⟨g, 0, none⟩), .int .i64 n] w fun e w' => ∃ (s : Bool) (M : Nat), M < pw 6 ∧ e = .returned (.tuple #[wdv s M, .int .i64 (stn a b (2 ^ (n + 10)))]) ∧ Below w.heap.size w w' := by
  have hst := stn_places a b hn
  obtain ⟨U0, hU0⟩ : ∃ U0, U0 = 2 ^ (n + 10) := ⟨_, rfl⟩
  have hUb : U0 < 2 ^ 75 := by rw [hU0]; exact Nat.pow_lt_pow_right (by omega) (by omega)
  have hp1 : (1 : Nat) < pw 6 := by decide
  have hup : ∀ w, Calls Try.prog 103 #[wdv false 1, .int .i64 ((n : Int) + 10)] w fun e w' => e = .returned (.tuple #[wdv false U0, .int .i64 0]) ∧ Below w.heap.size w w' := fun w => by
    have := refUp_fits false 1 (n + 10) hp1 (by omega) (by have : nb 1 = 1 := rfl; omega) w
    rw [Nat.one_mul, ← hU0, show ((n + 10 : Nat) : Int) = (n : Int) + 10 by simp] at this
    exact this
  rw [← hU0] at hst ⊢
  have HU0 := Lib.hid hU0
  have HUb := Lib.hid hUb
  clear hU0 hUb
  go_enter Try.func54, Try.ntmps54
  have dg := hG
  go_wp2_with fail
  refine (refOfN 1 (by decide) _).mono ?_
  rintro e w1 ⟨rfl, hb⟩
  have ng : Blk w1 (g) T (serC a b c d t) := ((dg.alloc _)).later hb
  have np : Blk w1 (w.heap.size) 32 (wcl false fun _ => 0) := ((Blk.newAt rfl 32 (wcl false fun _ => 0))).later hb
  have nB : Below w.heap.size w w1 := below_then (below_alloc (Below.refl w.heap.size w) _) hb
  have yw1_0 := hb.size
  try simp only [World.size_alloc, size_setRow] at yw1_0
  clear hb dg
  have dg := ng
  have zg_0 := dg.lt
  have dp := np
  have zp_0 := dp.lt
  have dB := nB
  clear ng np nB
  go_wp2_with fail
  refine (hup _).mono ?_
  rintro e w2 ⟨rfl, hb⟩
  have ng : Blk w2 (g) T (serC a b c d t) := (dg).later hb
  have np : Blk w2 (w.heap.size) 32 (wcl false fun _ => 0) := (dp).later hb
  have nB : Below w.heap.size w w2 := below_then dB hb
  have yw2_1 := hb.size
  try simp only [World.size_alloc, size_setRow] at yw2_1
  clear hb dg dp dB
  have dg := ng
  have zg_1 := dg.lt
  have dp := np
  have zp_1 := dp.lt
  have dB := nB
  clear ng np nB
  go_wp2_with (first
    | ((with_reducible change wpList _ _ _ (Oper.mk none (Op.store 32 (Operand.tmp 6) _) _ _ _ _ :: _) _ _); refine wpList_store_row rfl 32 _ _ rfl (w2.heap.size) (wcl false (lb U0)) rfl rfl 32 _ ((Blk.newAt rfl 32 (wcl false fun _ => 0))) sz32 rfl (wcl_all _ _) ?_)
    | ((with_reducible change wpList _ _ _ (Oper.mk none (Op.store 32 (Operand.tmp 8) _) _ _ _ _ :: _) _ _); refine wpList_store_row rfl 32 _ _ rfl (w2.heap.size + 1) (wcl false fun _ => 0) rfl rfl 32 _ ((Blk.newAt (by simp [World.setRow]) 32 (wcl false fun _ => 0))) sz32 rfl (wcl_all _ _) ?_))
  go_loopg [9] (stn a b U0) (fun q i wr => ∃ (k U : Nat) (sn : Bool) (SM : Nat), k + stn a b U = stn a b U0 ∧ q = stn a b U ∧ U ≤ U0 ∧ SM < pw 6 ∧ i = .int .i64 k ∧ Blk wr g T (serC a b c d t) ∧ Blk wr (w.heap.size) 32 (wcl false fun _ => 0) ∧ Blk wr (w2.heap.size) 32 (wcl false (lb U)) ∧ Blk wr (w2.heap.size + 1) 32 (wcl sn (lb SM)) ∧ Below w.heap.size w wr)
  case atStart =>
    refine ⟨0, U0, false, 0, by omega, rfl, Nat.le_refl _, pw_pos 6, rfl, ((((dg.alloc _).row_far (by omega) _).alloc _).row_far (by omega) _), ((((dp.alloc _).row_far (by omega) _).alloc _).row_far (by omega) _), ((((Blk.newAt rfl 32 (wcl false fun _ => 0)).row (wcl false (lb U0))).alloc _).row_far (by omega) _), ?_, (below_row (below_alloc (below_row (below_alloc dB _) (by omega) _) _) (by omega) _)⟩
    rw [show lb 0 = fun _ => 0 from funext fun k => lb_zero k]
    exact ((Blk.newAt (by simp [World.setRow]) 32 (wcl false fun _ => 0)).row (wcl false fun _ => 0))
  case round =>
    clear dg dp hG dB
    obtain ⟨k, U, sn, SM, hk, hq, hU, hSM, rfl, dg, dp, du, ds, dB⟩ := hrel
    have yg := dg.lt
    have yp := dp.lt
    have yu := du.lt
    have ys := ds.lt
    have hUp : U < pw 6 := Nat.lt_of_le_of_lt (Nat.le_trans hU (Nat.le_of_lt HUb.out)) (by decide)
    have HK := Lib.hid hk
    have HQ := Lib.hid hq
    clear hk hq
    by_cases hU1 : U = 0
    · have hs : sgn false U = 0 := by simp [sgn, hU1]
      have hsg := refSign_any (w2.heap.size) 0 false U hUp wr (WAt.of_blk du)
      rw [hs] at hsg
      clear hs
      have HU1 := Lib.hid hU1
      clear hU1
      go_wp2_with (first
        | ((with_reducible change wpList _ _ _ (Oper.mk (some 80) (Op.load 32 _) _ _ _ _ :: _) _ _); refine wpList_load_row rfl 32 _ rfl (w2.heap.size + 1) rfl 32 _ _ _ (ds) Try.underlying32 rfl sz32 ?_)
        | ((with_reducible change wpList _ _ _ (Oper.mk none (Op.store 32 (Operand.tmp 4) _) _ _ _ _ :: _) _ _); refine wpList_store_row rfl 32 _ _ rfl (w.heap.size) (wcl sn (lb SM)) rfl rfl 32 _ (dp) sz32 rfl (wcl_all _ _) ?_)
        | (go_at_call 104; refine hsg.mono ?_; rintro e w' ⟨rfl, rfl⟩))
      refine bodyPost_ret (v := .tuple #[wdv sn SM, .int .i64 (stn a b U0)]) ((res_row_tmp Try.results54 rfl (dp.row (wcl sn (lb SM))) Try.underlying32 rfl sz32).trans ?_) rfl ⟨sn, SM, hSM, rfl, (below_row dB (by omega) _)⟩
      have h1 := HK.out
      rw [HU1.out, stn_zero, Nat.add_zero] at h1
      rw [← h1]
      rfl
    · have hs : sgn false U = 1 := by simp [sgn, hU1]
      have hsg := refSign_any (w2.heap.size) 0 false U hUp wr (WAt.of_blk du)
      rw [hs] at hsg
      clear hs
      go_upto_region 5 with (go_at_call 104; refine hsg.mono ?_; rintro e w' ⟨rfl, rfl⟩)
      obtain ⟨P, hP⟩ : ∃ P, P = d * k := ⟨_, rfl⟩
      obtain ⟨D, hD⟩ : ∃ D, D = c + P := ⟨_, rfl⟩
      have hk75 : k ≤ 75 := by have := HK.out; omega
      have hPb : P ≤ 75000 := by rw [hP]; exact Nat.le_trans (Nat.mul_le_mul h7 hk75) (by decide)
      have hm : IntKind.i64.wrap ((d : Int) * (k : Int)) = (P : Int) := by
        rw [hP, Int.natCast_mul]
        refine IntWalk.i64_in _ ?_
        have e : ((d * k : Nat) : Int) = (d : Int) * (k : Int) := Int.natCast_mul d k
        rw [← e, ← hP]
        omega
      have ha : IntKind.i64.wrap ((c : Int) + (P : Int)) = (D : Int) := by
        rw [hD, Int.natCast_add]
        exact IntWalk.i64_in _ (by omega)
      have hDb : D ≤ 76000 := by omega
      have hD0 : 0 < D := by omega
      have hDp : D < pw 6 := Nat.lt_of_le_of_lt hDb (by decide)
      clear hP hD
      go_cut [10] (fun p wx => ∃ G, p = .pointer (some ⟨G, 0, none⟩) ∧ w2.heap.size + 1 < G ∧ Blk wx g T (serC a b c d t) ∧ Blk wx (w.heap.size) 32 (wcl false fun _ => 0) ∧ Blk wx (w2.heap.size) 32 (wcl false (lb U)) ∧ Blk wx (w2.heap.size + 1) 32 (wcl sn (lb SM)) ∧ Blk wx G 32 (wcl false (lb (U / D))) ∧ Below w.heap.size w wx)
      case first =>
        refine rg_begin ( fun w' => Blk w' (w2.heap.size) 32 (wcl false (lb U)) ∧ Blk w' (g) T (serC a b c d t)) 21 21 #[false, false, false, false, false, false, false, false, false, false, false, false, false, false, false, false, false, false, false, false, false] rfl rfl rfl ?_
        intro x1 hb
        have ng : Blk x1 (g) T (serC a b c d t) := (dg).later hb
        have np : Blk x1 (w.heap.size) 32 (wcl false fun _ => 0) := (dp).later hb
        have nu : Blk x1 (w2.heap.size) 32 (wcl false (lb U)) := (du).later hb
        have ns : Blk x1 (w2.heap.size + 1) 32 (wcl sn (lb SM)) := (ds).later hb
        have nB : Below w.heap.size w x1 := below_then dB hb
        have yx1_2 := hb.size
        try simp only [World.size_alloc, size_setRow] at yx1_2
        clear hb dg dp du ds dB
        have dg := ng
        have zg_2 := dg.lt
        have dp := np
        have zp_2 := dp.lt
        have du := nu
        have zu_2 := du.lt
        have ds := ns
        have zs_2 := ds.lt
        have dB := nB
        clear ng np nu ns nB
        refine wpAnyT_take (i := 0) #[true, false, false, false, false, false, false, false, false, false, false, false, false, false, false, false, false, false, false, false, false] (by kernel_rfl) 25 rfl rfl (by kernel_rfl) (by kernel_rfl) (by kernel_rfl) (by kernel_rfl) (by kernel_rfl) (fun _ _ _ h => h) (yields_row 32 _ rfl rfl (w2.heap.size) rfl 32 _ _ (fun w h => h.1) Try.underlying32 rfl sz32) ⟨du, dg⟩ ?_
        try simp only [List.setIfInBounds_toArray, List.set_cons_zero, List.set_cons_succ]
        refine wpAnyT_take (i := 1) (v := .pointer (some ⟨g, 0, none⟩)) #[true, true, false, false, false, false, false, false, false, false, false, false, false, false, false, false, false, false, false, false, false] (by kernel_rfl) 26 rfl rfl (by kernel_rfl) (by kernel_rfl) (by kernel_rfl) (by kernel_rfl) (by kernel_rfl) (fun _ _ _ h => h) (.inl ⟨rfl, fun _ _ => by unfold execOp; simp [go_sem]⟩) ⟨du, dg⟩ ?_
        try simp only [List.setIfInBounds_toArray, List.set_cons_zero, List.set_cons_succ]
        refine wpAnyT_take (i := 2) (v := .pointer (some ⟨g, 0, none⟩)) #[true, true, true, false, false, false, false, false, false, false, false, false, false, false, false, false, false, false, false, false, false] (by kernel_rfl) 27 rfl rfl (by kernel_rfl) (by kernel_rfl) (by kernel_rfl) (by kernel_rfl) (by kernel_rfl) (fun _ _ _ h => h) (.inl ⟨rfl, fun _ _ => by unfold execOp; simp [go_sem]⟩) ⟨du, dg⟩ ?_
        try simp only [List.setIfInBounds_toArray, List.set_cons_zero, List.set_cons_succ]
        refine wpAnyT_take (i := 3) (v := .pointer (some ⟨g, 2, none⟩)) #[true, true, true, true, false, false, false, false, false, false, false, false, false, false, false, false, false, false, false, false, false] (by kernel_rfl) 28 rfl rfl (by kernel_rfl) (by kernel_rfl) (by kernel_rfl) (by kernel_rfl) (by kernel_rfl) (fun _ _ _ h => h) (.inl ⟨rfl, fun _ _ => by unfold execOp; simp [go_sem]⟩) ⟨du, dg⟩ ?_
        try simp only [List.setIfInBounds_toArray, List.set_cons_zero, List.set_cons_succ]
        refine wpAnyT_take (i := 4) #[true, true, true, true, true, false, false, false, false, false, false, false, false, false, false, false, false, false, false, false, false] (by kernel_rfl) 29 rfl rfl (by kernel_rfl) (by kernel_rfl) (by kernel_rfl) (by kernel_rfl) (by kernel_rfl) (fun _ _ _ h => h) (yields_cell 2 _ rfl rfl _ rfl _ (Try.underlying2) rfl (.int .i64 c) (fun w h => (h.2.cell 2).trans rfl)) ⟨du, dg⟩ ?_
        try simp only [List.setIfInBounds_toArray, List.set_cons_zero, List.set_cons_succ]
        refine wpAnyT_take (i := 5) (v := .pointer (some ⟨g, 0, none⟩)) #[true, true, true, true, true, true, false, false, false, false, false, false, false, false, false, false, false, false, false, false, false] (by kernel_rfl) 30 rfl rfl (by kernel_rfl) (by kernel_rfl) (by kernel_rfl) (by kernel_rfl) (by kernel_rfl) (fun _ _ _ h => h) (.inl ⟨rfl, fun _ _ => by unfold execOp; simp [go_sem]⟩) ⟨du, dg⟩ ?_
        try simp only [List.setIfInBounds_toArray, List.set_cons_zero, List.set_cons_succ]
        refine wpAnyT_take (i := 6) (v := .pointer (some ⟨g, 0, none⟩)) #[true, true, true, true, true, true, true, false, false, false, false, false, false, false, false, false, false, false, false, false, false] (by kernel_rfl) 31 rfl rfl (by kernel_rfl) (by kernel_rfl) (by kernel_rfl) (by kernel_rfl) (by kernel_rfl) (fun _ _ _ h => h) (.inl ⟨rfl, fun _ _ => by unfold execOp; simp [go_sem]⟩) ⟨du, dg⟩ ?_
        try simp only [List.setIfInBounds_toArray, List.set_cons_zero, List.set_cons_succ]
        refine wpAnyT_take (i := 7) (v := .pointer (some ⟨g, 3, none⟩)) #[true, true, true, true, true, true, true, true, false, false, false, false, false, false, false, false, false, false, false, false, false] (by kernel_rfl) 32 rfl rfl (by kernel_rfl) (by kernel_rfl) (by kernel_rfl) (by kernel_rfl) (by kernel_rfl) (fun _ _ _ h => h) (.inl ⟨rfl, fun _ _ => by unfold execOp; simp [go_sem]⟩) ⟨du, dg⟩ ?_
        try simp only [List.setIfInBounds_toArray, List.set_cons_zero, List.set_cons_succ]
        refine wpAnyT_take (i := 8) #[true, true, true, true, true, true, true, true, true, false, false, false, false, false, false, false, false, false, false, false, false] (by kernel_rfl) 33 rfl rfl (by kernel_rfl) (by kernel_rfl) (by kernel_rfl) (by kernel_rfl) (by kernel_rfl) (fun _ _ _ h => h) (yields_cell 2 _ rfl rfl _ rfl _ (Try.underlying2) rfl (.int .i64 d) (fun w h => (h.2.cell 3).trans rfl)) ⟨du, dg⟩ ?_
        try simp only [List.setIfInBounds_toArray, List.set_cons_zero, List.set_cons_succ]
        refine wpAnyT_take (i := 9) (v := .int .i64 k) #[true, true, true, true, true, true, true, true, true, true, false, false, false, false, false, false, false, false, false, false, false] (by kernel_rfl) 34 rfl rfl (by kernel_rfl) (by kernel_rfl) (by kernel_rfl) (by kernel_rfl) (by kernel_rfl) (fun _ _ _ h => h) (.inl ⟨rfl, fun _ _ => by unfold execOp; simp [go_sem]⟩) ⟨du, dg⟩ ?_
        try simp only [List.setIfInBounds_toArray, List.set_cons_zero, List.set_cons_succ]
        refine wpAnyT_take (i := 10) (v := .int .i64 P) #[true, true, true, true, true, true, true, true, true, true, true, false, false, false, false, false, false, false, false, false, false] (by kernel_rfl) 35 rfl rfl (by kernel_rfl) (by kernel_rfl) (by kernel_rfl) (by kernel_rfl) (by kernel_rfl) (fun _ _ _ h => h) (.inl ⟨rfl, fun _ _ => by unfold execOp; simp [go_sem, hm]⟩) ⟨du, dg⟩ ?_
        try simp only [List.setIfInBounds_toArray, List.set_cons_zero, List.set_cons_succ]
        refine wpAnyT_take (i := 11) (v := .int .i64 D) #[true, true, true, true, true, true, true, true, true, true, true, true, false, false, false, false, false, false, false, false, false] (by kernel_rfl) 36 rfl rfl (by kernel_rfl) (by kernel_rfl) (by kernel_rfl) (by kernel_rfl) (by kernel_rfl) (fun _ _ _ h => h) (.inl ⟨rfl, fun _ _ => by unfold execOp; simp [go_sem, ha]⟩) ⟨du, dg⟩ ?_
        try simp only [List.setIfInBounds_toArray, List.set_cons_zero, List.set_cons_succ]
        refine rg_list (l := [12, 17, 18]) (by kernel_rfl) rfl ?_
        intro i hi
        simp only [List.mem_cons, List.not_mem_nil, or_false] at hi
        rcases hi with rfl | rfl | rfl
        · refine rg_call #[true, true, true, true, true, true, true, true, true, true, true, true, true, false, false, false, false, false, false, false, false] (by kernel_rfl) 37 rfl rfl (by kernel_rfl) 71 #[.int .i64 D] (by kernel_rfl) (refOfN D (by omega) _) ?_
          intro x2 hb
          have ng : Blk x2 (g) T (serC a b c d t) := (dg).later hb
          have np : Blk x2 (w.heap.size) 32 (wcl false fun _ => 0) := (dp).later hb
          have nu : Blk x2 (w2.heap.size) 32 (wcl false (lb U)) := (du).later hb
          have ns : Blk x2 (w2.heap.size + 1) 32 (wcl sn (lb SM)) := (ds).later hb
          have nB : Below w.heap.size w x2 := below_then dB hb
          have yx2_3 := hb.size
          try simp only [World.size_alloc, size_setRow] at yx2_3
          clear hb dg dp du ds dB
          have dg := ng
          have zg_3 := dg.lt
          have dp := np
          have zp_3 := dp.lt
          have du := nu
          have zu_3 := du.lt
          have ds := ns
          have zs_3 := ds.lt
          have dB := nB
          clear ng np nu ns nB
          refine ⟨fun _ => ⟨du, dg⟩, ?_⟩
          try simp only [List.setIfInBounds_toArray, List.set_cons_zero, List.set_cons_succ]
          refine rg_list (l := [13, 17, 18]) (by kernel_rfl) rfl ?_
          intro i hi
          simp only [List.mem_cons, List.not_mem_nil, or_false] at hi
          rcases hi with rfl | rfl | rfl
          · refine rg_call #[true, true, true, true, true, true, true, true, true, true, true, true, true, true, false, false, false, false, false, false, false] (by kernel_rfl) 38 rfl rfl (by kernel_rfl) 105 #[wdv false U, wdv false D] (by kernel_rfl) (refDivN U D hUp hDp hD0 _) ?_
            intro x3 hb
            have ng : Blk x3 (g) T (serC a b c d t) := (dg).later hb
            have np : Blk x3 (w.heap.size) 32 (wcl false fun _ => 0) := (dp).later hb
            have nu : Blk x3 (w2.heap.size) 32 (wcl false (lb U)) := (du).later hb
            have ns : Blk x3 (w2.heap.size + 1) 32 (wcl sn (lb SM)) := (ds).later hb
            have nB : Below w.heap.size w x3 := below_then dB hb
            have yx3_4 := hb.size
            try simp only [World.size_alloc, size_setRow] at yx3_4
            clear hb dg dp du ds dB
            have dg := ng
            have zg_4 := dg.lt
            have dp := np
            have zp_4 := dp.lt
            have du := nu
            have zu_4 := du.lt
            have ds := ns
            have zs_4 := ds.lt
            have dB := nB
            clear ng np nu ns nB
            refine ⟨fun _ => ⟨du, dg⟩, ?_⟩
            try simp only [List.setIfInBounds_toArray, List.set_cons_zero, List.set_cons_succ]
            refine wpAnyT_take (i := 14) (v := .tuple #[wdv false (U / D), wdv false (U % D)]) #[true, true, true, true, true, true, true, true, true, true, true, true, true, true, true, false, false, false, false, false, false] (by kernel_rfl) 24 rfl rfl (by kernel_rfl) (by kernel_rfl) (by kernel_rfl) (by kernel_rfl) (by kernel_rfl) (fun _ _ _ h => h) (.inl ⟨rfl, fun _ _ => by unfold execOp; simp [go_sem]⟩) ⟨du, dg⟩ ?_
            try simp only [List.setIfInBounds_toArray, List.set_cons_zero, List.set_cons_succ]
            refine wpAnyT_take (i := 15) (v := wdv false (U / D)) #[true, true, true, true, true, true, true, true, true, true, true, true, true, true, true, true, false, false, false, false, false] (by kernel_rfl) 39 rfl rfl (by kernel_rfl) (by kernel_rfl) (by kernel_rfl) (by kernel_rfl) (by kernel_rfl) (fun _ _ _ h => h) (.inl ⟨rfl, fun _ _ => by unfold execOp; simp [go_sem]⟩) ⟨du, dg⟩ ?_
            try simp only [List.setIfInBounds_toArray, List.set_cons_zero, List.set_cons_succ]
            refine wpAnyT_take (i := 16) (v := wdv false (U % D)) #[true, true, true, true, true, true, true, true, true, true, true, true, true, true, true, true, true, false, false, false, false] (by kernel_rfl) 40 rfl rfl (by kernel_rfl) (by kernel_rfl) (by kernel_rfl) (by kernel_rfl) (by kernel_rfl) (fun _ _ _ h => h) (.inl ⟨rfl, fun _ _ => by unfold execOp; simp [go_sem]⟩) ⟨du, dg⟩ ?_
            try simp only [List.setIfInBounds_toArray, List.set_cons_zero, List.set_cons_succ]
            refine rg_list (l := [17, 18]) (by kernel_rfl) rfl ?_
            intro i hi
            simp only [List.mem_cons, List.not_mem_nil, or_false] at hi
            rcases hi with rfl | rfl
            · refine rg_alloc #[true, true, true, true, true, true, true, true, true, true, true, true, true, true, true, true, true, true, false, false, false] (by kernel_rfl) 10 rfl rfl (by kernel_rfl) 32 (wcl false fun _ => 0) (by kernel_rfl) ?_
              intro x4 hn hb
              have ng : Blk x4 (g) T (serC a b c d t) := (dg).later hb
              have np : Blk x4 (w.heap.size) 32 (wcl false fun _ => 0) := (dp).later hb
              have nu : Blk x4 (w2.heap.size) 32 (wcl false (lb U)) := (du).later hb
              have ns : Blk x4 (w2.heap.size + 1) 32 (wcl sn (lb SM)) := (ds).later hb
              have nB : Below w.heap.size w x4 := below_then dB hb
              have yx4_5 := hb.size
              try simp only [World.size_alloc, size_setRow] at yx4_5
              clear dg dp du ds dB
              have dg := ng
              have zg_5 := dg.lt
              have dp := np
              have zp_5 := dp.lt
              have du := nu
              have zu_5 := du.lt
              have ds := ns
              have zs_5 := ds.lt
              have dB := nB
              clear ng np nu ns nB
              have dt := hn
              have zt_6 := hn.lt
              clear hn hb
              refine ⟨fun _ => ⟨du, dg⟩, ?_⟩
              try simp only [List.setIfInBounds_toArray, List.set_cons_zero, List.set_cons_succ]
              refine rg_list (l := [18]) (by kernel_rfl) rfl ?_
              intro i hi
              obtain rfl := List.mem_singleton.1 hi
              refine rg_alloc #[true, true, true, true, true, true, true, true, true, true, true, true, true, true, true, true, true, true, true, false, false] (by kernel_rfl) 11 rfl rfl (by kernel_rfl) 32 (wcl false fun _ => 0) (by kernel_rfl) ?_
              intro x5 hn hb
              have ng : Blk x5 (g) T (serC a b c d t) := (dg).later hb
              have np : Blk x5 (w.heap.size) 32 (wcl false fun _ => 0) := (dp).later hb
              have nu : Blk x5 (w2.heap.size) 32 (wcl false (lb U)) := (du).later hb
              have ns : Blk x5 (w2.heap.size + 1) 32 (wcl sn (lb SM)) := (ds).later hb
              have nt : Blk x5 (x3.heap.size) 32 (wcl false fun _ => 0) := (dt).later hb
              have nB : Below w.heap.size w x5 := below_then dB hb
              have yx5_6 := hb.size
              try simp only [World.size_alloc, size_setRow] at yx5_6
              clear dg dp du ds dt dB
              have dg := ng
              have zg_6 := dg.lt
              have dp := np
              have zp_6 := dp.lt
              have du := nu
              have zu_6 := du.lt
              have ds := ns
              have zs_6 := ds.lt
              have dt := nt
              have zt_6 := dt.lt
              have dB := nB
              clear ng np nu ns nt nB
              have dr := hn
              have zr_7 := hn.lt
              clear hn hb
              refine ⟨fun _ => ⟨du, dg⟩, ?_⟩
              try simp only [List.setIfInBounds_toArray, List.set_cons_zero, List.set_cons_succ]
              refine rg_list (l := [19]) (by kernel_rfl) rfl ?_
              intro i hi
              obtain rfl := List.mem_singleton.1 hi
              refine rg_store #[true, true, true, true, true, true, true, true, true, true, true, true, true, true, true, true, true, true, true, true, false] (by kernel_rfl) rfl rfl (by kernel_rfl) 32 _ _ rfl (x3.heap.size) (wcl false (lb (U / D))) rfl rfl 32 _ dt sz32 rfl (wcl_all _ _) ?_
              intro x6 hc hn
              have nB := below_chg' dB hc (by omega) (by omega)
              have yyx6 := hc.size
              replace dg : Blk x6 (g) T (serC a b c d t) := dg.chg hc (by omega)
              replace dp : Blk x6 (w.heap.size) 32 (wcl false fun _ => 0) := dp.chg hc (by omega)
              replace du : Blk x6 (w2.heap.size) 32 (wcl false (lb U)) := du.chg hc (by omega)
              replace ds : Blk x6 (w2.heap.size + 1) 32 (wcl sn (lb SM)) := ds.chg hc (by omega)
              replace dr : Blk x6 (x4.heap.size) 32 (wcl false fun _ => 0) := dr.chg hc (by omega)
              replace dt : Blk x6 (x3.heap.size) 32 (wcl false (lb (U / D))) := hn
              have zg_8 := dg.lt
              have zp_8 := dp.lt
              have zu_8 := du.lt
              have zs_8 := ds.lt
              have zt_8 := dt.lt
              have zr_8 := dr.lt
              replace dB := nB
              clear nB
              clear hc hn
              refine ⟨fun _ => ⟨du, dg⟩, ?_⟩
              try simp only [List.setIfInBounds_toArray, List.set_cons_zero, List.set_cons_succ]
              refine rg_list (l := [20]) (by kernel_rfl) rfl ?_
              intro i hi
              obtain rfl := List.mem_singleton.1 hi
              refine rg_store #[true, true, true, true, true, true, true, true, true, true, true, true, true, true, true, true, true, true, true, true, true] (by kernel_rfl) rfl rfl (by kernel_rfl) 32 _ _ rfl (x4.heap.size) (wcl false (lb (U % D))) rfl rfl 32 _ dr sz32 rfl (wcl_all _ _) ?_
              intro x7 hc hn
              have nB := below_chg' dB hc (by omega) (by omega)
              have yyx7 := hc.size
              replace dg : Blk x7 (g) T (serC a b c d t) := dg.chg hc (by omega)
              replace dp : Blk x7 (w.heap.size) 32 (wcl false fun _ => 0) := dp.chg hc (by omega)
              replace du : Blk x7 (w2.heap.size) 32 (wcl false (lb U)) := du.chg hc (by omega)
              replace ds : Blk x7 (w2.heap.size + 1) 32 (wcl sn (lb SM)) := ds.chg hc (by omega)
              replace dt : Blk x7 (x3.heap.size) 32 (wcl false (lb (U / D))) := dt.chg hc (by omega)
              replace dr : Blk x7 (x4.heap.size) 32 (wcl false (lb (U % D))) := hn
              have zg_9 := dg.lt
              have zp_9 := dp.lt
              have zu_9 := du.lt
              have zs_9 := ds.lt
              have zt_9 := dt.lt
              have zr_9 := dr.lt
              replace dB := nB
              clear nB
              clear hc hn
              refine ⟨fun _ => ⟨du, dg⟩, ?_⟩
              try simp only [List.setIfInBounds_toArray, List.set_cons_zero, List.set_cons_succ]
              refine wpAnyT_done (by kernel_rfl) ?_ _
              go_wp2_with fail
              go_meet
              case rel => exact ⟨_, rfl, by omega, dg, dp, du, ds, dt, dB⟩
            · refine rg_alloc #[true, true, true, true, true, true, true, true, true, true, true, true, true, true, true, true, true, false, true, false, false] (by kernel_rfl) 11 rfl rfl (by kernel_rfl) 32 (wcl false fun _ => 0) (by kernel_rfl) ?_
              intro x8 hn hb
              have ng : Blk x8 (g) T (serC a b c d t) := (dg).later hb
              have np : Blk x8 (w.heap.size) 32 (wcl false fun _ => 0) := (dp).later hb
              have nu : Blk x8 (w2.heap.size) 32 (wcl false (lb U)) := (du).later hb
              have ns : Blk x8 (w2.heap.size + 1) 32 (wcl sn (lb SM)) := (ds).later hb
              have nB : Below w.heap.size w x8 := below_then dB hb
              have yx8_9 := hb.size
              try simp only [World.size_alloc, size_setRow] at yx8_9
              clear dg dp du ds dB
              have dg := ng
              have zg_9 := dg.lt
              have dp := np
              have zp_9 := dp.lt
              have du := nu
              have zu_9 := du.lt
              have ds := ns
              have zs_9 := ds.lt
              have dB := nB
              clear ng np nu ns nB
              have dr := hn
              have zr_10 := hn.lt
              clear hn hb
              refine ⟨fun _ => ⟨du, dg⟩, ?_⟩
              try simp only [List.setIfInBounds_toArray, List.set_cons_zero, List.set_cons_succ]
              refine rg_list (l := [17]) (by kernel_rfl) rfl ?_
              intro i hi
              obtain rfl := List.mem_singleton.1 hi
              refine rg_alloc #[true, true, true, true, true, true, true, true, true, true, true, true, true, true, true, true, true, true, true, false, false] (by kernel_rfl) 10 rfl rfl (by kernel_rfl) 32 (wcl false fun _ => 0) (by kernel_rfl) ?_
              intro x9 hn hb
              have ng : Blk x9 (g) T (serC a b c d t) := (dg).later hb
              have np : Blk x9 (w.heap.size) 32 (wcl false fun _ => 0) := (dp).later hb
              have nu : Blk x9 (w2.heap.size) 32 (wcl false (lb U)) := (du).later hb
              have ns : Blk x9 (w2.heap.size + 1) 32 (wcl sn (lb SM)) := (ds).later hb
              have nr : Blk x9 (x3.heap.size) 32 (wcl false fun _ => 0) := (dr).later hb
              have nB : Below w.heap.size w x9 := below_then dB hb
              have yx9_10 := hb.size
              try simp only [World.size_alloc, size_setRow] at yx9_10
              clear dg dp du ds dr dB
              have dg := ng
              have zg_10 := dg.lt
              have dp := np
              have zp_10 := dp.lt
              have du := nu
              have zu_10 := du.lt
              have ds := ns
              have zs_10 := ds.lt
              have dr := nr
              have zr_10 := dr.lt
              have dB := nB
              clear ng np nu ns nr nB
              have dt := hn
              have zt_11 := hn.lt
              clear hn hb
              refine ⟨fun _ => ⟨du, dg⟩, ?_⟩
              try simp only [List.setIfInBounds_toArray, List.set_cons_zero, List.set_cons_succ]
              refine rg_list (l := [19]) (by kernel_rfl) rfl ?_
              intro i hi
              obtain rfl := List.mem_singleton.1 hi
              refine rg_store #[true, true, true, true, true, true, true, true, true, true, true, true, true, true, true, true, true, true, true, true, false] (by kernel_rfl) rfl rfl (by kernel_rfl) 32 _ _ rfl (x8.heap.size) (wcl false (lb (U / D))) rfl rfl 32 _ dt sz32 rfl (wcl_all _ _) ?_
              intro x10 hc hn
              have nB := below_chg' dB hc (by omega) (by omega)
              have yyx10 := hc.size
              replace dg : Blk x10 (g) T (serC a b c d t) := dg.chg hc (by omega)
              replace dp : Blk x10 (w.heap.size) 32 (wcl false fun _ => 0) := dp.chg hc (by omega)
              replace du : Blk x10 (w2.heap.size) 32 (wcl false (lb U)) := du.chg hc (by omega)
              replace ds : Blk x10 (w2.heap.size + 1) 32 (wcl sn (lb SM)) := ds.chg hc (by omega)
              replace dr : Blk x10 (x3.heap.size) 32 (wcl false fun _ => 0) := dr.chg hc (by omega)
              replace dt : Blk x10 (x8.heap.size) 32 (wcl false (lb (U / D))) := hn
              have zg_12 := dg.lt
              have zp_12 := dp.lt
              have zu_12 := du.lt
              have zs_12 := ds.lt
              have zr_12 := dr.lt
              have zt_12 := dt.lt
              replace dB := nB
              clear nB
              clear hc hn
              refine ⟨fun _ => ⟨du, dg⟩, ?_⟩
              try simp only [List.setIfInBounds_toArray, List.set_cons_zero, List.set_cons_succ]
              refine rg_list (l := [20]) (by kernel_rfl) rfl ?_
              intro i hi
              obtain rfl := List.mem_singleton.1 hi
              refine rg_store #[true, true, true, true, true, true, true, true, true, true, true, true, true, true, true, true, true, true, true, true, true] (by kernel_rfl) rfl rfl (by kernel_rfl) 32 _ _ rfl (x3.heap.size) (wcl false (lb (U % D))) rfl rfl 32 _ dr sz32 rfl (wcl_all _ _) ?_
              intro x11 hc hn
              have nB := below_chg' dB hc (by omega) (by omega)
              have yyx11 := hc.size
              replace dg : Blk x11 (g) T (serC a b c d t) := dg.chg hc (by omega)
              replace dp : Blk x11 (w.heap.size) 32 (wcl false fun _ => 0) := dp.chg hc (by omega)
              replace du : Blk x11 (w2.heap.size) 32 (wcl false (lb U)) := du.chg hc (by omega)
              replace ds : Blk x11 (w2.heap.size + 1) 32 (wcl sn (lb SM)) := ds.chg hc (by omega)
              replace dt : Blk x11 (x8.heap.size) 32 (wcl false (lb (U / D))) := dt.chg hc (by omega)
              replace dr : Blk x11 (x3.heap.size) 32 (wcl false (lb (U % D))) := hn
              have zg_13 := dg.lt
              have zp_13 := dp.lt
              have zu_13 := du.lt
              have zs_13 := ds.lt
              have zr_13 := dr.lt
              have zt_13 := dt.lt
              replace dB := nB
              clear nB
              clear hc hn
              refine ⟨fun _ => ⟨du, dg⟩, ?_⟩
              try simp only [List.setIfInBounds_toArray, List.set_cons_zero, List.set_cons_succ]
              refine wpAnyT_done (by kernel_rfl) ?_ _
              go_wp2_with fail
              go_meet
              case rel => exact ⟨_, rfl, by omega, dg, dp, du, ds, dt, dB⟩
          · refine rg_alloc #[true, true, true, true, true, true, true, true, true, true, true, true, true, false, false, false, false, true, false, false, false] (by kernel_rfl) 10 rfl rfl (by kernel_rfl) 32 (wcl false fun _ => 0) (by kernel_rfl) ?_
            intro x12 hn hb
            have ng : Blk x12 (g) T (serC a b c d t) := (dg).later hb
            have np : Blk x12 (w.heap.size) 32 (wcl false fun _ => 0) := (dp).later hb
            have nu : Blk x12 (w2.heap.size) 32 (wcl false (lb U)) := (du).later hb
            have ns : Blk x12 (w2.heap.size + 1) 32 (wcl sn (lb SM)) := (ds).later hb
            have nB : Below w.heap.size w x12 := below_then dB hb
            have yx12_13 := hb.size
            try simp only [World.size_alloc, size_setRow] at yx12_13
            clear dg dp du ds dB
            have dg := ng
            have zg_13 := dg.lt
            have dp := np
            have zp_13 := dp.lt
            have du := nu
            have zu_13 := du.lt
            have ds := ns
            have zs_13 := ds.lt
            have dB := nB
            clear ng np nu ns nB
            have dt := hn
            have zt_14 := hn.lt
            clear hn hb
            refine ⟨fun _ => ⟨du, dg⟩, ?_⟩
            try simp only [List.setIfInBounds_toArray, List.set_cons_zero, List.set_cons_succ]
            refine rg_list (l := [13, 18]) (by kernel_rfl) rfl ?_
            intro i hi
            simp only [List.mem_cons, List.not_mem_nil, or_false] at hi
            rcases hi with rfl | rfl
            · refine rg_call #[true, true, true, true, true, true, true, true, true, true, true, true, true, true, false, false, false, true, false, false, false] (by kernel_rfl) 38 rfl rfl (by kernel_rfl) 105 #[wdv false U, wdv false D] (by kernel_rfl) (refDivN U D hUp hDp hD0 _) ?_
              intro x13 hb
              have ng : Blk x13 (g) T (serC a b c d t) := (dg).later hb
              have np : Blk x13 (w.heap.size) 32 (wcl false fun _ => 0) := (dp).later hb
              have nu : Blk x13 (w2.heap.size) 32 (wcl false (lb U)) := (du).later hb
              have ns : Blk x13 (w2.heap.size + 1) 32 (wcl sn (lb SM)) := (ds).later hb
              have nt : Blk x13 (x2.heap.size) 32 (wcl false fun _ => 0) := (dt).later hb
              have nB : Below w.heap.size w x13 := below_then dB hb
              have yx13_14 := hb.size
              try simp only [World.size_alloc, size_setRow] at yx13_14
              clear hb dg dp du ds dt dB
              have dg := ng
              have zg_14 := dg.lt
              have dp := np
              have zp_14 := dp.lt
              have du := nu
              have zu_14 := du.lt
              have ds := ns
              have zs_14 := ds.lt
              have dt := nt
              have zt_14 := dt.lt
              have dB := nB
              clear ng np nu ns nt nB
              refine ⟨fun _ => ⟨du, dg⟩, ?_⟩
              try simp only [List.setIfInBounds_toArray, List.set_cons_zero, List.set_cons_succ]
              refine wpAnyT_take (i := 14) (v := .tuple #[wdv false (U / D), wdv false (U % D)]) #[true, true, true, true, true, true, true, true, true, true, true, true, true, true, true, false, false, true, false, false, false] (by kernel_rfl) 24 rfl rfl (by kernel_rfl) (by kernel_rfl) (by kernel_rfl) (by kernel_rfl) (by kernel_rfl) (fun _ _ _ h => h) (.inl ⟨rfl, fun _ _ => by unfold execOp; simp [go_sem]⟩) ⟨du, dg⟩ ?_
              try simp only [List.setIfInBounds_toArray, List.set_cons_zero, List.set_cons_succ]
              refine wpAnyT_take (i := 15) (v := wdv false (U / D)) #[true, true, true, true, true, true, true, true, true, true, true, true, true, true, true, true, false, true, false, false, false] (by kernel_rfl) 39 rfl rfl (by kernel_rfl) (by kernel_rfl) (by kernel_rfl) (by kernel_rfl) (by kernel_rfl) (fun _ _ _ h => h) (.inl ⟨rfl, fun _ _ => by unfold execOp; simp [go_sem]⟩) ⟨du, dg⟩ ?_
              try simp only [List.setIfInBounds_toArray, List.set_cons_zero, List.set_cons_succ]
              refine wpAnyT_take (i := 16) (v := wdv false (U % D)) #[true, true, true, true, true, true, true, true, true, true, true, true, true, true, true, true, true, true, false, false, false] (by kernel_rfl) 40 rfl rfl (by kernel_rfl) (by kernel_rfl) (by kernel_rfl) (by kernel_rfl) (by kernel_rfl) (fun _ _ _ h => h) (.inl ⟨rfl, fun _ _ => by unfold execOp; simp [go_sem]⟩) ⟨du, dg⟩ ?_
              try simp only [List.setIfInBounds_toArray, List.set_cons_zero, List.set_cons_succ]
              refine rg_list (l := [18]) (by kernel_rfl) rfl ?_
              intro i hi
              obtain rfl := List.mem_singleton.1 hi
              refine rg_alloc #[true, true, true, true, true, true, true, true, true, true, true, true, true, true, true, true, true, true, true, false, false] (by kernel_rfl) 11 rfl rfl (by kernel_rfl) 32 (wcl false fun _ => 0) (by kernel_rfl) ?_
              intro x14 hn hb
              have ng : Blk x14 (g) T (serC a b c d t) := (dg).later hb
              have np : Blk x14 (w.heap.size) 32 (wcl false fun _ => 0) := (dp).later hb
              have nu : Blk x14 (w2.heap.size) 32 (wcl false (lb U)) := (du).later hb
              have ns : Blk x14 (w2.heap.size + 1) 32 (wcl sn (lb SM)) := (ds).later hb
              have nt : Blk x14 (x2.heap.size) 32 (wcl false fun _ => 0) := (dt).later hb
              have nB : Below w.heap.size w x14 := below_then dB hb
              have yx14_15 := hb.size
              try simp only [World.size_alloc, size_setRow] at yx14_15
              clear dg dp du ds dt dB
              have dg := ng
              have zg_15 := dg.lt
              have dp := np
              have zp_15 := dp.lt
              have du := nu
              have zu_15 := du.lt
              have ds := ns
              have zs_15 := ds.lt
              have dt := nt
              have zt_15 := dt.lt
              have dB := nB
              clear ng np nu ns nt nB
              have dr := hn
              have zr_16 := hn.lt
              clear hn hb
              refine ⟨fun _ => ⟨du, dg⟩, ?_⟩
              try simp only [List.setIfInBounds_toArray, List.set_cons_zero, List.set_cons_succ]
              refine rg_list (l := [19]) (by kernel_rfl) rfl ?_
              intro i hi
              obtain rfl := List.mem_singleton.1 hi
              refine rg_store #[true, true, true, true, true, true, true, true, true, true, true, true, true, true, true, true, true, true, true, true, false] (by kernel_rfl) rfl rfl (by kernel_rfl) 32 _ _ rfl (x2.heap.size) (wcl false (lb (U / D))) rfl rfl 32 _ dt sz32 rfl (wcl_all _ _) ?_
              intro x15 hc hn
              have nB := below_chg' dB hc (by omega) (by omega)
              have yyx15 := hc.size
              replace dg : Blk x15 (g) T (serC a b c d t) := dg.chg hc (by omega)
              replace dp : Blk x15 (w.heap.size) 32 (wcl false fun _ => 0) := dp.chg hc (by omega)
              replace du : Blk x15 (w2.heap.size) 32 (wcl false (lb U)) := du.chg hc (by omega)
              replace ds : Blk x15 (w2.heap.size + 1) 32 (wcl sn (lb SM)) := ds.chg hc (by omega)
              replace dr : Blk x15 (x13.heap.size) 32 (wcl false fun _ => 0) := dr.chg hc (by omega)
              replace dt : Blk x15 (x2.heap.size) 32 (wcl false (lb (U / D))) := hn
              have zg_17 := dg.lt
              have zp_17 := dp.lt
              have zu_17 := du.lt
              have zs_17 := ds.lt
              have zt_17 := dt.lt
              have zr_17 := dr.lt
              replace dB := nB
              clear nB
              clear hc hn
              refine ⟨fun _ => ⟨du, dg⟩, ?_⟩
              try simp only [List.setIfInBounds_toArray, List.set_cons_zero, List.set_cons_succ]
              refine rg_list (l := [20]) (by kernel_rfl) rfl ?_
              intro i hi
              obtain rfl := List.mem_singleton.1 hi
              refine rg_store #[true, true, true, true, true, true, true, true, true, true, true, true, true, true, true, true, true, true, true, true, true] (by kernel_rfl) rfl rfl (by kernel_rfl) 32 _ _ rfl (x13.heap.size) (wcl false (lb (U % D))) rfl rfl 32 _ dr sz32 rfl (wcl_all _ _) ?_
              intro x16 hc hn
              have nB := below_chg' dB hc (by omega) (by omega)
              have yyx16 := hc.size
              replace dg : Blk x16 (g) T (serC a b c d t) := dg.chg hc (by omega)
              replace dp : Blk x16 (w.heap.size) 32 (wcl false fun _ => 0) := dp.chg hc (by omega)
              replace du : Blk x16 (w2.heap.size) 32 (wcl false (lb U)) := du.chg hc (by omega)
              replace ds : Blk x16 (w2.heap.size + 1) 32 (wcl sn (lb SM)) := ds.chg hc (by omega)
              replace dt : Blk x16 (x2.heap.size) 32 (wcl false (lb (U / D))) := dt.chg hc (by omega)
              replace dr : Blk x16 (x13.heap.size) 32 (wcl false (lb (U % D))) := hn
              have zg_18 := dg.lt
              have zp_18 := dp.lt
              have zu_18 := du.lt
              have zs_18 := ds.lt
              have zt_18 := dt.lt
              have zr_18 := dr.lt
              replace dB := nB
              clear nB
              clear hc hn
              refine ⟨fun _ => ⟨du, dg⟩, ?_⟩
              try simp only [List.setIfInBounds_toArray, List.set_cons_zero, List.set_cons_succ]
              refine wpAnyT_done (by kernel_rfl) ?_ _
              go_wp2_with fail
              go_meet
              case rel => exact ⟨_, rfl, by omega, dg, dp, du, ds, dt, dB⟩
            · refine rg_alloc #[true, true, true, true, true, true, true, true, true, true, true, true, true, false, false, false, false, true, true, false, false] (by kernel_rfl) 11 rfl rfl (by kernel_rfl) 32 (wcl false fun _ => 0) (by kernel_rfl) ?_
              intro x17 hn hb
              have ng : Blk x17 (g) T (serC a b c d t) := (dg).later hb
              have np : Blk x17 (w.heap.size) 32 (wcl false fun _ => 0) := (dp).later hb
              have nu : Blk x17 (w2.heap.size) 32 (wcl false (lb U)) := (du).later hb
              have ns : Blk x17 (w2.heap.size + 1) 32 (wcl sn (lb SM)) := (ds).later hb
              have nt : Blk x17 (x2.heap.size) 32 (wcl false fun _ => 0) := (dt).later hb
              have nB : Below w.heap.size w x17 := below_then dB hb
              have yx17_18 := hb.size
              try simp only [World.size_alloc, size_setRow] at yx17_18
              clear dg dp du ds dt dB
              have dg := ng
              have zg_18 := dg.lt
              have dp := np
              have zp_18 := dp.lt
              have du := nu
              have zu_18 := du.lt
              have ds := ns
              have zs_18 := ds.lt
              have dt := nt
              have zt_18 := dt.lt
              have dB := nB
              clear ng np nu ns nt nB
              have dr := hn
              have zr_19 := hn.lt
              clear hn hb
              refine ⟨fun _ => ⟨du, dg⟩, ?_⟩
              try simp only [List.setIfInBounds_toArray, List.set_cons_zero, List.set_cons_succ]
              refine rg_list (l := [13]) (by kernel_rfl) rfl ?_
              intro i hi
              obtain rfl := List.mem_singleton.1 hi
              refine rg_call #[true, true, true, true, true, true, true, true, true, true, true, true, true, true, false, false, false, true, true, false, false] (by kernel_rfl) 38 rfl rfl (by kernel_rfl) 105 #[wdv false U, wdv false D] (by kernel_rfl) (refDivN U D hUp hDp hD0 _) ?_
              intro x18 hb
              have ng : Blk x18 (g) T (serC a b c d t) := (dg).later hb
              have np : Blk x18 (w.heap.size) 32 (wcl false fun _ => 0) := (dp).later hb
              have nu : Blk x18 (w2.heap.size) 32 (wcl false (lb U)) := (du).later hb
              have ns : Blk x18 (w2.heap.size + 1) 32 (wcl sn (lb SM)) := (ds).later hb
              have nt : Blk x18 (x2.heap.size) 32 (wcl false fun _ => 0) := (dt).later hb
              have nr : Blk x18 (x12.heap.size) 32 (wcl false fun _ => 0) := (dr).later hb
              have nB : Below w.heap.size w x18 := below_then dB hb
              have yx18_19 := hb.size
              try simp only [World.size_alloc, size_setRow] at yx18_19
              clear hb dg dp du ds dt dr dB
              have dg := ng
              have zg_19 := dg.lt
              have dp := np
              have zp_19 := dp.lt
              have du := nu
              have zu_19 := du.lt
              have ds := ns
              have zs_19 := ds.lt
              have dt := nt
              have zt_19 := dt.lt
              have dr := nr
              have zr_19 := dr.lt
              have dB := nB
              clear ng np nu ns nt nr nB
              refine ⟨fun _ => ⟨du, dg⟩, ?_⟩
              try simp only [List.setIfInBounds_toArray, List.set_cons_zero, List.set_cons_succ]
              refine wpAnyT_take (i := 14) (v := .tuple #[wdv false (U / D), wdv false (U % D)]) #[true, true, true, true, true, true, true, true, true, true, true, true, true, true, true, false, false, true, true, false, false] (by kernel_rfl) 24 rfl rfl (by kernel_rfl) (by kernel_rfl) (by kernel_rfl) (by kernel_rfl) (by kernel_rfl) (fun _ _ _ h => h) (.inl ⟨rfl, fun _ _ => by unfold execOp; simp [go_sem]⟩) ⟨du, dg⟩ ?_
              try simp only [List.setIfInBounds_toArray, List.set_cons_zero, List.set_cons_succ]
              refine wpAnyT_take (i := 15) (v := wdv false (U / D)) #[true, true, true, true, true, true, true, true, true, true, true, true, true, true, true, true, false, true, true, false, false] (by kernel_rfl) 39 rfl rfl (by kernel_rfl) (by kernel_rfl) (by kernel_rfl) (by kernel_rfl) (by kernel_rfl) (fun _ _ _ h => h) (.inl ⟨rfl, fun _ _ => by unfold execOp; simp [go_sem]⟩) ⟨du, dg⟩ ?_
              try simp only [List.setIfInBounds_toArray, List.set_cons_zero, List.set_cons_succ]
              refine wpAnyT_take (i := 16) (v := wdv false (U % D)) #[true, true, true, true, true, true, true, true, true, true, true, true, true, true, true, true, true, true, true, false, false] (by kernel_rfl) 40 rfl rfl (by kernel_rfl) (by kernel_rfl) (by kernel_rfl) (by kernel_rfl) (by kernel_rfl) (fun _ _ _ h => h) (.inl ⟨rfl, fun _ _ => by unfold execOp; simp [go_sem]⟩) ⟨du, dg⟩ ?_
              try simp only [List.setIfInBounds_toArray, List.set_cons_zero, List.set_cons_succ]
              refine rg_list (l := [19]) (by kernel_rfl) rfl ?_
              intro i hi
              obtain rfl := List.mem_singleton.1 hi
              refine rg_store #[true, true, true, true, true, true, true, true, true, true, true, true, true, true, true, true, true, true, true, true, false] (by kernel_rfl) rfl rfl (by kernel_rfl) 32 _ _ rfl (x2.heap.size) (wcl false (lb (U / D))) rfl rfl 32 _ dt sz32 rfl (wcl_all _ _) ?_
              intro x19 hc hn
              have nB := below_chg' dB hc (by omega) (by omega)
              have yyx19 := hc.size
              replace dg : Blk x19 (g) T (serC a b c d t) := dg.chg hc (by omega)
              replace dp : Blk x19 (w.heap.size) 32 (wcl false fun _ => 0) := dp.chg hc (by omega)
              replace du : Blk x19 (w2.heap.size) 32 (wcl false (lb U)) := du.chg hc (by omega)
              replace ds : Blk x19 (w2.heap.size + 1) 32 (wcl sn (lb SM)) := ds.chg hc (by omega)
              replace dr : Blk x19 (x12.heap.size) 32 (wcl false fun _ => 0) := dr.chg hc (by omega)
              replace dt : Blk x19 (x2.heap.size) 32 (wcl false (lb (U / D))) := hn
              have zg_21 := dg.lt
              have zp_21 := dp.lt
              have zu_21 := du.lt
              have zs_21 := ds.lt
              have zt_21 := dt.lt
              have zr_21 := dr.lt
              replace dB := nB
              clear nB
              clear hc hn
              refine ⟨fun _ => ⟨du, dg⟩, ?_⟩
              try simp only [List.setIfInBounds_toArray, List.set_cons_zero, List.set_cons_succ]
              refine rg_list (l := [20]) (by kernel_rfl) rfl ?_
              intro i hi
              obtain rfl := List.mem_singleton.1 hi
              refine rg_store #[true, true, true, true, true, true, true, true, true, true, true, true, true, true, true, true, true, true, true, true, true] (by kernel_rfl) rfl rfl (by kernel_rfl) 32 _ _ rfl (x12.heap.size) (wcl false (lb (U % D))) rfl rfl 32 _ dr sz32 rfl (wcl_all _ _) ?_
              intro x20 hc hn
              have nB := below_chg' dB hc (by omega) (by omega)
              have yyx20 := hc.size
              replace dg : Blk x20 (g) T (serC a b c d t) := dg.chg hc (by omega)
              replace dp : Blk x20 (w.heap.size) 32 (wcl false fun _ => 0) := dp.chg hc (by omega)
              replace du : Blk x20 (w2.heap.size) 32 (wcl false (lb U)) := du.chg hc (by omega)
              replace ds : Blk x20 (w2.heap.size + 1) 32 (wcl sn (lb SM)) := ds.chg hc (by omega)
              replace dt : Blk x20 (x2.heap.size) 32 (wcl false (lb (U / D))) := dt.chg hc (by omega)
              replace dr : Blk x20 (x12.heap.size) 32 (wcl false (lb (U % D))) := hn
              have zg_22 := dg.lt
              have zp_22 := dp.lt
              have zu_22 := du.lt
              have zs_22 := ds.lt
              have zt_22 := dt.lt
              have zr_22 := dr.lt
              replace dB := nB
              clear nB
              clear hc hn
              refine ⟨fun _ => ⟨du, dg⟩, ?_⟩
              try simp only [List.setIfInBounds_toArray, List.set_cons_zero, List.set_cons_succ]
              refine wpAnyT_done (by kernel_rfl) ?_ _
              go_wp2_with fail
              go_meet
              case rel => exact ⟨_, rfl, by omega, dg, dp, du, ds, dt, dB⟩
          · refine rg_alloc #[true, true, true, true, true, true, true, true, true, true, true, true, true, false, false, false, false, false, true, false, false] (by kernel_rfl) 11 rfl rfl (by kernel_rfl) 32 (wcl false fun _ => 0) (by kernel_rfl) ?_
            intro x21 hn hb
            have ng : Blk x21 (g) T (serC a b c d t) := (dg).later hb
            have np : Blk x21 (w.heap.size) 32 (wcl false fun _ => 0) := (dp).later hb
            have nu : Blk x21 (w2.heap.size) 32 (wcl false (lb U)) := (du).later hb
            have ns : Blk x21 (w2.heap.size + 1) 32 (wcl sn (lb SM)) := (ds).later hb
            have nB : Below w.heap.size w x21 := below_then dB hb
            have yx21_22 := hb.size
            try simp only [World.size_alloc, size_setRow] at yx21_22
            clear dg dp du ds dB
            have dg := ng
            have zg_22 := dg.lt
            have dp := np
            have zp_22 := dp.lt
            have du := nu
            have zu_22 := du.lt
            have ds := ns
            have zs_22 := ds.lt
            have dB := nB
            clear ng np nu ns nB
            have dr := hn
            have zr_23 := hn.lt
            clear hn hb
            refine ⟨fun _ => ⟨du, dg⟩, ?_⟩
            try simp only [List.setIfInBounds_toArray, List.set_cons_zero, List.set_cons_succ]
            refine rg_list (l := [13, 17]) (by kernel_rfl) rfl ?_
            intro i hi
            simp only [List.mem_cons, List.not_mem_nil, or_false] at hi
            rcases hi with rfl | rfl
            · refine rg_call #[true, true, true, true, true, true, true, true, true, true, true, true, true, true, false, false, false, false, true, false, false] (by kernel_rfl) 38 rfl rfl (by kernel_rfl) 105 #[wdv false U, wdv false D] (by kernel_rfl) (refDivN U D hUp hDp hD0 _) ?_
              intro x22 hb
              have ng : Blk x22 (g) T (serC a b c d t) := (dg).later hb
              have np : Blk x22 (w.heap.size) 32 (wcl false fun _ => 0) := (dp).later hb
              have nu : Blk x22 (w2.heap.size) 32 (wcl false (lb U)) := (du).later hb
              have ns : Blk x22 (w2.heap.size + 1) 32 (wcl sn (lb SM)) := (ds).later hb
              have nr : Blk x22 (x2.heap.size) 32 (wcl false fun _ => 0) := (dr).later hb
              have nB : Below w.heap.size w x22 := below_then dB hb
              have yx22_23 := hb.size
              try simp only [World.size_alloc, size_setRow] at yx22_23
              clear hb dg dp du ds dr dB
              have dg := ng
              have zg_23 := dg.lt
              have dp := np
              have zp_23 := dp.lt
              have du := nu
              have zu_23 := du.lt
              have ds := ns
              have zs_23 := ds.lt
              have dr := nr
              have zr_23 := dr.lt
              have dB := nB
              clear ng np nu ns nr nB
              refine ⟨fun _ => ⟨du, dg⟩, ?_⟩
              try simp only [List.setIfInBounds_toArray, List.set_cons_zero, List.set_cons_succ]
              refine wpAnyT_take (i := 14) (v := .tuple #[wdv false (U / D), wdv false (U % D)]) #[true, true, true, true, true, true, true, true, true, true, true, true, true, true, true, false, false, false, true, false, false] (by kernel_rfl) 24 rfl rfl (by kernel_rfl) (by kernel_rfl) (by kernel_rfl) (by kernel_rfl) (by kernel_rfl) (fun _ _ _ h => h) (.inl ⟨rfl, fun _ _ => by unfold execOp; simp [go_sem]⟩) ⟨du, dg⟩ ?_
              try simp only [List.setIfInBounds_toArray, List.set_cons_zero, List.set_cons_succ]
              refine wpAnyT_take (i := 15) (v := wdv false (U / D)) #[true, true, true, true, true, true, true, true, true, true, true, true, true, true, true, true, false, false, true, false, false] (by kernel_rfl) 39 rfl rfl (by kernel_rfl) (by kernel_rfl) (by kernel_rfl) (by kernel_rfl) (by kernel_rfl) (fun _ _ _ h => h) (.inl ⟨rfl, fun _ _ => by unfold execOp; simp [go_sem]⟩) ⟨du, dg⟩ ?_
              try simp only [List.setIfInBounds_toArray, List.set_cons_zero, List.set_cons_succ]
              refine wpAnyT_take (i := 16) (v := wdv false (U % D)) #[true, true, true, true, true, true, true, true, true, true, true, true, true, true, true, true, true, false, true, false, false] (by kernel_rfl) 40 rfl rfl (by kernel_rfl) (by kernel_rfl) (by kernel_rfl) (by kernel_rfl) (by kernel_rfl) (fun _ _ _ h => h) (.inl ⟨rfl, fun _ _ => by unfold execOp; simp [go_sem]⟩) ⟨du, dg⟩ ?_
              try simp only [List.setIfInBounds_toArray, List.set_cons_zero, List.set_cons_succ]
              refine rg_list (l := [17]) (by kernel_rfl) rfl ?_
              intro i hi
              obtain rfl := List.mem_singleton.1 hi
              refine rg_alloc #[true, true, true, true, true, true, true, true, true, true, true, true, true, true, true, true, true, true, true, false, false] (by kernel_rfl) 10 rfl rfl (by kernel_rfl) 32 (wcl false fun _ => 0) (by kernel_rfl) ?_
              intro x23 hn hb
              have ng : Blk x23 (g) T (serC a b c d t) := (dg).later hb
              have np : Blk x23 (w.heap.size) 32 (wcl false fun _ => 0) := (dp).later hb
              have nu : Blk x23 (w2.heap.size) 32 (wcl false (lb U)) := (du).later hb
              have ns : Blk x23 (w2.heap.size + 1) 32 (wcl sn (lb SM)) := (ds).later hb
              have nr : Blk x23 (x2.heap.size) 32 (wcl false fun _ => 0) := (dr).later hb
              have nB : Below w.heap.size w x23 := below_then dB hb
              have yx23_24 := hb.size
              try simp only [World.size_alloc, size_setRow] at yx23_24
              clear dg dp du ds dr dB
              have dg := ng
              have zg_24 := dg.lt
              have dp := np
              have zp_24 := dp.lt
              have du := nu
              have zu_24 := du.lt
              have ds := ns
              have zs_24 := ds.lt
              have dr := nr
              have zr_24 := dr.lt
              have dB := nB
              clear ng np nu ns nr nB
              have dt := hn
              have zt_25 := hn.lt
              clear hn hb
              refine ⟨fun _ => ⟨du, dg⟩, ?_⟩
              try simp only [List.setIfInBounds_toArray, List.set_cons_zero, List.set_cons_succ]
              refine rg_list (l := [19]) (by kernel_rfl) rfl ?_
              intro i hi
              obtain rfl := List.mem_singleton.1 hi
              refine rg_store #[true, true, true, true, true, true, true, true, true, true, true, true, true, true, true, true, true, true, true, true, false] (by kernel_rfl) rfl rfl (by kernel_rfl) 32 _ _ rfl (x22.heap.size) (wcl false (lb (U / D))) rfl rfl 32 _ dt sz32 rfl (wcl_all _ _) ?_
              intro x24 hc hn
              have nB := below_chg' dB hc (by omega) (by omega)
              have yyx24 := hc.size
              replace dg : Blk x24 (g) T (serC a b c d t) := dg.chg hc (by omega)
              replace dp : Blk x24 (w.heap.size) 32 (wcl false fun _ => 0) := dp.chg hc (by omega)
              replace du : Blk x24 (w2.heap.size) 32 (wcl false (lb U)) := du.chg hc (by omega)
              replace ds : Blk x24 (w2.heap.size + 1) 32 (wcl sn (lb SM)) := ds.chg hc (by omega)
              replace dr : Blk x24 (x2.heap.size) 32 (wcl false fun _ => 0) := dr.chg hc (by omega)
              replace dt : Blk x24 (x22.heap.size) 32 (wcl false (lb (U / D))) := hn
              have zg_26 := dg.lt
              have zp_26 := dp.lt
              have zu_26 := du.lt
              have zs_26 := ds.lt
              have zr_26 := dr.lt
              have zt_26 := dt.lt
              replace dB := nB
              clear nB
              clear hc hn
              refine ⟨fun _ => ⟨du, dg⟩, ?_⟩
              try simp only [List.setIfInBounds_toArray, List.set_cons_zero, List.set_cons_succ]
              refine rg_list (l := [20]) (by kernel_rfl) rfl ?_
              intro i hi
              obtain rfl := List.mem_singleton.1 hi
              refine rg_store #[true, true, true, true, true, true, true, true, true, true, true, true, true, true, true, true, true, true, true, true, true] (by kernel_rfl) rfl rfl (by kernel_rfl) 32 _ _ rfl (x2.heap.size) (wcl false (lb (U % D))) rfl rfl 32 _ dr sz32 rfl (wcl_all _ _) ?_
              intro x25 hc hn
              have nB := below_chg' dB hc (by omega) (by omega)
              have yyx25 := hc.size
              replace dg : Blk x25 (g) T (serC a b c d t) := dg.chg hc (by omega)
              replace dp : Blk x25 (w.heap.size) 32 (wcl false fun _ => 0) := dp.chg hc (by omega)
              replace du : Blk x25 (w2.heap.size) 32 (wcl false (lb U)) := du.chg hc (by omega)
              replace ds : Blk x25 (w2.heap.size + 1) 32 (wcl sn (lb SM)) := ds.chg hc (by omega)
              replace dt : Blk x25 (x22.heap.size) 32 (wcl false (lb (U / D))) := dt.chg hc (by omega)
              replace dr : Blk x25 (x2.heap.size) 32 (wcl false (lb (U % D))) := hn
              have zg_27 := dg.lt
              have zp_27 := dp.lt
              have zu_27 := du.lt
              have zs_27 := ds.lt
              have zr_27 := dr.lt
              have zt_27 := dt.lt
              replace dB := nB
              clear nB
              clear hc hn
              refine ⟨fun _ => ⟨du, dg⟩, ?_⟩
              try simp only [List.setIfInBounds_toArray, List.set_cons_zero, List.set_cons_succ]
              refine wpAnyT_done (by kernel_rfl) ?_ _
              go_wp2_with fail
              go_meet
              case rel => exact ⟨_, rfl, by omega, dg, dp, du, ds, dt, dB⟩
            · refine rg_alloc #[true, true, true, true, true, true, true, true, true, true, true, true, true, false, false, false, false, true, true, false, false] (by kernel_rfl) 10 rfl rfl (by kernel_rfl) 32 (wcl false fun _ => 0) (by kernel_rfl) ?_
              intro x26 hn hb
              have ng : Blk x26 (g) T (serC a b c d t) := (dg).later hb
              have np : Blk x26 (w.heap.size) 32 (wcl false fun _ => 0) := (dp).later hb
              have nu : Blk x26 (w2.heap.size) 32 (wcl false (lb U)) := (du).later hb
              have ns : Blk x26 (w2.heap.size + 1) 32 (wcl sn (lb SM)) := (ds).later hb
              have nr : Blk x26 (x2.heap.size) 32 (wcl false fun _ => 0) := (dr).later hb
              have nB : Below w.heap.size w x26 := below_then dB hb
              have yx26_27 := hb.size
              try simp only [World.size_alloc, size_setRow] at yx26_27
              clear dg dp du ds dr dB
              have dg := ng
              have zg_27 := dg.lt
              have dp := np
              have zp_27 := dp.lt
              have du := nu
              have zu_27 := du.lt
              have ds := ns
              have zs_27 := ds.lt
              have dr := nr
              have zr_27 := dr.lt
              have dB := nB
              clear ng np nu ns nr nB
              have dt := hn
              have zt_28 := hn.lt
              clear hn hb
              refine ⟨fun _ => ⟨du, dg⟩, ?_⟩
              try simp only [List.setIfInBounds_toArray, List.set_cons_zero, List.set_cons_succ]
              refine rg_list (l := [13]) (by kernel_rfl) rfl ?_
              intro i hi
              obtain rfl := List.mem_singleton.1 hi
              refine rg_call #[true, true, true, true, true, true, true, true, true, true, true, true, true, true, false, false, false, true, true, false, false] (by kernel_rfl) 38 rfl rfl (by kernel_rfl) 105 #[wdv false U, wdv false D] (by kernel_rfl) (refDivN U D hUp hDp hD0 _) ?_
              intro x27 hb
              have ng : Blk x27 (g) T (serC a b c d t) := (dg).later hb
              have np : Blk x27 (w.heap.size) 32 (wcl false fun _ => 0) := (dp).later hb
              have nu : Blk x27 (w2.heap.size) 32 (wcl false (lb U)) := (du).later hb
              have ns : Blk x27 (w2.heap.size + 1) 32 (wcl sn (lb SM)) := (ds).later hb
              have nr : Blk x27 (x2.heap.size) 32 (wcl false fun _ => 0) := (dr).later hb
              have nt : Blk x27 (x21.heap.size) 32 (wcl false fun _ => 0) := (dt).later hb
              have nB : Below w.heap.size w x27 := below_then dB hb
              have yx27_28 := hb.size
              try simp only [World.size_alloc, size_setRow] at yx27_28
              clear hb dg dp du ds dr dt dB
              have dg := ng
              have zg_28 := dg.lt
              have dp := np
              have zp_28 := dp.lt
              have du := nu
              have zu_28 := du.lt
              have ds := ns
              have zs_28 := ds.lt
              have dr := nr
              have zr_28 := dr.lt
              have dt := nt
              have zt_28 := dt.lt
              have dB := nB
              clear ng np nu ns nr nt nB
              refine ⟨fun _ => ⟨du, dg⟩, ?_⟩
              try simp only [List.setIfInBounds_toArray, List.set_cons_zero, List.set_cons_succ]
              refine wpAnyT_take (i := 14) (v := .tuple #[wdv false (U / D), wdv false (U % D)]) #[true, true, true, true, true, true, true, true, true, true, true, true, true, true, true, false, false, true, true, false, false] (by kernel_rfl) 24 rfl rfl (by kernel_rfl) (by kernel_rfl) (by kernel_rfl) (by kernel_rfl) (by kernel_rfl) (fun _ _ _ h => h) (.inl ⟨rfl, fun _ _ => by unfold execOp; simp [go_sem]⟩) ⟨du, dg⟩ ?_
              try simp only [List.setIfInBounds_toArray, List.set_cons_zero, List.set_cons_succ]
              refine wpAnyT_take (i := 15) (v := wdv false (U / D)) #[true, true, true, true, true, true, true, true, true, true, true, true, true, true, true, true, false, true, true, false, false] (by kernel_rfl) 39 rfl rfl (by kernel_rfl) (by kernel_rfl) (by kernel_rfl) (by kernel_rfl) (by kernel_rfl) (fun _ _ _ h => h) (.inl ⟨rfl, fun _ _ => by unfold execOp; simp [go_sem]⟩) ⟨du, dg⟩ ?_
              try simp only [List.setIfInBounds_toArray, List.set_cons_zero, List.set_cons_succ]
              refine wpAnyT_take (i := 16) (v := wdv false (U % D)) #[true, true, true, true, true, true, true, true, true, true, true, true, true, true, true, true, true, true, true, false, false] (by kernel_rfl) 40 rfl rfl (by kernel_rfl) (by kernel_rfl) (by kernel_rfl) (by kernel_rfl) (by kernel_rfl) (fun _ _ _ h => h) (.inl ⟨rfl, fun _ _ => by unfold execOp; simp [go_sem]⟩) ⟨du, dg⟩ ?_
              try simp only [List.setIfInBounds_toArray, List.set_cons_zero, List.set_cons_succ]
              refine rg_list (l := [19]) (by kernel_rfl) rfl ?_
              intro i hi
              obtain rfl := List.mem_singleton.1 hi
              refine rg_store #[true, true, true, true, true, true, true, true, true, true, true, true, true, true, true, true, true, true, true, true, false] (by kernel_rfl) rfl rfl (by kernel_rfl) 32 _ _ rfl (x21.heap.size) (wcl false (lb (U / D))) rfl rfl 32 _ dt sz32 rfl (wcl_all _ _) ?_
              intro x28 hc hn
              have nB := below_chg' dB hc (by omega) (by omega)
              have yyx28 := hc.size
              replace dg : Blk x28 (g) T (serC a b c d t) := dg.chg hc (by omega)
              replace dp : Blk x28 (w.heap.size) 32 (wcl false fun _ => 0) := dp.chg hc (by omega)
              replace du : Blk x28 (w2.heap.size) 32 (wcl false (lb U)) := du.chg hc (by omega)
              replace ds : Blk x28 (w2.heap.size + 1) 32 (wcl sn (lb SM)) := ds.chg hc (by omega)
              replace dr : Blk x28 (x2.heap.size) 32 (wcl false fun _ => 0) := dr.chg hc (by omega)
              replace dt : Blk x28 (x21.heap.size) 32 (wcl false (lb (U / D))) := hn
              have zg_30 := dg.lt
              have zp_30 := dp.lt
              have zu_30 := du.lt
              have zs_30 := ds.lt
              have zr_30 := dr.lt
              have zt_30 := dt.lt
              replace dB := nB
              clear nB
              clear hc hn
              refine ⟨fun _ => ⟨du, dg⟩, ?_⟩
              try simp only [List.setIfInBounds_toArray, List.set_cons_zero, List.set_cons_succ]
              refine rg_list (l := [20]) (by kernel_rfl) rfl ?_
              intro i hi
              obtain rfl := List.mem_singleton.1 hi
              refine rg_store #[true, true, true, true, true, true, true, true, true, true, true, true, true, true, true, true, true, true, true, true, true] (by kernel_rfl) rfl rfl (by kernel_rfl) 32 _ _ rfl (x2.heap.size) (wcl false (lb (U % D))) rfl rfl 32 _ dr sz32 rfl (wcl_all _ _) ?_
              intro x29 hc hn
              have nB := below_chg' dB hc (by omega) (by omega)
              have yyx29 := hc.size
              replace dg : Blk x29 (g) T (serC a b c d t) := dg.chg hc (by omega)
              replace dp : Blk x29 (w.heap.size) 32 (wcl false fun _ => 0) := dp.chg hc (by omega)
              replace du : Blk x29 (w2.heap.size) 32 (wcl false (lb U)) := du.chg hc (by omega)
              replace ds : Blk x29 (w2.heap.size + 1) 32 (wcl sn (lb SM)) := ds.chg hc (by omega)
              replace dt : Blk x29 (x21.heap.size) 32 (wcl false (lb (U / D))) := dt.chg hc (by omega)
              replace dr : Blk x29 (x2.heap.size) 32 (wcl false (lb (U % D))) := hn
              have zg_31 := dg.lt
              have zp_31 := dp.lt
              have zu_31 := du.lt
              have zs_31 := ds.lt
              have zr_31 := dr.lt
              have zt_31 := dt.lt
              replace dB := nB
              clear nB
              clear hc hn
              refine ⟨fun _ => ⟨du, dg⟩, ?_⟩
              try simp only [List.setIfInBounds_toArray, List.set_cons_zero, List.set_cons_succ]
              refine wpAnyT_done (by kernel_rfl) ?_ _
              go_wp2_with fail
              go_meet
              case rel => exact ⟨_, rfl, by omega, dg, dp, du, ds, dt, dB⟩
        · refine rg_alloc #[true, true, true, true, true, true, true, true, true, true, true, true, false, false, false, false, false, true, false, false, false] (by kernel_rfl) 10 rfl rfl (by kernel_rfl) 32 (wcl false fun _ => 0) (by kernel_rfl) ?_
          intro x30 hn hb
          have ng : Blk x30 (g) T (serC a b c d t) := (dg).later hb
          have np : Blk x30 (w.heap.size) 32 (wcl false fun _ => 0) := (dp).later hb
          have nu : Blk x30 (w2.heap.size) 32 (wcl false (lb U)) := (du).later hb
          have ns : Blk x30 (w2.heap.size + 1) 32 (wcl sn (lb SM)) := (ds).later hb
          have nB : Below w.heap.size w x30 := below_then dB hb
          have yx30_31 := hb.size
          try simp only [World.size_alloc, size_setRow] at yx30_31
          clear dg dp du ds dB
          have dg := ng
          have zg_31 := dg.lt
          have dp := np
          have zp_31 := dp.lt
          have du := nu
          have zu_31 := du.lt
          have ds := ns
          have zs_31 := ds.lt
          have dB := nB
          clear ng np nu ns nB
          have dt := hn
          have zt_32 := hn.lt
          clear hn hb
          refine ⟨fun _ => ⟨du, dg⟩, ?_⟩
          try simp only [List.setIfInBounds_toArray, List.set_cons_zero, List.set_cons_succ]
          refine rg_list (l := [12, 18]) (by kernel_rfl) rfl ?_
          intro i hi
          simp only [List.mem_cons, List.not_mem_nil, or_false] at hi
          rcases hi with rfl | rfl
          · refine rg_call #[true, true, true, true, true, true, true, true, true, true, true, true, true, false, false, false, false, true, false, false, false] (by kernel_rfl) 37 rfl rfl (by kernel_rfl) 71 #[.int .i64 D] (by kernel_rfl) (refOfN D (by omega) _) ?_
            intro x31 hb
            have ng : Blk x31 (g) T (serC a b c d t) := (dg).later hb
            have np : Blk x31 (w.heap.size) 32 (wcl false fun _ => 0) := (dp).later hb
            have nu : Blk x31 (w2.heap.size) 32 (wcl false (lb U)) := (du).later hb
            have ns : Blk x31 (w2.heap.size + 1) 32 (wcl sn (lb SM)) := (ds).later hb
            have nt : Blk x31 (x1.heap.size) 32 (wcl false fun _ => 0) := (dt).later hb
            have nB : Below w.heap.size w x31 := below_then dB hb
            have yx31_32 := hb.size
            try simp only [World.size_alloc, size_setRow] at yx31_32
            clear hb dg dp du ds dt dB
            have dg := ng
            have zg_32 := dg.lt
            have dp := np
            have zp_32 := dp.lt
            have du := nu
            have zu_32 := du.lt
            have ds := ns
            have zs_32 := ds.lt
            have dt := nt
            have zt_32 := dt.lt
            have dB := nB
            clear ng np nu ns nt nB
            refine ⟨fun _ => ⟨du, dg⟩, ?_⟩
            try simp only [List.setIfInBounds_toArray, List.set_cons_zero, List.set_cons_succ]
            refine rg_list (l := [13, 18]) (by kernel_rfl) rfl ?_
            intro i hi
            simp only [List.mem_cons, List.not_mem_nil, or_false] at hi
            rcases hi with rfl | rfl
            · refine rg_call #[true, true, true, true, true, true, true, true, true, true, true, true, true, true, false, false, false, true, false, false, false] (by kernel_rfl) 38 rfl rfl (by kernel_rfl) 105 #[wdv false U, wdv false D] (by kernel_rfl) (refDivN U D hUp hDp hD0 _) ?_
              intro x32 hb
              have ng : Blk x32 (g) T (serC a b c d t) := (dg).later hb
              have np : Blk x32 (w.heap.size) 32 (wcl false fun _ => 0) := (dp).later hb
              have nu : Blk x32 (w2.heap.size) 32 (wcl false (lb U)) := (du).later hb
              have ns : Blk x32 (w2.heap.size + 1) 32 (wcl sn (lb SM)) := (ds).later hb
              have nt : Blk x32 (x1.heap.size) 32 (wcl false fun _ => 0) := (dt).later hb
              have nB : Below w.heap.size w x32 := below_then dB hb
              have yx32_33 := hb.size
              try simp only [World.size_alloc, size_setRow] at yx32_33
              clear hb dg dp du ds dt dB
              have dg := ng
              have zg_33 := dg.lt
              have dp := np
              have zp_33 := dp.lt
              have du := nu
              have zu_33 := du.lt
              have ds := ns
              have zs_33 := ds.lt
              have dt := nt
              have zt_33 := dt.lt
              have dB := nB
              clear ng np nu ns nt nB
              refine ⟨fun _ => ⟨du, dg⟩, ?_⟩
              try simp only [List.setIfInBounds_toArray, List.set_cons_zero, List.set_cons_succ]
              refine wpAnyT_take (i := 14) (v := .tuple #[wdv false (U / D), wdv false (U % D)]) #[true, true, true, true, true, true, true, true, true, true, true, true, true, true, true, false, false, true, false, false, false] (by kernel_rfl) 24 rfl rfl (by kernel_rfl) (by kernel_rfl) (by kernel_rfl) (by kernel_rfl) (by kernel_rfl) (fun _ _ _ h => h) (.inl ⟨rfl, fun _ _ => by unfold execOp; simp [go_sem]⟩) ⟨du, dg⟩ ?_
              try simp only [List.setIfInBounds_toArray, List.set_cons_zero, List.set_cons_succ]
              refine wpAnyT_take (i := 15) (v := wdv false (U / D)) #[true, true, true, true, true, true, true, true, true, true, true, true, true, true, true, true, false, true, false, false, false] (by kernel_rfl) 39 rfl rfl (by kernel_rfl) (by kernel_rfl) (by kernel_rfl) (by kernel_rfl) (by kernel_rfl) (fun _ _ _ h => h) (.inl ⟨rfl, fun _ _ => by unfold execOp; simp [go_sem]⟩) ⟨du, dg⟩ ?_
              try simp only [List.setIfInBounds_toArray, List.set_cons_zero, List.set_cons_succ]
              refine wpAnyT_take (i := 16) (v := wdv false (U % D)) #[true, true, true, true, true, true, true, true, true, true, true, true, true, true, true, true, true, true, false, false, false] (by kernel_rfl) 40 rfl rfl (by kernel_rfl) (by kernel_rfl) (by kernel_rfl) (by kernel_rfl) (by kernel_rfl) (fun _ _ _ h => h) (.inl ⟨rfl, fun _ _ => by unfold execOp; simp [go_sem]⟩) ⟨du, dg⟩ ?_
              try simp only [List.setIfInBounds_toArray, List.set_cons_zero, List.set_cons_succ]
              refine rg_list (l := [18]) (by kernel_rfl) rfl ?_
              intro i hi
              obtain rfl := List.mem_singleton.1 hi
              refine rg_alloc #[true, true, true, true, true, true, true, true, true, true, true, true, true, true, true, true, true, true, true, false, false] (by kernel_rfl) 11 rfl rfl (by kernel_rfl) 32 (wcl false fun _ => 0) (by kernel_rfl) ?_
              intro x33 hn hb
              have ng : Blk x33 (g) T (serC a b c d t) := (dg).later hb
              have np : Blk x33 (w.heap.size) 32 (wcl false fun _ => 0) := (dp).later hb
              have nu : Blk x33 (w2.heap.size) 32 (wcl false (lb U)) := (du).later hb
              have ns : Blk x33 (w2.heap.size + 1) 32 (wcl sn (lb SM)) := (ds).later hb
              have nt : Blk x33 (x1.heap.size) 32 (wcl false fun _ => 0) := (dt).later hb
              have nB : Below w.heap.size w x33 := below_then dB hb
              have yx33_34 := hb.size
              try simp only [World.size_alloc, size_setRow] at yx33_34
              clear dg dp du ds dt dB
              have dg := ng
              have zg_34 := dg.lt
              have dp := np
              have zp_34 := dp.lt
              have du := nu
              have zu_34 := du.lt
              have ds := ns
              have zs_34 := ds.lt
              have dt := nt
              have zt_34 := dt.lt
              have dB := nB
              clear ng np nu ns nt nB
              have dr := hn
              have zr_35 := hn.lt
              clear hn hb
              refine ⟨fun _ => ⟨du, dg⟩, ?_⟩
              try simp only [List.setIfInBounds_toArray, List.set_cons_zero, List.set_cons_succ]
              refine rg_list (l := [19]) (by kernel_rfl) rfl ?_
              intro i hi
              obtain rfl := List.mem_singleton.1 hi
              refine rg_store #[true, true, true, true, true, true, true, true, true, true, true, true, true, true, true, true, true, true, true, true, false] (by kernel_rfl) rfl rfl (by kernel_rfl) 32 _ _ rfl (x1.heap.size) (wcl false (lb (U / D))) rfl rfl 32 _ dt sz32 rfl (wcl_all _ _) ?_
              intro x34 hc hn
              have nB := below_chg' dB hc (by omega) (by omega)
              have yyx34 := hc.size
              replace dg : Blk x34 (g) T (serC a b c d t) := dg.chg hc (by omega)
              replace dp : Blk x34 (w.heap.size) 32 (wcl false fun _ => 0) := dp.chg hc (by omega)
              replace du : Blk x34 (w2.heap.size) 32 (wcl false (lb U)) := du.chg hc (by omega)
              replace ds : Blk x34 (w2.heap.size + 1) 32 (wcl sn (lb SM)) := ds.chg hc (by omega)
              replace dr : Blk x34 (x32.heap.size) 32 (wcl false fun _ => 0) := dr.chg hc (by omega)
              replace dt : Blk x34 (x1.heap.size) 32 (wcl false (lb (U / D))) := hn
              have zg_36 := dg.lt
              have zp_36 := dp.lt
              have zu_36 := du.lt
              have zs_36 := ds.lt
              have zt_36 := dt.lt
              have zr_36 := dr.lt
              replace dB := nB
              clear nB
              clear hc hn
              refine ⟨fun _ => ⟨du, dg⟩, ?_⟩
              try simp only [List.setIfInBounds_toArray, List.set_cons_zero, List.set_cons_succ]
              refine rg_list (l := [20]) (by kernel_rfl) rfl ?_
              intro i hi
              obtain rfl := List.mem_singleton.1 hi
              refine rg_store #[true, true, true, true, true, true, true, true, true, true, true, true, true, true, true, true, true, true, true, true, true] (by kernel_rfl) rfl rfl (by kernel_rfl) 32 _ _ rfl (x32.heap.size) (wcl false (lb (U % D))) rfl rfl 32 _ dr sz32 rfl (wcl_all _ _) ?_
              intro x35 hc hn
              have nB := below_chg' dB hc (by omega) (by omega)
              have yyx35 := hc.size
              replace dg : Blk x35 (g) T (serC a b c d t) := dg.chg hc (by omega)
              replace dp : Blk x35 (w.heap.size) 32 (wcl false fun _ => 0) := dp.chg hc (by omega)
              replace du : Blk x35 (w2.heap.size) 32 (wcl false (lb U)) := du.chg hc (by omega)
              replace ds : Blk x35 (w2.heap.size + 1) 32 (wcl sn (lb SM)) := ds.chg hc (by omega)
              replace dt : Blk x35 (x1.heap.size) 32 (wcl false (lb (U / D))) := dt.chg hc (by omega)
              replace dr : Blk x35 (x32.heap.size) 32 (wcl false (lb (U % D))) := hn
              have zg_37 := dg.lt
              have zp_37 := dp.lt
              have zu_37 := du.lt
              have zs_37 := ds.lt
              have zt_37 := dt.lt
              have zr_37 := dr.lt
              replace dB := nB
              clear nB
              clear hc hn
              refine ⟨fun _ => ⟨du, dg⟩, ?_⟩
              try simp only [List.setIfInBounds_toArray, List.set_cons_zero, List.set_cons_succ]
              refine wpAnyT_done (by kernel_rfl) ?_ _
              go_wp2_with fail
              go_meet
              case rel => exact ⟨_, rfl, by omega, dg, dp, du, ds, dt, dB⟩
            · refine rg_alloc #[true, true, true, true, true, true, true, true, true, true, true, true, true, false, false, false, false, true, true, false, false] (by kernel_rfl) 11 rfl rfl (by kernel_rfl) 32 (wcl false fun _ => 0) (by kernel_rfl) ?_
              intro x36 hn hb
              have ng : Blk x36 (g) T (serC a b c d t) := (dg).later hb
              have np : Blk x36 (w.heap.size) 32 (wcl false fun _ => 0) := (dp).later hb
              have nu : Blk x36 (w2.heap.size) 32 (wcl false (lb U)) := (du).later hb
              have ns : Blk x36 (w2.heap.size + 1) 32 (wcl sn (lb SM)) := (ds).later hb
              have nt : Blk x36 (x1.heap.size) 32 (wcl false fun _ => 0) := (dt).later hb
              have nB : Below w.heap.size w x36 := below_then dB hb
              have yx36_37 := hb.size
              try simp only [World.size_alloc, size_setRow] at yx36_37
              clear dg dp du ds dt dB
              have dg := ng
              have zg_37 := dg.lt
              have dp := np
              have zp_37 := dp.lt
              have du := nu
              have zu_37 := du.lt
              have ds := ns
              have zs_37 := ds.lt
              have dt := nt
              have zt_37 := dt.lt
              have dB := nB
              clear ng np nu ns nt nB
              have dr := hn
              have zr_38 := hn.lt
              clear hn hb
              refine ⟨fun _ => ⟨du, dg⟩, ?_⟩
              try simp only [List.setIfInBounds_toArray, List.set_cons_zero, List.set_cons_succ]
              refine rg_list (l := [13]) (by kernel_rfl) rfl ?_
              intro i hi
              obtain rfl := List.mem_singleton.1 hi
              refine rg_call #[true, true, true, true, true, true, true, true, true, true, true, true, true, true, false, false, false, true, true, false, false] (by kernel_rfl) 38 rfl rfl (by kernel_rfl) 105 #[wdv false U, wdv false D] (by kernel_rfl) (refDivN U D hUp hDp hD0 _) ?_
              intro x37 hb
              have ng : Blk x37 (g) T (serC a b c d t) := (dg).later hb
              have np : Blk x37 (w.heap.size) 32 (wcl false fun _ => 0) := (dp).later hb
              have nu : Blk x37 (w2.heap.size) 32 (wcl false (lb U)) := (du).later hb
              have ns : Blk x37 (w2.heap.size + 1) 32 (wcl sn (lb SM)) := (ds).later hb
              have nt : Blk x37 (x1.heap.size) 32 (wcl false fun _ => 0) := (dt).later hb
              have nr : Blk x37 (x31.heap.size) 32 (wcl false fun _ => 0) := (dr).later hb
              have nB : Below w.heap.size w x37 := below_then dB hb
              have yx37_38 := hb.size
              try simp only [World.size_alloc, size_setRow] at yx37_38
              clear hb dg dp du ds dt dr dB
              have dg := ng
              have zg_38 := dg.lt
              have dp := np
              have zp_38 := dp.lt
              have du := nu
              have zu_38 := du.lt
              have ds := ns
              have zs_38 := ds.lt
              have dt := nt
              have zt_38 := dt.lt
              have dr := nr
              have zr_38 := dr.lt
              have dB := nB
              clear ng np nu ns nt nr nB
              refine ⟨fun _ => ⟨du, dg⟩, ?_⟩
              try simp only [List.setIfInBounds_toArray, List.set_cons_zero, List.set_cons_succ]
              refine wpAnyT_take (i := 14) (v := .tuple #[wdv false (U / D), wdv false (U % D)]) #[true, true, true, true, true, true, true, true, true, true, true, true, true, true, true, false, false, true, true, false, false] (by kernel_rfl) 24 rfl rfl (by kernel_rfl) (by kernel_rfl) (by kernel_rfl) (by kernel_rfl) (by kernel_rfl) (fun _ _ _ h => h) (.inl ⟨rfl, fun _ _ => by unfold execOp; simp [go_sem]⟩) ⟨du, dg⟩ ?_
              try simp only [List.setIfInBounds_toArray, List.set_cons_zero, List.set_cons_succ]
              refine wpAnyT_take (i := 15) (v := wdv false (U / D)) #[true, true, true, true, true, true, true, true, true, true, true, true, true, true, true, true, false, true, true, false, false] (by kernel_rfl) 39 rfl rfl (by kernel_rfl) (by kernel_rfl) (by kernel_rfl) (by kernel_rfl) (by kernel_rfl) (fun _ _ _ h => h) (.inl ⟨rfl, fun _ _ => by unfold execOp; simp [go_sem]⟩) ⟨du, dg⟩ ?_
              try simp only [List.setIfInBounds_toArray, List.set_cons_zero, List.set_cons_succ]
              refine wpAnyT_take (i := 16) (v := wdv false (U % D)) #[true, true, true, true, true, true, true, true, true, true, true, true, true, true, true, true, true, true, true, false, false] (by kernel_rfl) 40 rfl rfl (by kernel_rfl) (by kernel_rfl) (by kernel_rfl) (by kernel_rfl) (by kernel_rfl) (fun _ _ _ h => h) (.inl ⟨rfl, fun _ _ => by unfold execOp; simp [go_sem]⟩) ⟨du, dg⟩ ?_
              try simp only [List.setIfInBounds_toArray, List.set_cons_zero, List.set_cons_succ]
              refine rg_list (l := [19]) (by kernel_rfl) rfl ?_
              intro i hi
              obtain rfl := List.mem_singleton.1 hi
              refine rg_store #[true, true, true, true, true, true, true, true, true, true, true, true, true, true, true, true, true, true, true, true, false] (by kernel_rfl) rfl rfl (by kernel_rfl) 32 _ _ rfl (x1.heap.size) (wcl false (lb (U / D))) rfl rfl 32 _ dt sz32 rfl (wcl_all _ _) ?_
              intro x38 hc hn
              have nB := below_chg' dB hc (by omega) (by omega)
              have yyx38 := hc.size
              replace dg : Blk x38 (g) T (serC a b c d t) := dg.chg hc (by omega)
              replace dp : Blk x38 (w.heap.size) 32 (wcl false fun _ => 0) := dp.chg hc (by omega)
              replace du : Blk x38 (w2.heap.size) 32 (wcl false (lb U)) := du.chg hc (by omega)
              replace ds : Blk x38 (w2.heap.size + 1) 32 (wcl sn (lb SM)) := ds.chg hc (by omega)
              replace dr : Blk x38 (x31.heap.size) 32 (wcl false fun _ => 0) := dr.chg hc (by omega)
              replace dt : Blk x38 (x1.heap.size) 32 (wcl false (lb (U / D))) := hn
              have zg_40 := dg.lt
              have zp_40 := dp.lt
              have zu_40 := du.lt
              have zs_40 := ds.lt
              have zt_40 := dt.lt
              have zr_40 := dr.lt
              replace dB := nB
              clear nB
              clear hc hn
              refine ⟨fun _ => ⟨du, dg⟩, ?_⟩
              try simp only [List.setIfInBounds_toArray, List.set_cons_zero, List.set_cons_succ]
              refine rg_list (l := [20]) (by kernel_rfl) rfl ?_
              intro i hi
              obtain rfl := List.mem_singleton.1 hi
              refine rg_store #[true, true, true, true, true, true, true, true, true, true, true, true, true, true, true, true, true, true, true, true, true] (by kernel_rfl) rfl rfl (by kernel_rfl) 32 _ _ rfl (x31.heap.size) (wcl false (lb (U % D))) rfl rfl 32 _ dr sz32 rfl (wcl_all _ _) ?_
              intro x39 hc hn
              have nB := below_chg' dB hc (by omega) (by omega)
              have yyx39 := hc.size
              replace dg : Blk x39 (g) T (serC a b c d t) := dg.chg hc (by omega)
              replace dp : Blk x39 (w.heap.size) 32 (wcl false fun _ => 0) := dp.chg hc (by omega)
              replace du : Blk x39 (w2.heap.size) 32 (wcl false (lb U)) := du.chg hc (by omega)
              replace ds : Blk x39 (w2.heap.size + 1) 32 (wcl sn (lb SM)) := ds.chg hc (by omega)
              replace dt : Blk x39 (x1.heap.size) 32 (wcl false (lb (U / D))) := dt.chg hc (by omega)
              replace dr : Blk x39 (x31.heap.size) 32 (wcl false (lb (U % D))) := hn
              have zg_41 := dg.lt
              have zp_41 := dp.lt
              have zu_41 := du.lt
              have zs_41 := ds.lt
              have zt_41 := dt.lt
              have zr_41 := dr.lt
              replace dB := nB
              clear nB
              clear hc hn
              refine ⟨fun _ => ⟨du, dg⟩, ?_⟩
              try simp only [List.setIfInBounds_toArray, List.set_cons_zero, List.set_cons_succ]
              refine wpAnyT_done (by kernel_rfl) ?_ _
              go_wp2_with fail
              go_meet
              case rel => exact ⟨_, rfl, by omega, dg, dp, du, ds, dt, dB⟩
          · refine rg_alloc #[true, true, true, true, true, true, true, true, true, true, true, true, false, false, false, false, false, true, true, false, false] (by kernel_rfl) 11 rfl rfl (by kernel_rfl) 32 (wcl false fun _ => 0) (by kernel_rfl) ?_
            intro x40 hn hb
            have ng : Blk x40 (g) T (serC a b c d t) := (dg).later hb
            have np : Blk x40 (w.heap.size) 32 (wcl false fun _ => 0) := (dp).later hb
            have nu : Blk x40 (w2.heap.size) 32 (wcl false (lb U)) := (du).later hb
            have ns : Blk x40 (w2.heap.size + 1) 32 (wcl sn (lb SM)) := (ds).later hb
            have nt : Blk x40 (x1.heap.size) 32 (wcl false fun _ => 0) := (dt).later hb
            have nB : Below w.heap.size w x40 := below_then dB hb
            have yx40_41 := hb.size
            try simp only [World.size_alloc, size_setRow] at yx40_41
            clear dg dp du ds dt dB
            have dg := ng
            have zg_41 := dg.lt
            have dp := np
            have zp_41 := dp.lt
            have du := nu
            have zu_41 := du.lt
            have ds := ns
            have zs_41 := ds.lt
            have dt := nt
            have zt_41 := dt.lt
            have dB := nB
            clear ng np nu ns nt nB
            have dr := hn
            have zr_42 := hn.lt
            clear hn hb
            refine ⟨fun _ => ⟨du, dg⟩, ?_⟩
            try simp only [List.setIfInBounds_toArray, List.set_cons_zero, List.set_cons_succ]
            refine rg_list (l := [12]) (by kernel_rfl) rfl ?_
            intro i hi
            obtain rfl := List.mem_singleton.1 hi
            refine rg_call #[true, true, true, true, true, true, true, true, true, true, true, true, true, false, false, false, false, true, true, false, false] (by kernel_rfl) 37 rfl rfl (by kernel_rfl) 71 #[.int .i64 D] (by kernel_rfl) (refOfN D (by omega) _) ?_
            intro x41 hb
            have ng : Blk x41 (g) T (serC a b c d t) := (dg).later hb
            have np : Blk x41 (w.heap.size) 32 (wcl false fun _ => 0) := (dp).later hb
            have nu : Blk x41 (w2.heap.size) 32 (wcl false (lb U)) := (du).later hb
            have ns : Blk x41 (w2.heap.size + 1) 32 (wcl sn (lb SM)) := (ds).later hb
            have nt : Blk x41 (x1.heap.size) 32 (wcl false fun _ => 0) := (dt).later hb
            have nr : Blk x41 (x30.heap.size) 32 (wcl false fun _ => 0) := (dr).later hb
            have nB : Below w.heap.size w x41 := below_then dB hb
            have yx41_42 := hb.size
            try simp only [World.size_alloc, size_setRow] at yx41_42
            clear hb dg dp du ds dt dr dB
            have dg := ng
            have zg_42 := dg.lt
            have dp := np
            have zp_42 := dp.lt
            have du := nu
            have zu_42 := du.lt
            have ds := ns
            have zs_42 := ds.lt
            have dt := nt
            have zt_42 := dt.lt
            have dr := nr
            have zr_42 := dr.lt
            have dB := nB
            clear ng np nu ns nt nr nB
            refine ⟨fun _ => ⟨du, dg⟩, ?_⟩
            try simp only [List.setIfInBounds_toArray, List.set_cons_zero, List.set_cons_succ]
            refine rg_list (l := [13]) (by kernel_rfl) rfl ?_
            intro i hi
            obtain rfl := List.mem_singleton.1 hi
            refine rg_call #[true, true, true, true, true, true, true, true, true, true, true, true, true, true, false, false, false, true, true, false, false] (by kernel_rfl) 38 rfl rfl (by kernel_rfl) 105 #[wdv false U, wdv false D] (by kernel_rfl) (refDivN U D hUp hDp hD0 _) ?_
            intro x42 hb
            have ng : Blk x42 (g) T (serC a b c d t) := (dg).later hb
            have np : Blk x42 (w.heap.size) 32 (wcl false fun _ => 0) := (dp).later hb
            have nu : Blk x42 (w2.heap.size) 32 (wcl false (lb U)) := (du).later hb
            have ns : Blk x42 (w2.heap.size + 1) 32 (wcl sn (lb SM)) := (ds).later hb
            have nt : Blk x42 (x1.heap.size) 32 (wcl false fun _ => 0) := (dt).later hb
            have nr : Blk x42 (x30.heap.size) 32 (wcl false fun _ => 0) := (dr).later hb
            have nB : Below w.heap.size w x42 := below_then dB hb
            have yx42_43 := hb.size
            try simp only [World.size_alloc, size_setRow] at yx42_43
            clear hb dg dp du ds dt dr dB
            have dg := ng
            have zg_43 := dg.lt
            have dp := np
            have zp_43 := dp.lt
            have du := nu
            have zu_43 := du.lt
            have ds := ns
            have zs_43 := ds.lt
            have dt := nt
            have zt_43 := dt.lt
            have dr := nr
            have zr_43 := dr.lt
            have dB := nB
            clear ng np nu ns nt nr nB
            refine ⟨fun _ => ⟨du, dg⟩, ?_⟩
            try simp only [List.setIfInBounds_toArray, List.set_cons_zero, List.set_cons_succ]
            refine wpAnyT_take (i := 14) (v := .tuple #[wdv false (U / D), wdv false (U % D)]) #[true, true, true, true, true, true, true, true, true, true, true, true, true, true, true, false, false, true, true, false, false] (by kernel_rfl) 24 rfl rfl (by kernel_rfl) (by kernel_rfl) (by kernel_rfl) (by kernel_rfl) (by kernel_rfl) (fun _ _ _ h => h) (.inl ⟨rfl, fun _ _ => by unfold execOp; simp [go_sem]⟩) ⟨du, dg⟩ ?_
            try simp only [List.setIfInBounds_toArray, List.set_cons_zero, List.set_cons_succ]
            refine wpAnyT_take (i := 15) (v := wdv false (U / D)) #[true, true, true, true, true, true, true, true, true, true, true, true, true, true, true, true, false, true, true, false, false] (by kernel_rfl) 39 rfl rfl (by kernel_rfl) (by kernel_rfl) (by kernel_rfl) (by kernel_rfl) (by kernel_rfl) (fun _ _ _ h => h) (.inl ⟨rfl, fun _ _ => by unfold execOp; simp [go_sem]⟩) ⟨du, dg⟩ ?_
            try simp only [List.setIfInBounds_toArray, List.set_cons_zero, List.set_cons_succ]
            refine wpAnyT_take (i := 16) (v := wdv false (U % D)) #[true, true, true, true, true, true, true, true, true, true, true, true, true, true, true, true, true, true, true, false, false] (by kernel_rfl) 40 rfl rfl (by kernel_rfl) (by kernel_rfl) (by kernel_rfl) (by kernel_rfl) (by kernel_rfl) (fun _ _ _ h => h) (.inl ⟨rfl, fun _ _ => by unfold execOp; simp [go_sem]⟩) ⟨du, dg⟩ ?_
            try simp only [List.setIfInBounds_toArray, List.set_cons_zero, List.set_cons_succ]
            refine rg_list (l := [19]) (by kernel_rfl) rfl ?_
            intro i hi
            obtain rfl := List.mem_singleton.1 hi
            refine rg_store #[true, true, true, true, true, true, true, true, true, true, true, true, true, true, true, true, true, true, true, true, false] (by kernel_rfl) rfl rfl (by kernel_rfl) 32 _ _ rfl (x1.heap.size) (wcl false (lb (U / D))) rfl rfl 32 _ dt sz32 rfl (wcl_all _ _) ?_
            intro x43 hc hn
            have nB := below_chg' dB hc (by omega) (by omega)
            have yyx43 := hc.size
            replace dg : Blk x43 (g) T (serC a b c d t) := dg.chg hc (by omega)
            replace dp : Blk x43 (w.heap.size) 32 (wcl false fun _ => 0) := dp.chg hc (by omega)
            replace du : Blk x43 (w2.heap.size) 32 (wcl false (lb U)) := du.chg hc (by omega)
            replace ds : Blk x43 (w2.heap.size + 1) 32 (wcl sn (lb SM)) := ds.chg hc (by omega)
            replace dr : Blk x43 (x30.heap.size) 32 (wcl false fun _ => 0) := dr.chg hc (by omega)
            replace dt : Blk x43 (x1.heap.size) 32 (wcl false (lb (U / D))) := hn
            have zg_45 := dg.lt
            have zp_45 := dp.lt
            have zu_45 := du.lt
            have zs_45 := ds.lt
            have zt_45 := dt.lt
            have zr_45 := dr.lt
            replace dB := nB
            clear nB
            clear hc hn
            refine ⟨fun _ => ⟨du, dg⟩, ?_⟩
            try simp only [List.setIfInBounds_toArray, List.set_cons_zero, List.set_cons_succ]
            refine rg_list (l := [20]) (by kernel_rfl) rfl ?_
            intro i hi
            obtain rfl := List.mem_singleton.1 hi
            refine rg_store #[true, true, true, true, true, true, true, true, true, true, true, true, true, true, true, true, true, true, true, true, true] (by kernel_rfl) rfl rfl (by kernel_rfl) 32 _ _ rfl (x30.heap.size) (wcl false (lb (U % D))) rfl rfl 32 _ dr sz32 rfl (wcl_all _ _) ?_
            intro x44 hc hn
            have nB := below_chg' dB hc (by omega) (by omega)
            have yyx44 := hc.size
            replace dg : Blk x44 (g) T (serC a b c d t) := dg.chg hc (by omega)
            replace dp : Blk x44 (w.heap.size) 32 (wcl false fun _ => 0) := dp.chg hc (by omega)
            replace du : Blk x44 (w2.heap.size) 32 (wcl false (lb U)) := du.chg hc (by omega)
            replace ds : Blk x44 (w2.heap.size + 1) 32 (wcl sn (lb SM)) := ds.chg hc (by omega)
            replace dt : Blk x44 (x1.heap.size) 32 (wcl false (lb (U / D))) := dt.chg hc (by omega)
            replace dr : Blk x44 (x30.heap.size) 32 (wcl false (lb (U % D))) := hn
            have zg_46 := dg.lt
            have zp_46 := dp.lt
            have zu_46 := du.lt
            have zs_46 := ds.lt
            have zt_46 := dt.lt
            have zr_46 := dr.lt
            replace dB := nB
            clear nB
            clear hc hn
            refine ⟨fun _ => ⟨du, dg⟩, ?_⟩
            try simp only [List.setIfInBounds_toArray, List.set_cons_zero, List.set_cons_succ]
            refine wpAnyT_done (by kernel_rfl) ?_ _
            go_wp2_with fail
            go_meet
            case rel => exact ⟨_, rfl, by omega, dg, dp, du, ds, dt, dB⟩
        · refine rg_alloc #[true, true, true, true, true, true, true, true, true, true, true, true, false, false, false, false, false, false, true, false, false] (by kernel_rfl) 11 rfl rfl (by kernel_rfl) 32 (wcl false fun _ => 0) (by kernel_rfl) ?_
          intro x45 hn hb
          have ng : Blk x45 (g) T (serC a b c d t) := (dg).later hb
          have np : Blk x45 (w.heap.size) 32 (wcl false fun _ => 0) := (dp).later hb
          have nu : Blk x45 (w2.heap.size) 32 (wcl false (lb U)) := (du).later hb
          have ns : Blk x45 (w2.heap.size + 1) 32 (wcl sn (lb SM)) := (ds).later hb
          have nB : Below w.heap.size w x45 := below_then dB hb
          have yx45_46 := hb.size
          try simp only [World.size_alloc, size_setRow] at yx45_46
          clear dg dp du ds dB
          have dg := ng
          have zg_46 := dg.lt
          have dp := np
          have zp_46 := dp.lt
          have du := nu
          have zu_46 := du.lt
          have ds := ns
          have zs_46 := ds.lt
          have dB := nB
          clear ng np nu ns nB
          have dr := hn
          have zr_47 := hn.lt
          clear hn hb
          refine ⟨fun _ => ⟨du, dg⟩, ?_⟩
          try simp only [List.setIfInBounds_toArray, List.set_cons_zero, List.set_cons_succ]
          refine rg_list (l := [12, 17]) (by kernel_rfl) rfl ?_
          intro i hi
          simp only [List.mem_cons, List.not_mem_nil, or_false] at hi
          rcases hi with rfl | rfl
          · refine rg_call #[true, true, true, true, true, true, true, true, true, true, true, true, true, false, false, false, false, false, true, false, false] (by kernel_rfl) 37 rfl rfl (by kernel_rfl) 71 #[.int .i64 D] (by kernel_rfl) (refOfN D (by omega) _) ?_
            intro x46 hb
            have ng : Blk x46 (g) T (serC a b c d t) := (dg).later hb
            have np : Blk x46 (w.heap.size) 32 (wcl false fun _ => 0) := (dp).later hb
            have nu : Blk x46 (w2.heap.size) 32 (wcl false (lb U)) := (du).later hb
            have ns : Blk x46 (w2.heap.size + 1) 32 (wcl sn (lb SM)) := (ds).later hb
            have nr : Blk x46 (x1.heap.size) 32 (wcl false fun _ => 0) := (dr).later hb
            have nB : Below w.heap.size w x46 := below_then dB hb
            have yx46_47 := hb.size
            try simp only [World.size_alloc, size_setRow] at yx46_47
            clear hb dg dp du ds dr dB
            have dg := ng
            have zg_47 := dg.lt
            have dp := np
            have zp_47 := dp.lt
            have du := nu
            have zu_47 := du.lt
            have ds := ns
            have zs_47 := ds.lt
            have dr := nr
            have zr_47 := dr.lt
            have dB := nB
            clear ng np nu ns nr nB
            refine ⟨fun _ => ⟨du, dg⟩, ?_⟩
            try simp only [List.setIfInBounds_toArray, List.set_cons_zero, List.set_cons_succ]
            refine rg_list (l := [13, 17]) (by kernel_rfl) rfl ?_
            intro i hi
            simp only [List.mem_cons, List.not_mem_nil, or_false] at hi
            rcases hi with rfl | rfl
            · refine rg_call #[true, true, true, true, true, true, true, true, true, true, true, true, true, true, false, false, false, false, true, false, false] (by kernel_rfl) 38 rfl rfl (by kernel_rfl) 105 #[wdv false U, wdv false D] (by kernel_rfl) (refDivN U D hUp hDp hD0 _) ?_
              intro x47 hb
              have ng : Blk x47 (g) T (serC a b c d t) := (dg).later hb
              have np : Blk x47 (w.heap.size) 32 (wcl false fun _ => 0) := (dp).later hb
              have nu : Blk x47 (w2.heap.size) 32 (wcl false (lb U)) := (du).later hb
              have ns : Blk x47 (w2.heap.size + 1) 32 (wcl sn (lb SM)) := (ds).later hb
              have nr : Blk x47 (x1.heap.size) 32 (wcl false fun _ => 0) := (dr).later hb
              have nB : Below w.heap.size w x47 := below_then dB hb
              have yx47_48 := hb.size
              try simp only [World.size_alloc, size_setRow] at yx47_48
              clear hb dg dp du ds dr dB
              have dg := ng
              have zg_48 := dg.lt
              have dp := np
              have zp_48 := dp.lt
              have du := nu
              have zu_48 := du.lt
              have ds := ns
              have zs_48 := ds.lt
              have dr := nr
              have zr_48 := dr.lt
              have dB := nB
              clear ng np nu ns nr nB
              refine ⟨fun _ => ⟨du, dg⟩, ?_⟩
              try simp only [List.setIfInBounds_toArray, List.set_cons_zero, List.set_cons_succ]
              refine wpAnyT_take (i := 14) (v := .tuple #[wdv false (U / D), wdv false (U % D)]) #[true, true, true, true, true, true, true, true, true, true, true, true, true, true, true, false, false, false, true, false, false] (by kernel_rfl) 24 rfl rfl (by kernel_rfl) (by kernel_rfl) (by kernel_rfl) (by kernel_rfl) (by kernel_rfl) (fun _ _ _ h => h) (.inl ⟨rfl, fun _ _ => by unfold execOp; simp [go_sem]⟩) ⟨du, dg⟩ ?_
              try simp only [List.setIfInBounds_toArray, List.set_cons_zero, List.set_cons_succ]
              refine wpAnyT_take (i := 15) (v := wdv false (U / D)) #[true, true, true, true, true, true, true, true, true, true, true, true, true, true, true, true, false, false, true, false, false] (by kernel_rfl) 39 rfl rfl (by kernel_rfl) (by kernel_rfl) (by kernel_rfl) (by kernel_rfl) (by kernel_rfl) (fun _ _ _ h => h) (.inl ⟨rfl, fun _ _ => by unfold execOp; simp [go_sem]⟩) ⟨du, dg⟩ ?_
              try simp only [List.setIfInBounds_toArray, List.set_cons_zero, List.set_cons_succ]
              refine wpAnyT_take (i := 16) (v := wdv false (U % D)) #[true, true, true, true, true, true, true, true, true, true, true, true, true, true, true, true, true, false, true, false, false] (by kernel_rfl) 40 rfl rfl (by kernel_rfl) (by kernel_rfl) (by kernel_rfl) (by kernel_rfl) (by kernel_rfl) (fun _ _ _ h => h) (.inl ⟨rfl, fun _ _ => by unfold execOp; simp [go_sem]⟩) ⟨du, dg⟩ ?_
              try simp only [List.setIfInBounds_toArray, List.set_cons_zero, List.set_cons_succ]
              refine rg_list (l := [17]) (by kernel_rfl) rfl ?_
              intro i hi
              obtain rfl := List.mem_singleton.1 hi
              refine rg_alloc #[true, true, true, true, true, true, true, true, true, true, true, true, true, true, true, true, true, true, true, false, false] (by kernel_rfl) 10 rfl rfl (by kernel_rfl) 32 (wcl false fun _ => 0) (by kernel_rfl) ?_
              intro x48 hn hb
              have ng : Blk x48 (g) T (serC a b c d t) := (dg).later hb
              have np : Blk x48 (w.heap.size) 32 (wcl false fun _ => 0) := (dp).later hb
              have nu : Blk x48 (w2.heap.size) 32 (wcl false (lb U)) := (du).later hb
              have ns : Blk x48 (w2.heap.size + 1) 32 (wcl sn (lb SM)) := (ds).later hb
              have nr : Blk x48 (x1.heap.size) 32 (wcl false fun _ => 0) := (dr).later hb
              have nB : Below w.heap.size w x48 := below_then dB hb
              have yx48_49 := hb.size
              try simp only [World.size_alloc, size_setRow] at yx48_49
              clear dg dp du ds dr dB
              have dg := ng
              have zg_49 := dg.lt
              have dp := np
              have zp_49 := dp.lt
              have du := nu
              have zu_49 := du.lt
              have ds := ns
              have zs_49 := ds.lt
              have dr := nr
              have zr_49 := dr.lt
              have dB := nB
              clear ng np nu ns nr nB
              have dt := hn
              have zt_50 := hn.lt
              clear hn hb
              refine ⟨fun _ => ⟨du, dg⟩, ?_⟩
              try simp only [List.setIfInBounds_toArray, List.set_cons_zero, List.set_cons_succ]
              refine rg_list (l := [19]) (by kernel_rfl) rfl ?_
              intro i hi
              obtain rfl := List.mem_singleton.1 hi
              refine rg_store #[true, true, true, true, true, true, true, true, true, true, true, true, true, true, true, true, true, true, true, true, false] (by kernel_rfl) rfl rfl (by kernel_rfl) 32 _ _ rfl (x47.heap.size) (wcl false (lb (U / D))) rfl rfl 32 _ dt sz32 rfl (wcl_all _ _) ?_
              intro x49 hc hn
              have nB := below_chg' dB hc (by omega) (by omega)
              have yyx49 := hc.size
              replace dg : Blk x49 (g) T (serC a b c d t) := dg.chg hc (by omega)
              replace dp : Blk x49 (w.heap.size) 32 (wcl false fun _ => 0) := dp.chg hc (by omega)
              replace du : Blk x49 (w2.heap.size) 32 (wcl false (lb U)) := du.chg hc (by omega)
              replace ds : Blk x49 (w2.heap.size + 1) 32 (wcl sn (lb SM)) := ds.chg hc (by omega)
              replace dr : Blk x49 (x1.heap.size) 32 (wcl false fun _ => 0) := dr.chg hc (by omega)
              replace dt : Blk x49 (x47.heap.size) 32 (wcl false (lb (U / D))) := hn
              have zg_51 := dg.lt
              have zp_51 := dp.lt
              have zu_51 := du.lt
              have zs_51 := ds.lt
              have zr_51 := dr.lt
              have zt_51 := dt.lt
              replace dB := nB
              clear nB
              clear hc hn
              refine ⟨fun _ => ⟨du, dg⟩, ?_⟩
              try simp only [List.setIfInBounds_toArray, List.set_cons_zero, List.set_cons_succ]
              refine rg_list (l := [20]) (by kernel_rfl) rfl ?_
              intro i hi
              obtain rfl := List.mem_singleton.1 hi
              refine rg_store #[true, true, true, true, true, true, true, true, true, true, true, true, true, true, true, true, true, true, true, true, true] (by kernel_rfl) rfl rfl (by kernel_rfl) 32 _ _ rfl (x1.heap.size) (wcl false (lb (U % D))) rfl rfl 32 _ dr sz32 rfl (wcl_all _ _) ?_
              intro x50 hc hn
              have nB := below_chg' dB hc (by omega) (by omega)
              have yyx50 := hc.size
              replace dg : Blk x50 (g) T (serC a b c d t) := dg.chg hc (by omega)
              replace dp : Blk x50 (w.heap.size) 32 (wcl false fun _ => 0) := dp.chg hc (by omega)
              replace du : Blk x50 (w2.heap.size) 32 (wcl false (lb U)) := du.chg hc (by omega)
              replace ds : Blk x50 (w2.heap.size + 1) 32 (wcl sn (lb SM)) := ds.chg hc (by omega)
              replace dt : Blk x50 (x47.heap.size) 32 (wcl false (lb (U / D))) := dt.chg hc (by omega)
              replace dr : Blk x50 (x1.heap.size) 32 (wcl false (lb (U % D))) := hn
              have zg_52 := dg.lt
              have zp_52 := dp.lt
              have zu_52 := du.lt
              have zs_52 := ds.lt
              have zr_52 := dr.lt
              have zt_52 := dt.lt
              replace dB := nB
              clear nB
              clear hc hn
              refine ⟨fun _ => ⟨du, dg⟩, ?_⟩
              try simp only [List.setIfInBounds_toArray, List.set_cons_zero, List.set_cons_succ]
              refine wpAnyT_done (by kernel_rfl) ?_ _
              go_wp2_with fail
              go_meet
              case rel => exact ⟨_, rfl, by omega, dg, dp, du, ds, dt, dB⟩
            · refine rg_alloc #[true, true, true, true, true, true, true, true, true, true, true, true, true, false, false, false, false, true, true, false, false] (by kernel_rfl) 10 rfl rfl (by kernel_rfl) 32 (wcl false fun _ => 0) (by kernel_rfl) ?_
              intro x51 hn hb
              have ng : Blk x51 (g) T (serC a b c d t) := (dg).later hb
              have np : Blk x51 (w.heap.size) 32 (wcl false fun _ => 0) := (dp).later hb
              have nu : Blk x51 (w2.heap.size) 32 (wcl false (lb U)) := (du).later hb
              have ns : Blk x51 (w2.heap.size + 1) 32 (wcl sn (lb SM)) := (ds).later hb
              have nr : Blk x51 (x1.heap.size) 32 (wcl false fun _ => 0) := (dr).later hb
              have nB : Below w.heap.size w x51 := below_then dB hb
              have yx51_52 := hb.size
              try simp only [World.size_alloc, size_setRow] at yx51_52
              clear dg dp du ds dr dB
              have dg := ng
              have zg_52 := dg.lt
              have dp := np
              have zp_52 := dp.lt
              have du := nu
              have zu_52 := du.lt
              have ds := ns
              have zs_52 := ds.lt
              have dr := nr
              have zr_52 := dr.lt
              have dB := nB
              clear ng np nu ns nr nB
              have dt := hn
              have zt_53 := hn.lt
              clear hn hb
              refine ⟨fun _ => ⟨du, dg⟩, ?_⟩
              try simp only [List.setIfInBounds_toArray, List.set_cons_zero, List.set_cons_succ]
              refine rg_list (l := [13]) (by kernel_rfl) rfl ?_
              intro i hi
              obtain rfl := List.mem_singleton.1 hi
              refine rg_call #[true, true, true, true, true, true, true, true, true, true, true, true, true, true, false, false, false, true, true, false, false] (by kernel_rfl) 38 rfl rfl (by kernel_rfl) 105 #[wdv false U, wdv false D] (by kernel_rfl) (refDivN U D hUp hDp hD0 _) ?_
              intro x52 hb
              have ng : Blk x52 (g) T (serC a b c d t) := (dg).later hb
              have np : Blk x52 (w.heap.size) 32 (wcl false fun _ => 0) := (dp).later hb
              have nu : Blk x52 (w2.heap.size) 32 (wcl false (lb U)) := (du).later hb
              have ns : Blk x52 (w2.heap.size + 1) 32 (wcl sn (lb SM)) := (ds).later hb
              have nr : Blk x52 (x1.heap.size) 32 (wcl false fun _ => 0) := (dr).later hb
              have nt : Blk x52 (x46.heap.size) 32 (wcl false fun _ => 0) := (dt).later hb
              have nB : Below w.heap.size w x52 := below_then dB hb
              have yx52_53 := hb.size
              try simp only [World.size_alloc, size_setRow] at yx52_53
              clear hb dg dp du ds dr dt dB
              have dg := ng
              have zg_53 := dg.lt
              have dp := np
              have zp_53 := dp.lt
              have du := nu
              have zu_53 := du.lt
              have ds := ns
              have zs_53 := ds.lt
              have dr := nr
              have zr_53 := dr.lt
              have dt := nt
              have zt_53 := dt.lt
              have dB := nB
              clear ng np nu ns nr nt nB
              refine ⟨fun _ => ⟨du, dg⟩, ?_⟩
              try simp only [List.setIfInBounds_toArray, List.set_cons_zero, List.set_cons_succ]
              refine wpAnyT_take (i := 14) (v := .tuple #[wdv false (U / D), wdv false (U % D)]) #[true, true, true, true, true, true, true, true, true, true, true, true, true, true, true, false, false, true, true, false, false] (by kernel_rfl) 24 rfl rfl (by kernel_rfl) (by kernel_rfl) (by kernel_rfl) (by kernel_rfl) (by kernel_rfl) (fun _ _ _ h => h) (.inl ⟨rfl, fun _ _ => by unfold execOp; simp [go_sem]⟩) ⟨du, dg⟩ ?_
              try simp only [List.setIfInBounds_toArray, List.set_cons_zero, List.set_cons_succ]
              refine wpAnyT_take (i := 15) (v := wdv false (U / D)) #[true, true, true, true, true, true, true, true, true, true, true, true, true, true, true, true, false, true, true, false, false] (by kernel_rfl) 39 rfl rfl (by kernel_rfl) (by kernel_rfl) (by kernel_rfl) (by kernel_rfl) (by kernel_rfl) (fun _ _ _ h => h) (.inl ⟨rfl, fun _ _ => by unfold execOp; simp [go_sem]⟩) ⟨du, dg⟩ ?_
              try simp only [List.setIfInBounds_toArray, List.set_cons_zero, List.set_cons_succ]
              refine wpAnyT_take (i := 16) (v := wdv false (U % D)) #[true, true, true, true, true, true, true, true, true, true, true, true, true, true, true, true, true, true, true, false, false] (by kernel_rfl) 40 rfl rfl (by kernel_rfl) (by kernel_rfl) (by kernel_rfl) (by kernel_rfl) (by kernel_rfl) (fun _ _ _ h => h) (.inl ⟨rfl, fun _ _ => by unfold execOp; simp [go_sem]⟩) ⟨du, dg⟩ ?_
              try simp only [List.setIfInBounds_toArray, List.set_cons_zero, List.set_cons_succ]
              refine rg_list (l := [19]) (by kernel_rfl) rfl ?_
              intro i hi
              obtain rfl := List.mem_singleton.1 hi
              refine rg_store #[true, true, true, true, true, true, true, true, true, true, true, true, true, true, true, true, true, true, true, true, false] (by kernel_rfl) rfl rfl (by kernel_rfl) 32 _ _ rfl (x46.heap.size) (wcl false (lb (U / D))) rfl rfl 32 _ dt sz32 rfl (wcl_all _ _) ?_
              intro x53 hc hn
              have nB := below_chg' dB hc (by omega) (by omega)
              have yyx53 := hc.size
              replace dg : Blk x53 (g) T (serC a b c d t) := dg.chg hc (by omega)
              replace dp : Blk x53 (w.heap.size) 32 (wcl false fun _ => 0) := dp.chg hc (by omega)
              replace du : Blk x53 (w2.heap.size) 32 (wcl false (lb U)) := du.chg hc (by omega)
              replace ds : Blk x53 (w2.heap.size + 1) 32 (wcl sn (lb SM)) := ds.chg hc (by omega)
              replace dr : Blk x53 (x1.heap.size) 32 (wcl false fun _ => 0) := dr.chg hc (by omega)
              replace dt : Blk x53 (x46.heap.size) 32 (wcl false (lb (U / D))) := hn
              have zg_55 := dg.lt
              have zp_55 := dp.lt
              have zu_55 := du.lt
              have zs_55 := ds.lt
              have zr_55 := dr.lt
              have zt_55 := dt.lt
              replace dB := nB
              clear nB
              clear hc hn
              refine ⟨fun _ => ⟨du, dg⟩, ?_⟩
              try simp only [List.setIfInBounds_toArray, List.set_cons_zero, List.set_cons_succ]
              refine rg_list (l := [20]) (by kernel_rfl) rfl ?_
              intro i hi
              obtain rfl := List.mem_singleton.1 hi
              refine rg_store #[true, true, true, true, true, true, true, true, true, true, true, true, true, true, true, true, true, true, true, true, true] (by kernel_rfl) rfl rfl (by kernel_rfl) 32 _ _ rfl (x1.heap.size) (wcl false (lb (U % D))) rfl rfl 32 _ dr sz32 rfl (wcl_all _ _) ?_
              intro x54 hc hn
              have nB := below_chg' dB hc (by omega) (by omega)
              have yyx54 := hc.size
              replace dg : Blk x54 (g) T (serC a b c d t) := dg.chg hc (by omega)
              replace dp : Blk x54 (w.heap.size) 32 (wcl false fun _ => 0) := dp.chg hc (by omega)
              replace du : Blk x54 (w2.heap.size) 32 (wcl false (lb U)) := du.chg hc (by omega)
              replace ds : Blk x54 (w2.heap.size + 1) 32 (wcl sn (lb SM)) := ds.chg hc (by omega)
              replace dt : Blk x54 (x46.heap.size) 32 (wcl false (lb (U / D))) := dt.chg hc (by omega)
              replace dr : Blk x54 (x1.heap.size) 32 (wcl false (lb (U % D))) := hn
              have zg_56 := dg.lt
              have zp_56 := dp.lt
              have zu_56 := du.lt
              have zs_56 := ds.lt
              have zr_56 := dr.lt
              have zt_56 := dt.lt
              replace dB := nB
              clear nB
              clear hc hn
              refine ⟨fun _ => ⟨du, dg⟩, ?_⟩
              try simp only [List.setIfInBounds_toArray, List.set_cons_zero, List.set_cons_succ]
              refine wpAnyT_done (by kernel_rfl) ?_ _
              go_wp2_with fail
              go_meet
              case rel => exact ⟨_, rfl, by omega, dg, dp, du, ds, dt, dB⟩
          · refine rg_alloc #[true, true, true, true, true, true, true, true, true, true, true, true, false, false, false, false, false, true, true, false, false] (by kernel_rfl) 10 rfl rfl (by kernel_rfl) 32 (wcl false fun _ => 0) (by kernel_rfl) ?_
            intro x55 hn hb
            have ng : Blk x55 (g) T (serC a b c d t) := (dg).later hb
            have np : Blk x55 (w.heap.size) 32 (wcl false fun _ => 0) := (dp).later hb
            have nu : Blk x55 (w2.heap.size) 32 (wcl false (lb U)) := (du).later hb
            have ns : Blk x55 (w2.heap.size + 1) 32 (wcl sn (lb SM)) := (ds).later hb
            have nr : Blk x55 (x1.heap.size) 32 (wcl false fun _ => 0) := (dr).later hb
            have nB : Below w.heap.size w x55 := below_then dB hb
            have yx55_56 := hb.size
            try simp only [World.size_alloc, size_setRow] at yx55_56
            clear dg dp du ds dr dB
            have dg := ng
            have zg_56 := dg.lt
            have dp := np
            have zp_56 := dp.lt
            have du := nu
            have zu_56 := du.lt
            have ds := ns
            have zs_56 := ds.lt
            have dr := nr
            have zr_56 := dr.lt
            have dB := nB
            clear ng np nu ns nr nB
            have dt := hn
            have zt_57 := hn.lt
            clear hn hb
            refine ⟨fun _ => ⟨du, dg⟩, ?_⟩
            try simp only [List.setIfInBounds_toArray, List.set_cons_zero, List.set_cons_succ]
            refine rg_list (l := [12]) (by kernel_rfl) rfl ?_
            intro i hi
            obtain rfl := List.mem_singleton.1 hi
            refine rg_call #[true, true, true, true, true, true, true, true, true, true, true, true, true, false, false, false, false, true, true, false, false] (by kernel_rfl) 37 rfl rfl (by kernel_rfl) 71 #[.int .i64 D] (by kernel_rfl) (refOfN D (by omega) _) ?_
            intro x56 hb
            have ng : Blk x56 (g) T (serC a b c d t) := (dg).later hb
            have np : Blk x56 (w.heap.size) 32 (wcl false fun _ => 0) := (dp).later hb
            have nu : Blk x56 (w2.heap.size) 32 (wcl false (lb U)) := (du).later hb
            have ns : Blk x56 (w2.heap.size + 1) 32 (wcl sn (lb SM)) := (ds).later hb
            have nr : Blk x56 (x1.heap.size) 32 (wcl false fun _ => 0) := (dr).later hb
            have nt : Blk x56 (x45.heap.size) 32 (wcl false fun _ => 0) := (dt).later hb
            have nB : Below w.heap.size w x56 := below_then dB hb
            have yx56_57 := hb.size
            try simp only [World.size_alloc, size_setRow] at yx56_57
            clear hb dg dp du ds dr dt dB
            have dg := ng
            have zg_57 := dg.lt
            have dp := np
            have zp_57 := dp.lt
            have du := nu
            have zu_57 := du.lt
            have ds := ns
            have zs_57 := ds.lt
            have dr := nr
            have zr_57 := dr.lt
            have dt := nt
            have zt_57 := dt.lt
            have dB := nB
            clear ng np nu ns nr nt nB
            refine ⟨fun _ => ⟨du, dg⟩, ?_⟩
            try simp only [List.setIfInBounds_toArray, List.set_cons_zero, List.set_cons_succ]
            refine rg_list (l := [13]) (by kernel_rfl) rfl ?_
            intro i hi
            obtain rfl := List.mem_singleton.1 hi
            refine rg_call #[true, true, true, true, true, true, true, true, true, true, true, true, true, true, false, false, false, true, true, false, false] (by kernel_rfl) 38 rfl rfl (by kernel_rfl) 105 #[wdv false U, wdv false D] (by kernel_rfl) (refDivN U D hUp hDp hD0 _) ?_
            intro x57 hb
            have ng : Blk x57 (g) T (serC a b c d t) := (dg).later hb
            have np : Blk x57 (w.heap.size) 32 (wcl false fun _ => 0) := (dp).later hb
            have nu : Blk x57 (w2.heap.size) 32 (wcl false (lb U)) := (du).later hb
            have ns : Blk x57 (w2.heap.size + 1) 32 (wcl sn (lb SM)) := (ds).later hb
            have nr : Blk x57 (x1.heap.size) 32 (wcl false fun _ => 0) := (dr).later hb
            have nt : Blk x57 (x45.heap.size) 32 (wcl false fun _ => 0) := (dt).later hb
            have nB : Below w.heap.size w x57 := below_then dB hb
            have yx57_58 := hb.size
            try simp only [World.size_alloc, size_setRow] at yx57_58
            clear hb dg dp du ds dr dt dB
            have dg := ng
            have zg_58 := dg.lt
            have dp := np
            have zp_58 := dp.lt
            have du := nu
            have zu_58 := du.lt
            have ds := ns
            have zs_58 := ds.lt
            have dr := nr
            have zr_58 := dr.lt
            have dt := nt
            have zt_58 := dt.lt
            have dB := nB
            clear ng np nu ns nr nt nB
            refine ⟨fun _ => ⟨du, dg⟩, ?_⟩
            try simp only [List.setIfInBounds_toArray, List.set_cons_zero, List.set_cons_succ]
            refine wpAnyT_take (i := 14) (v := .tuple #[wdv false (U / D), wdv false (U % D)]) #[true, true, true, true, true, true, true, true, true, true, true, true, true, true, true, false, false, true, true, false, false] (by kernel_rfl) 24 rfl rfl (by kernel_rfl) (by kernel_rfl) (by kernel_rfl) (by kernel_rfl) (by kernel_rfl) (fun _ _ _ h => h) (.inl ⟨rfl, fun _ _ => by unfold execOp; simp [go_sem]⟩) ⟨du, dg⟩ ?_
            try simp only [List.setIfInBounds_toArray, List.set_cons_zero, List.set_cons_succ]
            refine wpAnyT_take (i := 15) (v := wdv false (U / D)) #[true, true, true, true, true, true, true, true, true, true, true, true, true, true, true, true, false, true, true, false, false] (by kernel_rfl) 39 rfl rfl (by kernel_rfl) (by kernel_rfl) (by kernel_rfl) (by kernel_rfl) (by kernel_rfl) (fun _ _ _ h => h) (.inl ⟨rfl, fun _ _ => by unfold execOp; simp [go_sem]⟩) ⟨du, dg⟩ ?_
            try simp only [List.setIfInBounds_toArray, List.set_cons_zero, List.set_cons_succ]
            refine wpAnyT_take (i := 16) (v := wdv false (U % D)) #[true, true, true, true, true, true, true, true, true, true, true, true, true, true, true, true, true, true, true, false, false] (by kernel_rfl) 40 rfl rfl (by kernel_rfl) (by kernel_rfl) (by kernel_rfl) (by kernel_rfl) (by kernel_rfl) (fun _ _ _ h => h) (.inl ⟨rfl, fun _ _ => by unfold execOp; simp [go_sem]⟩) ⟨du, dg⟩ ?_
            try simp only [List.setIfInBounds_toArray, List.set_cons_zero, List.set_cons_succ]
            refine rg_list (l := [19]) (by kernel_rfl) rfl ?_
            intro i hi
            obtain rfl := List.mem_singleton.1 hi
            refine rg_store #[true, true, true, true, true, true, true, true, true, true, true, true, true, true, true, true, true, true, true, true, false] (by kernel_rfl) rfl rfl (by kernel_rfl) 32 _ _ rfl (x45.heap.size) (wcl false (lb (U / D))) rfl rfl 32 _ dt sz32 rfl (wcl_all _ _) ?_
            intro x58 hc hn
            have nB := below_chg' dB hc (by omega) (by omega)
            have yyx58 := hc.size
            replace dg : Blk x58 (g) T (serC a b c d t) := dg.chg hc (by omega)
            replace dp : Blk x58 (w.heap.size) 32 (wcl false fun _ => 0) := dp.chg hc (by omega)
            replace du : Blk x58 (w2.heap.size) 32 (wcl false (lb U)) := du.chg hc (by omega)
            replace ds : Blk x58 (w2.heap.size + 1) 32 (wcl sn (lb SM)) := ds.chg hc (by omega)
            replace dr : Blk x58 (x1.heap.size) 32 (wcl false fun _ => 0) := dr.chg hc (by omega)
            replace dt : Blk x58 (x45.heap.size) 32 (wcl false (lb (U / D))) := hn
            have zg_60 := dg.lt
            have zp_60 := dp.lt
            have zu_60 := du.lt
            have zs_60 := ds.lt
            have zr_60 := dr.lt
            have zt_60 := dt.lt
            replace dB := nB
            clear nB
            clear hc hn
            refine ⟨fun _ => ⟨du, dg⟩, ?_⟩
            try simp only [List.setIfInBounds_toArray, List.set_cons_zero, List.set_cons_succ]
            refine rg_list (l := [20]) (by kernel_rfl) rfl ?_
            intro i hi
            obtain rfl := List.mem_singleton.1 hi
            refine rg_store #[true, true, true, true, true, true, true, true, true, true, true, true, true, true, true, true, true, true, true, true, true] (by kernel_rfl) rfl rfl (by kernel_rfl) 32 _ _ rfl (x1.heap.size) (wcl false (lb (U % D))) rfl rfl 32 _ dr sz32 rfl (wcl_all _ _) ?_
            intro x59 hc hn
            have nB := below_chg' dB hc (by omega) (by omega)
            have yyx59 := hc.size
            replace dg : Blk x59 (g) T (serC a b c d t) := dg.chg hc (by omega)
            replace dp : Blk x59 (w.heap.size) 32 (wcl false fun _ => 0) := dp.chg hc (by omega)
            replace du : Blk x59 (w2.heap.size) 32 (wcl false (lb U)) := du.chg hc (by omega)
            replace ds : Blk x59 (w2.heap.size + 1) 32 (wcl sn (lb SM)) := ds.chg hc (by omega)
            replace dt : Blk x59 (x45.heap.size) 32 (wcl false (lb (U / D))) := dt.chg hc (by omega)
            replace dr : Blk x59 (x1.heap.size) 32 (wcl false (lb (U % D))) := hn
            have zg_61 := dg.lt
            have zp_61 := dp.lt
            have zu_61 := du.lt
            have zs_61 := ds.lt
            have zr_61 := dr.lt
            have zt_61 := dt.lt
            replace dB := nB
            clear nB
            clear hc hn
            refine ⟨fun _ => ⟨du, dg⟩, ?_⟩
            try simp only [List.setIfInBounds_toArray, List.set_cons_zero, List.set_cons_succ]
            refine wpAnyT_done (by kernel_rfl) ?_ _
            go_wp2_with fail
            go_meet
            case rel => exact ⟨_, rfl, by omega, dg, dp, du, ds, dt, dB⟩
      case rest =>
        clear dg dp du ds dB yg yp yu ys
        obtain ⟨G, rfl, hGs, dg, dp, du, ds, dt, dB⟩ := hcut
        obtain ⟨v5, hv5⟩ : ∃ v5, v5 = wc := ⟨_, rfl⟩
        subst hv5
        have c4 : v5.cell? ⟨g, 4, none⟩ = some (.bool t) := dg.cell 4
        have yg := dg.lt
        have yp := dp.lt
        have yu := du.lt
        have ys := ds.lt
        have yt := dt.lt
        go_upto_region 6 with fail
        go_cut [49] (fun q wx => ∃ B : Bool, q = .bool B ∧ wx = v5)
        case first =>
          have hk0 : (0 : Int) ≤ (k : Int) := Int.natCast_nonneg k
          cases t
          all_goals
            go_wp2_with fail
            go_meet
            case rel => exact ⟨_, rfl, rfl⟩
        case rest =>
          obtain ⟨B, rfl, rfl⟩ := hcut
          go_upto_if 49 with fail
          go_cut [] (fun wx => ∃ tn : Bool, Blk wx (g) T (serC a b c d t) ∧ Blk wx (w.heap.size) 32 (wcl false fun _ => 0) ∧ Blk wx (w2.heap.size) 32 (wcl false (lb U)) ∧ Blk wx (w2.heap.size + 1) 32 (wcl sn (lb SM)) ∧ Blk wx (G) 32 (wcl tn (lb (U / D))) ∧ Below w.heap.size w wx)
          case first =>
            cases B
            · go_wp2_with fail
              go_meet
              case rel => exact ⟨false, dg, dp, du, ds, dt, dB⟩
            · have hTp : U / D < pw 6 := Nat.lt_of_le_of_lt (Nat.div_le_self _ _) hUp
              go_wp2_with (first
                | ((with_reducible change wpList _ _ _ (Oper.mk (some 50) (Op.load 32 _) _ _ _ _ :: _) _ _); refine wpList_load_row rfl 32 _ rfl (G) rfl 32 _ _ _ (dt) Try.underlying32 rfl sz32 ?_))
              refine (calls_args (args' := #[wdv false (U / D)]) rfl (refNeg_sg false (U / D) hTp _)).mono ?_
              rintro e w3 ⟨rfl, hb⟩
              have ng : Blk w3 (g) T (serC a b c d t) := (dg).later hb
              have np : Blk w3 (w.heap.size) 32 (wcl false fun _ => 0) := (dp).later hb
              have nu : Blk w3 (w2.heap.size) 32 (wcl false (lb U)) := (du).later hb
              have ns : Blk w3 (w2.heap.size + 1) 32 (wcl sn (lb SM)) := (ds).later hb
              have nt : Blk w3 (G) 32 (wcl false (lb (U / D))) := (dt).later hb
              have nB : Below w.heap.size w w3 := below_then dB hb
              have yw3_2 := hb.size
              try simp only [World.size_alloc, size_setRow] at yw3_2
              clear hb dg dp du ds dt dB
              have dg := ng
              have zg_2 := dg.lt
              have dp := np
              have zp_2 := dp.lt
              have du := nu
              have zu_2 := du.lt
              have ds := ns
              have zs_2 := ds.lt
              have dt := nt
              have zt_2 := dt.lt
              have dB := nB
              clear ng np nu ns nt nB
              go_wp2_with (first
                | ((with_reducible change wpList _ _ _ (Oper.mk none (Op.store 32 (Operand.tmp 10) _) _ _ _ _ :: _) _ _); refine wpList_store_row rfl 32 _ _ rfl (G) (wcl (sg true (U / D)) (lb (U / D))) rfl rfl 32 _ (dt) sz32 rfl (wcl_all _ _) ?_))
              go_meet
              case rel => exact ⟨sg true (U / D), (dg.row_far (by omega) _), (dp.row_far (by omega) _), (du.row_far (by omega) _), (ds.row_far (by omega) _), (dt.row (wcl (sg true (U / D)) (lb (U / D)))), (below_row dB (by omega) _)⟩
          case rest =>
            clear dg dp du ds dt dB yg yp yu ys yt c4
            obtain ⟨tn, dg, dp, du, ds, dt, dB⟩ := hcut
            obtain ⟨v6, hv6⟩ : ∃ v6, v6 = wc := ⟨_, rfl⟩
            subst hv6
            have yg := dg.lt
            have yp := dp.lt
            have yu := du.lt
            have ys := ds.lt
            have yt := dt.lt
            have hTp : U / D < pw 6 := Nat.lt_of_le_of_lt (Nat.div_le_self _ _) hUp
            obtain ⟨n3, S3, c3, hS3, hadd⟩ := refAdd_ex sn tn SM (U / D) hSM hTp
            have hUa : U * a < pw 6 := by
              have := HUb.out
              have h8 : U * a ≤ 2 ^ 75 * 500 := Nat.mul_le_mul (by omega) (by omega)
              exact Nat.lt_of_le_of_lt h8 (by decide)
            have hap : a < pw 6 := Nat.lt_of_le_of_lt (show a ≤ 1000 by omega) (by decide)
            have hbp : b < pw 6 := Nat.lt_of_le_of_lt h2 (by decide)
            have hmul : ∀ w, Calls Try.prog 70 #[wdv false U, wdv false a] w fun e w' => e = .returned (.tuple #[wdv false (U * a), .int .i64 0]) ∧ Below w.heap.size w w' := fun w => by
              have := refMulN U a hUp hap w
              rw [if_pos hUa, if_pos hUa] at this
              exact this
            go_wp2_with (first
              | ((with_reducible change wpList _ _ _ (Oper.mk (some 53) (Op.load 32 _) _ _ _ _ :: _) _ _); refine wpList_load_row rfl 32 _ rfl (w2.heap.size + 1) rfl 32 _ _ _ (ds) Try.underlying32 rfl sz32 ?_)
              | ((with_reducible change wpList _ _ _ (Oper.mk (some 54) (Op.load 32 _) _ _ _ _ :: _) _ _); refine wpList_load_row rfl 32 _ rfl (G) rfl 32 _ _ _ (dt) Try.underlying32 rfl sz32 ?_))
            refine (calls_args (args' := #[wdv sn SM, wdv tn (U / D)]) rfl (hadd _)).mono ?_
            rintro e w3 ⟨rfl, hb⟩
            have ng : Blk w3 (g) T (serC a b c d t) := (dg).later hb
            have np : Blk w3 (w.heap.size) 32 (wcl false fun _ => 0) := (dp).later hb
            have nu : Blk w3 (w2.heap.size) 32 (wcl false (lb U)) := (du).later hb
            have ns : Blk w3 (w2.heap.size + 1) 32 (wcl sn (lb SM)) := (ds).later hb
            have nt : Blk w3 (G) 32 (wcl tn (lb (U / D))) := (dt).later hb
            have nB : Below w.heap.size w w3 := below_then dB hb
            have yw3_2 := hb.size
            try simp only [World.size_alloc, size_setRow] at yw3_2
            clear hb dg dp du ds dt dB
            have dg := ng
            have zg_2 := dg.lt
            have dp := np
            have zp_2 := dp.lt
            have du := nu
            have zu_2 := du.lt
            have ds := ns
            have zs_2 := ds.lt
            have dt := nt
            have zt_2 := dt.lt
            have dB := nB
            clear ng np nu ns nt nB
            go_wp2_with (first
              | ((with_reducible change wpList _ _ _ (Oper.mk none (Op.store 32 (Operand.tmp 8) _) _ _ _ _ :: _) _ _); refine wpList_store_row rfl 32 _ _ rfl (w2.heap.size + 1) (wcl n3 (lb S3)) rfl rfl 32 _ (ds) sz32 rfl (wcl_all _ _) ?_))
            try go_frame
            go_cut [12] (fun p wx => ∃ X, p = .pointer (some ⟨X, 0, none⟩) ∧ w2.heap.size + 1 < X ∧ Blk wx (g) T (serC a b c d t) ∧ Blk wx (w.heap.size) 32 (wcl false fun _ => 0) ∧ Blk wx (w2.heap.size) 32 (wcl false (lb U)) ∧ Blk wx (w2.heap.size + 1) 32 (wcl n3 (lb S3)) ∧ Blk wx X 32 (wcl false (lb (U * a))) ∧ Below w.heap.size w wx)
            case first =>
              refine rg_begin ( fun w' => Blk w' (w2.heap.size) 32 (wcl false (lb U)) ∧ Blk w' (g) T (serC a b c d t)) 13 13 #[false, false, false, false, false, false, false, false, false, false, false, false, false] rfl rfl rfl ?_
              intro x1 hb
              have ng : Blk x1 (g) T (serC a b c d t) := ((dg.row_far (by omega) _)).later hb
              have np : Blk x1 (w.heap.size) 32 (wcl false fun _ => 0) := ((dp.row_far (by omega) _)).later hb
              have nu : Blk x1 (w2.heap.size) 32 (wcl false (lb U)) := ((du.row_far (by omega) _)).later hb
              have ns : Blk x1 (w2.heap.size + 1) 32 (wcl n3 (lb S3)) := ((ds.row (wcl n3 (lb S3)))).later hb
              have nt : Blk x1 (G) 32 (wcl tn (lb (U / D))) := ((dt.row_far (by omega) _)).later hb
              have nB : Below w.heap.size w x1 := below_then (below_row dB (by omega) _) hb
              have yx1_3 := hb.size
              try simp only [World.size_alloc, size_setRow] at yx1_3
              clear hb dg dp du ds dt dB
              have dg := ng
              have zg_3 := dg.lt
              have dp := np
              have zp_3 := dp.lt
              have du := nu
              have zu_3 := du.lt
              have ds := ns
              have zs_3 := ds.lt
              have dt := nt
              have zt_3 := dt.lt
              have dB := nB
              clear ng np nu ns nt nB
              refine wpAnyT_take (i := 0) #[true, false, false, false, false, false, false, false, false, false, false, false, false] (by kernel_rfl) 59 rfl rfl (by kernel_rfl) (by kernel_rfl) (by kernel_rfl) (by kernel_rfl) (by kernel_rfl) (fun _ _ _ h => h) (yields_row 32 _ rfl rfl (w2.heap.size) rfl 32 _ _ (fun w h => h.1) Try.underlying32 rfl sz32) ⟨du, dg⟩ ?_
              try simp only [List.setIfInBounds_toArray, List.set_cons_zero, List.set_cons_succ]
              refine wpAnyT_take (i := 1) (v := .pointer (some ⟨g, 0, none⟩)) #[true, true, false, false, false, false, false, false, false, false, false, false, false] (by kernel_rfl) 60 rfl rfl (by kernel_rfl) (by kernel_rfl) (by kernel_rfl) (by kernel_rfl) (by kernel_rfl) (fun _ _ _ h => h) (.inl ⟨rfl, fun _ _ => by unfold execOp; simp [go_sem]⟩) ⟨du, dg⟩ ?_
              try simp only [List.setIfInBounds_toArray, List.set_cons_zero, List.set_cons_succ]
              refine wpAnyT_take (i := 2) (v := .pointer (some ⟨g, 0, none⟩)) #[true, true, true, false, false, false, false, false, false, false, false, false, false] (by kernel_rfl) 61 rfl rfl (by kernel_rfl) (by kernel_rfl) (by kernel_rfl) (by kernel_rfl) (by kernel_rfl) (fun _ _ _ h => h) (.inl ⟨rfl, fun _ _ => by unfold execOp; simp [go_sem]⟩) ⟨du, dg⟩ ?_
              try simp only [List.setIfInBounds_toArray, List.set_cons_zero, List.set_cons_succ]
              refine wpAnyT_take (i := 3) (v := .pointer (some ⟨g, 0, none⟩)) #[true, true, true, true, false, false, false, false, false, false, false, false, false] (by kernel_rfl) 62 rfl rfl (by kernel_rfl) (by kernel_rfl) (by kernel_rfl) (by kernel_rfl) (by kernel_rfl) (fun _ _ _ h => h) (.inl ⟨rfl, fun _ _ => by unfold execOp; simp [go_sem]⟩) ⟨du, dg⟩ ?_
              try simp only [List.setIfInBounds_toArray, List.set_cons_zero, List.set_cons_succ]
              refine wpAnyT_take (i := 4) #[true, true, true, true, true, false, false, false, false, false, false, false, false] (by kernel_rfl) 63 rfl rfl (by kernel_rfl) (by kernel_rfl) (by kernel_rfl) (by kernel_rfl) (by kernel_rfl) (fun _ _ _ h => h) (yields_cell 2 _ rfl rfl _ rfl _ (Try.underlying2) rfl (.int .i64 a) (fun w h => (h.2.cell 0).trans rfl)) ⟨du, dg⟩ ?_
              try simp only [List.setIfInBounds_toArray, List.set_cons_zero, List.set_cons_succ]
              refine rg_list (l := [5, 10]) (by kernel_rfl) rfl ?_
              intro i hi
              simp only [List.mem_cons, List.not_mem_nil, or_false] at hi
              rcases hi with rfl | rfl
              · refine rg_call #[true, true, true, true, true, true, false, false, false, false, false, false, false] (by kernel_rfl) 64 rfl rfl (by kernel_rfl) 71 #[.int .i64 a] (by kernel_rfl) (refOfN a (by omega) _) ?_
                intro x2 hb
                have ng : Blk x2 (g) T (serC a b c d t) := (dg).later hb
                have np : Blk x2 (w.heap.size) 32 (wcl false fun _ => 0) := (dp).later hb
                have nu : Blk x2 (w2.heap.size) 32 (wcl false (lb U)) := (du).later hb
                have ns : Blk x2 (w2.heap.size + 1) 32 (wcl n3 (lb S3)) := (ds).later hb
                have nt : Blk x2 (G) 32 (wcl tn (lb (U / D))) := (dt).later hb
                have nB : Below w.heap.size w x2 := below_then dB hb
                have yx2_4 := hb.size
                try simp only [World.size_alloc, size_setRow] at yx2_4
                clear hb dg dp du ds dt dB
                have dg := ng
                have zg_4 := dg.lt
                have dp := np
                have zp_4 := dp.lt
                have du := nu
                have zu_4 := du.lt
                have ds := ns
                have zs_4 := ds.lt
                have dt := nt
                have zt_4 := dt.lt
                have dB := nB
                clear ng np nu ns nt nB
                refine ⟨fun _ => ⟨du, dg⟩, ?_⟩
                try simp only [List.setIfInBounds_toArray, List.set_cons_zero, List.set_cons_succ]
                refine rg_list (l := [6, 10]) (by kernel_rfl) rfl ?_
                intro i hi
                simp only [List.mem_cons, List.not_mem_nil, or_false] at hi
                rcases hi with rfl | rfl
                · refine rg_call #[true, true, true, true, true, true, true, false, false, false, false, false, false] (by kernel_rfl) 65 rfl rfl (by kernel_rfl) 70 #[wdv false U, wdv false a] (by kernel_rfl) (hmul _) ?_
                  intro x3 hb
                  have ng : Blk x3 (g) T (serC a b c d t) := (dg).later hb
                  have np : Blk x3 (w.heap.size) 32 (wcl false fun _ => 0) := (dp).later hb
                  have nu : Blk x3 (w2.heap.size) 32 (wcl false (lb U)) := (du).later hb
                  have ns : Blk x3 (w2.heap.size + 1) 32 (wcl n3 (lb S3)) := (ds).later hb
                  have nt : Blk x3 (G) 32 (wcl tn (lb (U / D))) := (dt).later hb
                  have nB : Below w.heap.size w x3 := below_then dB hb
                  have yx3_5 := hb.size
                  try simp only [World.size_alloc, size_setRow] at yx3_5
                  clear hb dg dp du ds dt dB
                  have dg := ng
                  have zg_5 := dg.lt
                  have dp := np
                  have zp_5 := dp.lt
                  have du := nu
                  have zu_5 := du.lt
                  have ds := ns
                  have zs_5 := ds.lt
                  have dt := nt
                  have zt_5 := dt.lt
                  have dB := nB
                  clear ng np nu ns nt nB
                  refine ⟨fun _ => ⟨du, dg⟩, ?_⟩
                  try simp only [List.setIfInBounds_toArray, List.set_cons_zero, List.set_cons_succ]
                  refine wpAnyT_take (i := 7) (v := .tuple #[wdv false (U * a), .int .i64 0]) #[true, true, true, true, true, true, true, true, false, false, false, false, false] (by kernel_rfl) 58 rfl rfl (by kernel_rfl) (by kernel_rfl) (by kernel_rfl) (by kernel_rfl) (by kernel_rfl) (fun _ _ _ h => h) (.inl ⟨rfl, fun _ _ => by unfold execOp; simp [go_sem]⟩) ⟨du, dg⟩ ?_
                  try simp only [List.setIfInBounds_toArray, List.set_cons_zero, List.set_cons_succ]
                  refine wpAnyT_take (i := 8) (v := wdv false (U * a)) #[true, true, true, true, true, true, true, true, true, false, false, false, false] (by kernel_rfl) 66 rfl rfl (by kernel_rfl) (by kernel_rfl) (by kernel_rfl) (by kernel_rfl) (by kernel_rfl) (fun _ _ _ h => h) (.inl ⟨rfl, fun _ _ => by unfold execOp; simp [go_sem]⟩) ⟨du, dg⟩ ?_
                  try simp only [List.setIfInBounds_toArray, List.set_cons_zero, List.set_cons_succ]
                  refine wpAnyT_take (i := 9) (v := .int .i64 0) #[true, true, true, true, true, true, true, true, true, true, false, false, false] (by kernel_rfl) 67 rfl rfl (by kernel_rfl) (by kernel_rfl) (by kernel_rfl) (by kernel_rfl) (by kernel_rfl) (fun _ _ _ h => h) (.inl ⟨rfl, fun _ _ => by unfold execOp; simp [go_sem]⟩) ⟨du, dg⟩ ?_
                  try simp only [List.setIfInBounds_toArray, List.set_cons_zero, List.set_cons_succ]
                  refine rg_list (l := [10]) (by kernel_rfl) rfl ?_
                  intro i hi
                  obtain rfl := List.mem_singleton.1 hi
                  refine rg_alloc #[true, true, true, true, true, true, true, true, true, true, true, false, false] (by kernel_rfl) 12 rfl rfl (by kernel_rfl) 32 (wcl false fun _ => 0) (by kernel_rfl) ?_
                  intro x4 hn hb
                  have ng : Blk x4 (g) T (serC a b c d t) := (dg).later hb
                  have np : Blk x4 (w.heap.size) 32 (wcl false fun _ => 0) := (dp).later hb
                  have nu : Blk x4 (w2.heap.size) 32 (wcl false (lb U)) := (du).later hb
                  have ns : Blk x4 (w2.heap.size + 1) 32 (wcl n3 (lb S3)) := (ds).later hb
                  have nt : Blk x4 (G) 32 (wcl tn (lb (U / D))) := (dt).later hb
                  have nB : Below w.heap.size w x4 := below_then dB hb
                  have yx4_6 := hb.size
                  try simp only [World.size_alloc, size_setRow] at yx4_6
                  clear dg dp du ds dt dB
                  have dg := ng
                  have zg_6 := dg.lt
                  have dp := np
                  have zp_6 := dp.lt
                  have du := nu
                  have zu_6 := du.lt
                  have ds := ns
                  have zs_6 := ds.lt
                  have dt := nt
                  have zt_6 := dt.lt
                  have dB := nB
                  clear ng np nu ns nt nB
                  have dx := hn
                  have zx_7 := hn.lt
                  clear hn hb
                  refine ⟨fun _ => ⟨du, dg⟩, ?_⟩
                  try simp only [List.setIfInBounds_toArray, List.set_cons_zero, List.set_cons_succ]
                  refine rg_list (l := [11]) (by kernel_rfl) rfl ?_
                  intro i hi
                  obtain rfl := List.mem_singleton.1 hi
                  refine rg_store #[true, true, true, true, true, true, true, true, true, true, true, true, false] (by kernel_rfl) rfl rfl (by kernel_rfl) 32 _ _ rfl (x3.heap.size) (wcl false (lb (U * a))) rfl rfl 32 _ dx sz32 rfl (wcl_all _ _) ?_
                  intro x5 hc hn
                  have nB := below_chg' dB hc (by omega) (by omega)
                  have yyx5 := hc.size
                  replace dg : Blk x5 (g) T (serC a b c d t) := dg.chg hc (by omega)
                  replace dp : Blk x5 (w.heap.size) 32 (wcl false fun _ => 0) := dp.chg hc (by omega)
                  replace du : Blk x5 (w2.heap.size) 32 (wcl false (lb U)) := du.chg hc (by omega)
                  replace ds : Blk x5 (w2.heap.size + 1) 32 (wcl n3 (lb S3)) := ds.chg hc (by omega)
                  replace dt : Blk x5 (G) 32 (wcl tn (lb (U / D))) := dt.chg hc (by omega)
                  replace dx : Blk x5 (x3.heap.size) 32 (wcl false (lb (U * a))) := hn
                  have zg_8 := dg.lt
                  have zp_8 := dp.lt
                  have zu_8 := du.lt
                  have zs_8 := ds.lt
                  have zt_8 := dt.lt
                  have zx_8 := dx.lt
                  replace dB := nB
                  clear nB
                  clear hc hn
                  refine ⟨fun _ => ⟨du, dg⟩, ?_⟩
                  try simp only [List.setIfInBounds_toArray, List.set_cons_zero, List.set_cons_succ]
                  refine wpAnyT_take (i := 12) (v := .int .i64 0) #[true, true, true, true, true, true, true, true, true, true, true, true, true] (by kernel_rfl) 13 rfl rfl (by kernel_rfl) (by kernel_rfl) (by kernel_rfl) (by kernel_rfl) (by kernel_rfl) (fun _ _ _ h => h) (.inl ⟨rfl, fun _ _ => by unfold execOp; simp [go_sem]⟩) ⟨du, dg⟩ ?_
                  try simp only [List.setIfInBounds_toArray, List.set_cons_zero, List.set_cons_succ]
                  refine wpAnyT_done (by kernel_rfl) ?_ _
                  go_wp2_with fail
                  go_meet
                  case rel => exact ⟨_, rfl, by omega, dg, dp, du, ds, dx, dB⟩
                · refine rg_alloc #[true, true, true, true, true, true, false, false, false, false, true, false, false] (by kernel_rfl) 12 rfl rfl (by kernel_rfl) 32 (wcl false fun _ => 0) (by kernel_rfl) ?_
                  intro x6 hn hb
                  have ng : Blk x6 (g) T (serC a b c d t) := (dg).later hb
                  have np : Blk x6 (w.heap.size) 32 (wcl false fun _ => 0) := (dp).later hb
                  have nu : Blk x6 (w2.heap.size) 32 (wcl false (lb U)) := (du).later hb
                  have ns : Blk x6 (w2.heap.size + 1) 32 (wcl n3 (lb S3)) := (ds).later hb
                  have nt : Blk x6 (G) 32 (wcl tn (lb (U / D))) := (dt).later hb
                  have nB : Below w.heap.size w x6 := below_then dB hb
                  have yx6_8 := hb.size
                  try simp only [World.size_alloc, size_setRow] at yx6_8
                  clear dg dp du ds dt dB
                  have dg := ng
                  have zg_8 := dg.lt
                  have dp := np
                  have zp_8 := dp.lt
                  have du := nu
                  have zu_8 := du.lt
                  have ds := ns
                  have zs_8 := ds.lt
                  have dt := nt
                  have zt_8 := dt.lt
                  have dB := nB
                  clear ng np nu ns nt nB
                  have dx := hn
                  have zx_9 := hn.lt
                  clear hn hb
                  refine ⟨fun _ => ⟨du, dg⟩, ?_⟩
                  try simp only [List.setIfInBounds_toArray, List.set_cons_zero, List.set_cons_succ]
                  refine rg_list (l := [6]) (by kernel_rfl) rfl ?_
                  intro i hi
                  obtain rfl := List.mem_singleton.1 hi
                  refine rg_call #[true, true, true, true, true, true, true, false, false, false, true, false, false] (by kernel_rfl) 65 rfl rfl (by kernel_rfl) 70 #[wdv false U, wdv false a] (by kernel_rfl) (hmul _) ?_
                  intro x7 hb
                  have ng : Blk x7 (g) T (serC a b c d t) := (dg).later hb
                  have np : Blk x7 (w.heap.size) 32 (wcl false fun _ => 0) := (dp).later hb
                  have nu : Blk x7 (w2.heap.size) 32 (wcl false (lb U)) := (du).later hb
                  have ns : Blk x7 (w2.heap.size + 1) 32 (wcl n3 (lb S3)) := (ds).later hb
                  have nt : Blk x7 (G) 32 (wcl tn (lb (U / D))) := (dt).later hb
                  have nx : Blk x7 (x2.heap.size) 32 (wcl false fun _ => 0) := (dx).later hb
                  have nB : Below w.heap.size w x7 := below_then dB hb
                  have yx7_9 := hb.size
                  try simp only [World.size_alloc, size_setRow] at yx7_9
                  clear hb dg dp du ds dt dx dB
                  have dg := ng
                  have zg_9 := dg.lt
                  have dp := np
                  have zp_9 := dp.lt
                  have du := nu
                  have zu_9 := du.lt
                  have ds := ns
                  have zs_9 := ds.lt
                  have dt := nt
                  have zt_9 := dt.lt
                  have dx := nx
                  have zx_9 := dx.lt
                  have dB := nB
                  clear ng np nu ns nt nx nB
                  refine ⟨fun _ => ⟨du, dg⟩, ?_⟩
                  try simp only [List.setIfInBounds_toArray, List.set_cons_zero, List.set_cons_succ]
                  refine wpAnyT_take (i := 7) (v := .tuple #[wdv false (U * a), .int .i64 0]) #[true, true, true, true, true, true, true, true, false, false, true, false, false] (by kernel_rfl) 58 rfl rfl (by kernel_rfl) (by kernel_rfl) (by kernel_rfl) (by kernel_rfl) (by kernel_rfl) (fun _ _ _ h => h) (.inl ⟨rfl, fun _ _ => by unfold execOp; simp [go_sem]⟩) ⟨du, dg⟩ ?_
                  try simp only [List.setIfInBounds_toArray, List.set_cons_zero, List.set_cons_succ]
                  refine wpAnyT_take (i := 8) (v := wdv false (U * a)) #[true, true, true, true, true, true, true, true, true, false, true, false, false] (by kernel_rfl) 66 rfl rfl (by kernel_rfl) (by kernel_rfl) (by kernel_rfl) (by kernel_rfl) (by kernel_rfl) (fun _ _ _ h => h) (.inl ⟨rfl, fun _ _ => by unfold execOp; simp [go_sem]⟩) ⟨du, dg⟩ ?_
                  try simp only [List.setIfInBounds_toArray, List.set_cons_zero, List.set_cons_succ]
                  refine wpAnyT_take (i := 9) (v := .int .i64 0) #[true, true, true, true, true, true, true, true, true, true, true, false, false] (by kernel_rfl) 67 rfl rfl (by kernel_rfl) (by kernel_rfl) (by kernel_rfl) (by kernel_rfl) (by kernel_rfl) (fun _ _ _ h => h) (.inl ⟨rfl, fun _ _ => by unfold execOp; simp [go_sem]⟩) ⟨du, dg⟩ ?_
                  try simp only [List.setIfInBounds_toArray, List.set_cons_zero, List.set_cons_succ]
                  refine rg_list (l := [11]) (by kernel_rfl) rfl ?_
                  intro i hi
                  obtain rfl := List.mem_singleton.1 hi
                  refine rg_store #[true, true, true, true, true, true, true, true, true, true, true, true, false] (by kernel_rfl) rfl rfl (by kernel_rfl) 32 _ _ rfl (x2.heap.size) (wcl false (lb (U * a))) rfl rfl 32 _ dx sz32 rfl (wcl_all _ _) ?_
                  intro x8 hc hn
                  have nB := below_chg' dB hc (by omega) (by omega)
                  have yyx8 := hc.size
                  replace dg : Blk x8 (g) T (serC a b c d t) := dg.chg hc (by omega)
                  replace dp : Blk x8 (w.heap.size) 32 (wcl false fun _ => 0) := dp.chg hc (by omega)
                  replace du : Blk x8 (w2.heap.size) 32 (wcl false (lb U)) := du.chg hc (by omega)
                  replace ds : Blk x8 (w2.heap.size + 1) 32 (wcl n3 (lb S3)) := ds.chg hc (by omega)
                  replace dt : Blk x8 (G) 32 (wcl tn (lb (U / D))) := dt.chg hc (by omega)
                  replace dx : Blk x8 (x2.heap.size) 32 (wcl false (lb (U * a))) := hn
                  have zg_11 := dg.lt
                  have zp_11 := dp.lt
                  have zu_11 := du.lt
                  have zs_11 := ds.lt
                  have zt_11 := dt.lt
                  have zx_11 := dx.lt
                  replace dB := nB
                  clear nB
                  clear hc hn
                  refine ⟨fun _ => ⟨du, dg⟩, ?_⟩
                  try simp only [List.setIfInBounds_toArray, List.set_cons_zero, List.set_cons_succ]
                  refine wpAnyT_take (i := 12) (v := .int .i64 0) #[true, true, true, true, true, true, true, true, true, true, true, true, true] (by kernel_rfl) 13 rfl rfl (by kernel_rfl) (by kernel_rfl) (by kernel_rfl) (by kernel_rfl) (by kernel_rfl) (fun _ _ _ h => h) (.inl ⟨rfl, fun _ _ => by unfold execOp; simp [go_sem]⟩) ⟨du, dg⟩ ?_
                  try simp only [List.setIfInBounds_toArray, List.set_cons_zero, List.set_cons_succ]
                  refine wpAnyT_done (by kernel_rfl) ?_ _
                  go_wp2_with fail
                  go_meet
                  case rel => exact ⟨_, rfl, by omega, dg, dp, du, ds, dx, dB⟩
              · refine rg_alloc #[true, true, true, true, true, false, false, false, false, false, true, false, false] (by kernel_rfl) 12 rfl rfl (by kernel_rfl) 32 (wcl false fun _ => 0) (by kernel_rfl) ?_
                intro x9 hn hb
                have ng : Blk x9 (g) T (serC a b c d t) := (dg).later hb
                have np : Blk x9 (w.heap.size) 32 (wcl false fun _ => 0) := (dp).later hb
                have nu : Blk x9 (w2.heap.size) 32 (wcl false (lb U)) := (du).later hb
                have ns : Blk x9 (w2.heap.size + 1) 32 (wcl n3 (lb S3)) := (ds).later hb
                have nt : Blk x9 (G) 32 (wcl tn (lb (U / D))) := (dt).later hb
                have nB : Below w.heap.size w x9 := below_then dB hb
                have yx9_11 := hb.size
                try simp only [World.size_alloc, size_setRow] at yx9_11
                clear dg dp du ds dt dB
                have dg := ng
                have zg_11 := dg.lt
                have dp := np
                have zp_11 := dp.lt
                have du := nu
                have zu_11 := du.lt
                have ds := ns
                have zs_11 := ds.lt
                have dt := nt
                have zt_11 := dt.lt
                have dB := nB
                clear ng np nu ns nt nB
                have dx := hn
                have zx_12 := hn.lt
                clear hn hb
                refine ⟨fun _ => ⟨du, dg⟩, ?_⟩
                try simp only [List.setIfInBounds_toArray, List.set_cons_zero, List.set_cons_succ]
                refine rg_list (l := [5]) (by kernel_rfl) rfl ?_
                intro i hi
                obtain rfl := List.mem_singleton.1 hi
                refine rg_call #[true, true, true, true, true, true, false, false, false, false, true, false, false] (by kernel_rfl) 64 rfl rfl (by kernel_rfl) 71 #[.int .i64 a] (by kernel_rfl) (refOfN a (by omega) _) ?_
                intro x10 hb
                have ng : Blk x10 (g) T (serC a b c d t) := (dg).later hb
                have np : Blk x10 (w.heap.size) 32 (wcl false fun _ => 0) := (dp).later hb
                have nu : Blk x10 (w2.heap.size) 32 (wcl false (lb U)) := (du).later hb
                have ns : Blk x10 (w2.heap.size + 1) 32 (wcl n3 (lb S3)) := (ds).later hb
                have nt : Blk x10 (G) 32 (wcl tn (lb (U / D))) := (dt).later hb
                have nx : Blk x10 (x1.heap.size) 32 (wcl false fun _ => 0) := (dx).later hb
                have nB : Below w.heap.size w x10 := below_then dB hb
                have yx10_12 := hb.size
                try simp only [World.size_alloc, size_setRow] at yx10_12
                clear hb dg dp du ds dt dx dB
                have dg := ng
                have zg_12 := dg.lt
                have dp := np
                have zp_12 := dp.lt
                have du := nu
                have zu_12 := du.lt
                have ds := ns
                have zs_12 := ds.lt
                have dt := nt
                have zt_12 := dt.lt
                have dx := nx
                have zx_12 := dx.lt
                have dB := nB
                clear ng np nu ns nt nx nB
                refine ⟨fun _ => ⟨du, dg⟩, ?_⟩
                try simp only [List.setIfInBounds_toArray, List.set_cons_zero, List.set_cons_succ]
                refine rg_list (l := [6]) (by kernel_rfl) rfl ?_
                intro i hi
                obtain rfl := List.mem_singleton.1 hi
                refine rg_call #[true, true, true, true, true, true, true, false, false, false, true, false, false] (by kernel_rfl) 65 rfl rfl (by kernel_rfl) 70 #[wdv false U, wdv false a] (by kernel_rfl) (hmul _) ?_
                intro x11 hb
                have ng : Blk x11 (g) T (serC a b c d t) := (dg).later hb
                have np : Blk x11 (w.heap.size) 32 (wcl false fun _ => 0) := (dp).later hb
                have nu : Blk x11 (w2.heap.size) 32 (wcl false (lb U)) := (du).later hb
                have ns : Blk x11 (w2.heap.size + 1) 32 (wcl n3 (lb S3)) := (ds).later hb
                have nt : Blk x11 (G) 32 (wcl tn (lb (U / D))) := (dt).later hb
                have nx : Blk x11 (x1.heap.size) 32 (wcl false fun _ => 0) := (dx).later hb
                have nB : Below w.heap.size w x11 := below_then dB hb
                have yx11_13 := hb.size
                try simp only [World.size_alloc, size_setRow] at yx11_13
                clear hb dg dp du ds dt dx dB
                have dg := ng
                have zg_13 := dg.lt
                have dp := np
                have zp_13 := dp.lt
                have du := nu
                have zu_13 := du.lt
                have ds := ns
                have zs_13 := ds.lt
                have dt := nt
                have zt_13 := dt.lt
                have dx := nx
                have zx_13 := dx.lt
                have dB := nB
                clear ng np nu ns nt nx nB
                refine ⟨fun _ => ⟨du, dg⟩, ?_⟩
                try simp only [List.setIfInBounds_toArray, List.set_cons_zero, List.set_cons_succ]
                refine wpAnyT_take (i := 7) (v := .tuple #[wdv false (U * a), .int .i64 0]) #[true, true, true, true, true, true, true, true, false, false, true, false, false] (by kernel_rfl) 58 rfl rfl (by kernel_rfl) (by kernel_rfl) (by kernel_rfl) (by kernel_rfl) (by kernel_rfl) (fun _ _ _ h => h) (.inl ⟨rfl, fun _ _ => by unfold execOp; simp [go_sem]⟩) ⟨du, dg⟩ ?_
                try simp only [List.setIfInBounds_toArray, List.set_cons_zero, List.set_cons_succ]
                refine wpAnyT_take (i := 8) (v := wdv false (U * a)) #[true, true, true, true, true, true, true, true, true, false, true, false, false] (by kernel_rfl) 66 rfl rfl (by kernel_rfl) (by kernel_rfl) (by kernel_rfl) (by kernel_rfl) (by kernel_rfl) (fun _ _ _ h => h) (.inl ⟨rfl, fun _ _ => by unfold execOp; simp [go_sem]⟩) ⟨du, dg⟩ ?_
                try simp only [List.setIfInBounds_toArray, List.set_cons_zero, List.set_cons_succ]
                refine wpAnyT_take (i := 9) (v := .int .i64 0) #[true, true, true, true, true, true, true, true, true, true, true, false, false] (by kernel_rfl) 67 rfl rfl (by kernel_rfl) (by kernel_rfl) (by kernel_rfl) (by kernel_rfl) (by kernel_rfl) (fun _ _ _ h => h) (.inl ⟨rfl, fun _ _ => by unfold execOp; simp [go_sem]⟩) ⟨du, dg⟩ ?_
                try simp only [List.setIfInBounds_toArray, List.set_cons_zero, List.set_cons_succ]
                refine rg_list (l := [11]) (by kernel_rfl) rfl ?_
                intro i hi
                obtain rfl := List.mem_singleton.1 hi
                refine rg_store #[true, true, true, true, true, true, true, true, true, true, true, true, false] (by kernel_rfl) rfl rfl (by kernel_rfl) 32 _ _ rfl (x1.heap.size) (wcl false (lb (U * a))) rfl rfl 32 _ dx sz32 rfl (wcl_all _ _) ?_
                intro x12 hc hn
                have nB := below_chg' dB hc (by omega) (by omega)
                have yyx12 := hc.size
                replace dg : Blk x12 (g) T (serC a b c d t) := dg.chg hc (by omega)
                replace dp : Blk x12 (w.heap.size) 32 (wcl false fun _ => 0) := dp.chg hc (by omega)
                replace du : Blk x12 (w2.heap.size) 32 (wcl false (lb U)) := du.chg hc (by omega)
                replace ds : Blk x12 (w2.heap.size + 1) 32 (wcl n3 (lb S3)) := ds.chg hc (by omega)
                replace dt : Blk x12 (G) 32 (wcl tn (lb (U / D))) := dt.chg hc (by omega)
                replace dx : Blk x12 (x1.heap.size) 32 (wcl false (lb (U * a))) := hn
                have zg_15 := dg.lt
                have zp_15 := dp.lt
                have zu_15 := du.lt
                have zs_15 := ds.lt
                have zt_15 := dt.lt
                have zx_15 := dx.lt
                replace dB := nB
                clear nB
                clear hc hn
                refine ⟨fun _ => ⟨du, dg⟩, ?_⟩
                try simp only [List.setIfInBounds_toArray, List.set_cons_zero, List.set_cons_succ]
                refine wpAnyT_take (i := 12) (v := .int .i64 0) #[true, true, true, true, true, true, true, true, true, true, true, true, true] (by kernel_rfl) 13 rfl rfl (by kernel_rfl) (by kernel_rfl) (by kernel_rfl) (by kernel_rfl) (by kernel_rfl) (fun _ _ _ h => h) (.inl ⟨rfl, fun _ _ => by unfold execOp; simp [go_sem]⟩) ⟨du, dg⟩ ?_
                try simp only [List.setIfInBounds_toArray, List.set_cons_zero, List.set_cons_succ]
                refine wpAnyT_done (by kernel_rfl) ?_ _
                go_wp2_with fail
                go_meet
                case rel => exact ⟨_, rfl, by omega, dg, dp, du, ds, dx, dB⟩
            case rest =>
              clear dg dp du ds dt dB yg yp yu ys yt
              obtain ⟨X, rfl, hXs, dg, dp, du, ds, dx, dB⟩ := hcut
              obtain ⟨v7, hv7⟩ : ∃ v7, v7 = wc := ⟨_, rfl⟩
              subst hv7
              have yg := dg.lt
              have yp := dp.lt
              have yu := du.lt
              have ys := ds.lt
              have yx := dx.lt
              go_wp2_with fail
              refine rg_begin ( fun w' => Blk w' (X) 32 (wcl false (lb (U * a))) ∧ Blk w' (g) T (serC a b c d t)) 11 11 #[false, false, false, false, false, false, false, false, false, false, false] rfl rfl rfl ?_
              intro x1 hb
              have ng : Blk x1 (g) T (serC a b c d t) := (dg).later hb
              have np : Blk x1 (w.heap.size) 32 (wcl false fun _ => 0) := (dp).later hb
              have nu : Blk x1 (w2.heap.size) 32 (wcl false (lb U)) := (du).later hb
              have ns : Blk x1 (w2.heap.size + 1) 32 (wcl n3 (lb S3)) := (ds).later hb
              have nx : Blk x1 (X) 32 (wcl false (lb (U * a))) := (dx).later hb
              have nB : Below w.heap.size w x1 := below_then dB hb
              have yx1_3 := hb.size
              try simp only [World.size_alloc, size_setRow] at yx1_3
              clear hb dg dp du ds dx dB
              have dg := ng
              have zg_3 := dg.lt
              have dp := np
              have zp_3 := dp.lt
              have du := nu
              have zu_3 := du.lt
              have ds := ns
              have zs_3 := ds.lt
              have dx := nx
              have zx_3 := dx.lt
              have dB := nB
              clear ng np nu ns nx nB
              refine wpAnyT_take (i := 0) #[true, false, false, false, false, false, false, false, false, false, false] (by kernel_rfl) 69 rfl rfl (by kernel_rfl) (by kernel_rfl) (by kernel_rfl) (by kernel_rfl) (by kernel_rfl) (fun _ _ _ h => h) (yields_row 32 _ rfl rfl (X) rfl 32 _ _ (fun w h => h.1) Try.underlying32 rfl sz32) ⟨dx, dg⟩ ?_
              try simp only [List.setIfInBounds_toArray, List.set_cons_zero, List.set_cons_succ]
              refine wpAnyT_take (i := 1) (v := .pointer (some ⟨g, 0, none⟩)) #[true, true, false, false, false, false, false, false, false, false, false] (by kernel_rfl) 70 rfl rfl (by kernel_rfl) (by kernel_rfl) (by kernel_rfl) (by kernel_rfl) (by kernel_rfl) (fun _ _ _ h => h) (.inl ⟨rfl, fun _ _ => by unfold execOp; simp [go_sem]⟩) ⟨dx, dg⟩ ?_
              try simp only [List.setIfInBounds_toArray, List.set_cons_zero, List.set_cons_succ]
              refine wpAnyT_take (i := 2) (v := .pointer (some ⟨g, 0, none⟩)) #[true, true, true, false, false, false, false, false, false, false, false] (by kernel_rfl) 71 rfl rfl (by kernel_rfl) (by kernel_rfl) (by kernel_rfl) (by kernel_rfl) (by kernel_rfl) (fun _ _ _ h => h) (.inl ⟨rfl, fun _ _ => by unfold execOp; simp [go_sem]⟩) ⟨dx, dg⟩ ?_
              try simp only [List.setIfInBounds_toArray, List.set_cons_zero, List.set_cons_succ]
              refine wpAnyT_take (i := 3) (v := .pointer (some ⟨g, 1, none⟩)) #[true, true, true, true, false, false, false, false, false, false, false] (by kernel_rfl) 72 rfl rfl (by kernel_rfl) (by kernel_rfl) (by kernel_rfl) (by kernel_rfl) (by kernel_rfl) (fun _ _ _ h => h) (.inl ⟨rfl, fun _ _ => by unfold execOp; simp [go_sem]⟩) ⟨dx, dg⟩ ?_
              try simp only [List.setIfInBounds_toArray, List.set_cons_zero, List.set_cons_succ]
              refine wpAnyT_take (i := 4) #[true, true, true, true, true, false, false, false, false, false, false] (by kernel_rfl) 73 rfl rfl (by kernel_rfl) (by kernel_rfl) (by kernel_rfl) (by kernel_rfl) (by kernel_rfl) (fun _ _ _ h => h) (yields_cell 2 _ rfl rfl _ rfl _ (Try.underlying2) rfl (.int .i64 b) (fun w h => (h.2.cell 1).trans rfl)) ⟨dx, dg⟩ ?_
              try simp only [List.setIfInBounds_toArray, List.set_cons_zero, List.set_cons_succ]
              refine rg_list (l := [5]) (by kernel_rfl) rfl ?_
              intro i hi
              obtain rfl := List.mem_singleton.1 hi
              refine rg_call #[true, true, true, true, true, true, false, false, false, false, false] (by kernel_rfl) 74 rfl rfl (by kernel_rfl) 71 #[.int .i64 b] (by kernel_rfl) (refOfN b (by omega) _) ?_
              intro x2 hb
              have ng : Blk x2 (g) T (serC a b c d t) := (dg).later hb
              have np : Blk x2 (w.heap.size) 32 (wcl false fun _ => 0) := (dp).later hb
              have nu : Blk x2 (w2.heap.size) 32 (wcl false (lb U)) := (du).later hb
              have ns : Blk x2 (w2.heap.size + 1) 32 (wcl n3 (lb S3)) := (ds).later hb
              have nx : Blk x2 (X) 32 (wcl false (lb (U * a))) := (dx).later hb
              have nB : Below w.heap.size w x2 := below_then dB hb
              have yx2_4 := hb.size
              try simp only [World.size_alloc, size_setRow] at yx2_4
              clear hb dg dp du ds dx dB
              have dg := ng
              have zg_4 := dg.lt
              have dp := np
              have zp_4 := dp.lt
              have du := nu
              have zu_4 := du.lt
              have ds := ns
              have zs_4 := ds.lt
              have dx := nx
              have zx_4 := dx.lt
              have dB := nB
              clear ng np nu ns nx nB
              refine ⟨fun _ => ⟨dx, dg⟩, ?_⟩
              try simp only [List.setIfInBounds_toArray, List.set_cons_zero, List.set_cons_succ]
              refine rg_list (l := [6]) (by kernel_rfl) rfl ?_
              intro i hi
              obtain rfl := List.mem_singleton.1 hi
              refine rg_call #[true, true, true, true, true, true, true, false, false, false, false] (by kernel_rfl) 75 rfl rfl (by kernel_rfl) 105 #[wdv false (U * a), wdv false b] (by kernel_rfl) (refDivN (U * a) b hUa hbp (by omega) _) ?_
              intro x3 hb
              have ng : Blk x3 (g) T (serC a b c d t) := (dg).later hb
              have np : Blk x3 (w.heap.size) 32 (wcl false fun _ => 0) := (dp).later hb
              have nu : Blk x3 (w2.heap.size) 32 (wcl false (lb U)) := (du).later hb
              have ns : Blk x3 (w2.heap.size + 1) 32 (wcl n3 (lb S3)) := (ds).later hb
              have nx : Blk x3 (X) 32 (wcl false (lb (U * a))) := (dx).later hb
              have nB : Below w.heap.size w x3 := below_then dB hb
              have yx3_5 := hb.size
              try simp only [World.size_alloc, size_setRow] at yx3_5
              clear hb dg dp du ds dx dB
              have dg := ng
              have zg_5 := dg.lt
              have dp := np
              have zp_5 := dp.lt
              have du := nu
              have zu_5 := du.lt
              have ds := ns
              have zs_5 := ds.lt
              have dx := nx
              have zx_5 := dx.lt
              have dB := nB
              clear ng np nu ns nx nB
              refine ⟨fun _ => ⟨dx, dg⟩, ?_⟩
              try simp only [List.setIfInBounds_toArray, List.set_cons_zero, List.set_cons_succ]
              refine wpAnyT_take (i := 7) (v := .tuple #[wdv false (U * a / b), wdv false (U * a % b)]) #[true, true, true, true, true, true, true, true, false, false, false] (by kernel_rfl) 68 rfl rfl (by kernel_rfl) (by kernel_rfl) (by kernel_rfl) (by kernel_rfl) (by kernel_rfl) (fun _ _ _ h => h) (.inl ⟨rfl, fun _ _ => by unfold execOp; simp [go_sem]⟩) ⟨dx, dg⟩ ?_
              try simp only [List.setIfInBounds_toArray, List.set_cons_zero, List.set_cons_succ]
              refine wpAnyT_take (i := 8) (v := wdv false (U * a / b)) #[true, true, true, true, true, true, true, true, true, false, false] (by kernel_rfl) 76 rfl rfl (by kernel_rfl) (by kernel_rfl) (by kernel_rfl) (by kernel_rfl) (by kernel_rfl) (fun _ _ _ h => h) (.inl ⟨rfl, fun _ _ => by unfold execOp; simp [go_sem]⟩) ⟨dx, dg⟩ ?_
              try simp only [List.setIfInBounds_toArray, List.set_cons_zero, List.set_cons_succ]
              refine wpAnyT_take (i := 9) (v := wdv false (U * a % b)) #[true, true, true, true, true, true, true, true, true, true, false] (by kernel_rfl) 77 rfl rfl (by kernel_rfl) (by kernel_rfl) (by kernel_rfl) (by kernel_rfl) (by kernel_rfl) (fun _ _ _ h => h) (.inl ⟨rfl, fun _ _ => by unfold execOp; simp [go_sem]⟩) ⟨dx, dg⟩ ?_
              try simp only [List.setIfInBounds_toArray, List.set_cons_zero, List.set_cons_succ]
              refine rg_list (l := [10]) (by kernel_rfl) rfl ?_
              intro i hi
              obtain rfl := List.mem_singleton.1 hi
              refine rg_store #[true, true, true, true, true, true, true, true, true, true, true] (by kernel_rfl) rfl rfl (by kernel_rfl) 32 _ _ rfl (w2.heap.size) (wcl false (lb (U * a / b))) rfl rfl 32 _ du sz32 rfl (wcl_all _ _) ?_
              intro x4 hc hn
              have nB := below_chg' dB hc (by omega) (by omega)
              have yyx4 := hc.size
              replace dg : Blk x4 (g) T (serC a b c d t) := dg.chg hc (by omega)
              replace dp : Blk x4 (w.heap.size) 32 (wcl false fun _ => 0) := dp.chg hc (by omega)
              replace ds : Blk x4 (w2.heap.size + 1) 32 (wcl n3 (lb S3)) := ds.chg hc (by omega)
              replace dx : Blk x4 (X) 32 (wcl false (lb (U * a))) := dx.chg hc (by omega)
              replace du : Blk x4 (w2.heap.size) 32 (wcl false (lb (U * a / b))) := hn
              have zg_7 := dg.lt
              have zp_7 := dp.lt
              have zu_7 := du.lt
              have zs_7 := ds.lt
              have zx_7 := dx.lt
              replace dB := nB
              clear nB
              clear hc hn
              refine ⟨fun _ => ⟨dx, dg⟩, ?_⟩
              try simp only [List.setIfInBounds_toArray, List.set_cons_zero, List.set_cons_succ]
              refine wpAnyT_done (by kernel_rfl) ?_ _
              go_wp2_with fail
              go_roundg (stn a b (U * a / b))
              case measure =>
                have h8 := stn_step (u := U) h4 (by omega) (by omega)
                have h9 := HQ.out
                omega
              case rel =>
                have h8 := stn_step (u := U) h4 (by omega) (by omega)
                have h9 := HK.out
                have h10 := scn_half (u := U) h4 (by omega)
                exact ⟨k + 1, U * a / b, n3, S3, by omega, rfl, by omega, hS3, by go_num, dg, dp, du, ds, dB⟩
end Go.Proofs.Ytjgikfejfglllaa
