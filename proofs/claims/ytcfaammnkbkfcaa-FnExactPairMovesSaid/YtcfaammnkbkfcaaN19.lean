/- A run: the reference. -/
import Derived.Test.YtcfaammnkbkfcaaN18
set_option linter.unusedVariables false
set_option linter.unusedSimpArgs false
namespace Go.Proofs.Ytcfaammnkbkfcaa
open Go.RowKit


theorem celV_comm (a t b : Int) : celV a t b = celV t a b := by
  unfold celV
  rw [Nat.mul_comm, Int.mul_comm]
theorem celOk_comm (a t b : Int) : celOk a t b = celOk t a b := by
  unfold celOk
  rw [Nat.mul_comm, Int.mul_comm]
theorem run_stop' {stop : Ps → Bool} {ts : List Int} {s : Ps} (h : stop s = true) : ∀ n, run stop ts n s = s
  | 0 => rfl
  | n + 1 => run_stop h
theorem alk_twice {a c : Int} (hc : c ≠ 0) : alk [a, a + a] [c, c + c] = true := by
  have h2 : fl (a + a) (c + c) = fl a c := by
    have h := fl_spec a c hc
    obtain ⟨p, hp⟩ : ∃ p, p = c * fl a c := ⟨_, rfl⟩
    refine fl_of (by omega) ?_
    rw [Int.add_mul, ← hp]
    rw [← hp] at h
    omega
  refine alk_yes fun j hj => ?_
  match j, hj with
  | 0, _ => exact ⟨by simpa using hc, Iff.rfl, rfl⟩
  | 1, _ => exact ⟨by simp; omega, by simp; omega, by simpa using h2⟩
  | j + 2, hj => simp at hj; omega
theorem Chg.ofRow (w : World) (g : Nat) (cs : Array Value) : Chg w (w.setRow g cs) g := ⟨rfl, rfl, rfl, by rw [size_setRow]; exact Nat.le_refl _, fun k hk hne => setRow_far w g k cs hne⟩
theorem alikeT (a b c d : Int) (ha : a.natAbs ≤ 1000000000000000) (hb : b.natAbs ≤ 1000000000000000) (v u : Value) (w : World) (hr : Rd w v [a, a + b]) (hu : Rd w u [c, c + d]) :
    Calls Try.prog 145 #[v, u] w fun e w' => e = .returned (.tuple #[.int .i64 (alkV [a, a + b] [c, c + d]), .bool (alk [a, a + b] [c, c + d])]) ∧ Drw w w' :=
  alike_any v u [a, a + b] [c, c + d] (by simp) (by simp) rfl (by
    intro j hj
    match j, hj with
    | 0, _ => simp; omega
    | 1, _ => simp; omega
    | j + 2, hj => simp at hj; omega) w hr hu
theorem stp_none {ts : List Int} {s : Ps} (h1 : ts.length < s.tk) (h2 : s.c = 0) : stp ts s = none := by
  have hk : ¬ (s.k = true ∧ 0 < s.tk) := fun h => (Ps.v_eq h.1).2 h2
  unfold stp
  rw [if_neg hk, if_neg (by omega), if_neg (by omega)]
theorem v_abs {s : Ps} (ha : s.a.natAbs ≤ 1000000000000000) : s.v.natAbs ≤ 1000000000000001 := by
  by_cases h : s.k = true
  · obtain ⟨e, h0⟩ := Ps.v_eq h
    have := fl_abs s.a s.c h0
    rw [e]
    omega
  · unfold Ps.v alkV
    unfold Ps.k at h
    rw [if_neg h]
    simp
set_option maxHeartbeats 16000000 in
set_option maxRecDepth 100000 in
theorem specRun (a b c d : Int) (ts : List Int) (A : Option Addr) (cc : Nat) (hl40 : ts.length ≤ 40) (h9 : ∀ j, j < ts.length → (ts.getD j 0).natAbs ≤ 1000000000) (ha : a.natAbs ≤ 1000000000) (hb : b.natAbs ≤ 1000000000) (hc : c.natAbs ≤ 1000000000) (hd : d.natAbs ≤ 1000000000) (w : World) (hT : Tm w w.heap.size A ts) :
    Calls Try.prog 101 #[.agg #[.int .i64 a, .int .i64 b, .int .i64 c, .int .i64 d], .slice A ts.length cc] w fun e w' =>
      ∃ g, e = .returned (.pointer (some ⟨g, 0, none⟩)) ∧ w.heap.size ≤ g ∧ Inv ts (fin a b c d ts stopS) ∧ St w' 178 w.heap.size g (fin a b c d ts stopS).ml (fin a b c d ts stopS).gl (fin a b c d ts stopS).ok ∧ Below w.heap.size w w' := by
  obtain ⟨F, hF⟩ : ∃ F, F = fin a b c d ts stopS := ⟨_, rfl⟩
  rw [← hF]
  obtain ⟨bs, hbs⟩ : ∃ b, b = w.heap.size := ⟨_, rfl⟩
  rw [← hbs] at hT ⊢
  have hI : Inv ts (ps0 a b c d) := Inv.start hl40 (by omega) (by omega) (by omega) (by omega)
  have hmu : mu ts.length (ps0 a b c d) ≤ 8991 := by
    have h1 := rho_le (hI.ha rfl) (hI.hc rfl)
    show (ts.length + 1 - 0) * 201 + rho a c ≤ 8991
    have h3 : rho a c ≤ 150 := h1
    omega
  have HI := Lib.hid hI
  have HMU := Lib.hid hmu
  have H9 := Lib.hid h9
  have HF := Lib.hid hF
  have HT := Lib.hid hT
  clear hI hmu h9 hF hT ha hb hc hd
  obtain ⟨n, hn⟩ : ∃ n, n = ts.length := ⟨_, rfl⟩
  rw [← hn] at hl40 ⊢
  have HN := Lib.hid hn
  clear hn
  go_enter Try.func101, Try.ntmps101
  go_wp2_with fail
  obtain ⟨W, hW⟩ : ∃ W, W = (w.alloc (.cells #[.int .i64 a, .int .i64 b, .int .i64 c, .int .i64 d] 45)).alloc (.cells #[.slice none 0 0, .slice none 0 0, .bool true] 178) := ⟨_, rfl⟩
  obtain ⟨g, hg⟩ : ∃ g, g = w.heap.size + 1 := ⟨_, rfl⟩
  have hP : Blk W bs 45 (cls (ps0 a b c d)) ∧ St W 178 bs g [] [] true ∧ Below bs w W := by
    rw [hW, hg, hbs]
    exact ⟨(Blk.new w 45 _).alloc _, ⟨.slice none 0 0, .slice none 0 0, Blk.newAt (by simp) 178 _, ⟨rfl, .inl ⟨rfl, rfl⟩⟩, ⟨rfl, .inl ⟨rfl, rfl⟩⟩⟩, below_alloc (below_alloc (Below.refl _ _) _) _⟩
  have hg1 : bs ≤ g := by omega
  rw [← hW, ← hg, ← hbs]
  clear hW hg hbs
  obtain ⟨hp0, hS0, hB0⟩ := hP
  go_loopg [6] 9000 (fun q i wr => ∃ N s, q = N ∧ i = .int .i64 s.tk ∧ run stopS ts N s = F ∧ Inv ts s ∧ (s.ok = true → mu n s + 1 ≤ N) ∧ Blk wr bs 45 (cls s) ∧ St wr 178 bs g s.ml s.gl s.ok ∧ Below bs w wr)
  case atStart => exact ⟨9000, ps0 a b c d, rfl, rfl, HF.out.symm, HI.out, fun _ => by have := HMU.out; rw [← HN.out] at this; omega, hp0, hS0, hB0⟩
  case round =>
    clear hp0 hS0 hB0
    obtain ⟨N, s, hq, rfl, hrun, hI, hmu, dp, hS, dB⟩ := hrel
    unfold cls at dp
    have hBx : bs ≤ wr.heap.size := by have := dp.lt; omega
    have HQ := Lib.hid hq
    clear hq
    have cok : wr.cell? ⟨g, 2, none⟩ = some (.bool s.ok) := by
      obtain ⟨mv, gv, h1, _, _⟩ := hS
      exact h1.cell 2
    have hgp : bs ≤ bs := Nat.le_refl _
    cases hok : s.ok with
    | false =>
      have hst : stopS s = true := by unfold stopS; rw [hok]; rfl
      rw [run_stop' hst] at hrun
      subst hrun
      rw [hok] at cok
      have HI2 := Lib.hid hI
      clear hI hmu dp
      have HS := Lib.hid hS
      clear hS hst
      go_wp2
      go_ret
      exact ⟨g, rfl, hg1, HI2.out, HS.out, dB⟩
    | true =>
      rw [hok] at cok hS
      have hmu := hmu hok
      obtain ⟨N, rfl⟩ : ∃ m, N = m + 1 := ⟨N - 1, by omega⟩
      have a1 := hI.ha hok
      have b1 := hI.hb hok
      have c1 := hI.hc hok
      have d1 := hI.hd hok
      have t1 := hI.tk
      rw [← HN.out] at t1
      have cc2 : wr.cell? ⟨bs, 2, none⟩ = some (.int .i64 s.c) := dp.cell 2
      have hstf : ¬ stopS s = true := by unfold stopS; rw [hok]; simp
      by_cases hend : n < s.tk ∧ s.c = 0
      · obtain ⟨he1, he2⟩ := hend
        have hno := stp_none (by rw [← HN.out]; exact he1) he2
        rw [run_none hno] at hrun
        subst hrun
        rw [he2] at cc2
        have HI2 := Lib.hid hI
        have HS := Lib.hid (hok.symm ▸ hS : St wr 178 bs g s.ml s.gl s.ok)
        clear hI hmu dp hS hno he2 a1 b1 c1 d1
        have b1 : ((0 : Int) == 0) = true := rfl
        go_wp2
        go_ret
        exact ⟨g, rfl, hg1, HI2.out, HS.out, dB⟩
      · have hgo : s.tk ≤ n ∨ (n < s.tk ∧ s.c ≠ 0) := by omega
        have HGO := Lib.hid hgo
        clear hgo
        go_upto_region 4 with fail
        go_cut [24] (fun q wx => q = .bool false ∧ wx = wr)
        case first =>
          rcases HGO.out with hle | ⟨hlt, hne⟩
          · have hle' : ¬ n < s.tk := by omega
            go_wp2_with fail
            go_meet
            case rel => exact ⟨rfl, rfl⟩
          · have hb1 : (s.c == 0) = false := beq_false_of_ne hne
            go_wp2_with fail
            go_meet
            case rel => exact ⟨rfl, rfl⟩
        case rest =>
        obtain ⟨rfl, hwc⟩ := hcut
        obtain rfl := hwc
        obtain ⟨v1, hv1⟩ : ∃ v, v = wc := ⟨_, rfl⟩
        subst hv1
        have ylt := dp.lt
        have c0 : v1.cell? ⟨bs, 0, none⟩ = some (.int .i64 s.a) := dp.cell 0
        have cc1 : v1.cell? ⟨bs, 1, none⟩ = some (.int .i64 s.b) := dp.cell 1
        have cc3 : v1.cell? ⟨bs, 3, none⟩ = some (.int .i64 s.d) := dp.cell 3
        have hab : IntKind.i64.wrap (s.a + s.b) = s.a + s.b := IntWalk.i64_in _ (by omega)
        have hcd : IntKind.i64.wrap (s.c + s.d) = s.c + s.d := IntWalk.i64_in _ (by omega)
        have e1 : Blk ((v1.alloc (.cells #[.int .i64 s.a, .int .i64 (s.a + s.b)] 2)).alloc (.cells #[.int .i64 s.c, .int .i64 (s.c + s.d)] 2)) v1.heap.size 2 #[.int .i64 s.a, .int .i64 (s.a + s.b)] := (Blk.new _ _ _).alloc _
        have e2 : Blk ((v1.alloc (.cells #[.int .i64 s.a, .int .i64 (s.a + s.b)] 2)).alloc (.cells #[.int .i64 s.c, .int .i64 (s.c + s.d)] 2)) (v1.heap.size + 1) 2 #[.int .i64 s.c, .int .i64 (s.c + s.d)] := Blk.newAt (by simp) _ _
        have hvv := v_abs a1
        have hcall := alikeT s.a s.b s.c s.d a1 b1 _ _ _ (Rd.of_two e1) (Rd.of_two e2)
        have hb2 : Below v1.heap.size v1 ((v1.alloc (.cells #[.int .i64 s.a, .int .i64 (s.a + s.b)] 2)).alloc (.cells #[.int .i64 s.c, .int .i64 (s.c + s.d)] 2)) := below_alloc (below_alloc (Below.refl _ _) _) _
        change Calls _ _ _ _ (fun e w' => e = .returned (.tuple #[.int .i64 s.v, .bool s.k]) ∧ Drw _ w') at hcall
        have HI2 := Lib.hid hI
        have HMU2 := Lib.hid hmu
        have HRUN := Lib.hid hrun
        have HOK := Lib.hid hok
        have HST := Lib.hid hstf
        clear hI hmu hrun hok hstf e1 e2 hend
        obtain ⟨V, hV⟩ : ∃ V, V = s.v := ⟨_, rfl⟩
        obtain ⟨K, hK⟩ : ∃ K, K = s.k := ⟨_, rfl⟩
        rw [← hV, ← hK] at hcall
        rw [← hV] at hvv
        have hneg : IntKind.i64.wrap (-V) = -V := IntWalk.i64_in _ (by omega)
        have hml := HI2.out.m9
        have hgm := HI2.out.gm
        by_cases hk : s.k = true ∧ 0 < s.tk
        · have hst : stp ts s = some s.give := by unfold stp; rw [if_pos hk]
          have HSTP := Lib.hid hst
          obtain ⟨hk1, h0⟩ := hk
          rw [hk1] at hK
          subst hK
          have HV := Lib.hid hV
          clear hst hk1 hV
          go_wp2_with fail
          refine hcall.mono ?_
          rintro e w2 ⟨rfl, hdr⟩
          have hb := below_then hb2 hdr.below
          clear hdr hcall hb2 c0 cc1 cc2 cc3 cok
          replace dp := dp.later hb
          replace hS := hS.later hb
          replace dB := below_thenB dB hb hBx
          replace hBx := Nat.le_trans hBx hb.size
          clear hb
          go_wp2_with fail
          refine (workGive_any bs g s.ml s.gl true V (by omega) (by omega) _ hg1 hS).mono ?_
          rintro e w5 ⟨rfl, hs, hf⟩
          replace dp := hf.kept _ _ _ dp (by decide) (by decide) (by decide)
          replace hS := hs
          replace dB := dB.trans hf.below
          replace hBx := Nat.le_trans hBx hf.size
          clear hs hf
          go_upto_region 9 with fail
          refine rg_begin (fun w' => Blk w' (bs) 45 (#[.int .i64 s.a, .int .i64 s.b, .int .i64 s.c, .int .i64 s.d])) 21 22 #[false, false, false, false, false, false, false, false, false, false, false, false, false, false, false, false, false, false, false, false, false, false] rfl rfl rfl ?_
          intro x1 hb
          replace dp := dp.later hb
          replace hS := hS.later hb
          replace dB := below_thenB dB hb hBx
          replace hBx := Nat.le_trans hBx hb.size
          clear hb
          refine wpAnyT_take (i := 0) (v := .pointer (some ⟨bs, 2, none⟩)) #[true, false, false, false, false, false, false, false, false, false, false, false, false, false, false, false, false, false, false, false, false, false] (by kernel_rfl) 54 rfl rfl (by kernel_rfl) (by kernel_rfl) (by kernel_rfl) (by kernel_rfl) (by kernel_rfl) (fun _ _ _ h => h) (.inl ⟨rfl, fun _ _ => by unfold execOp; simp [go_sem]⟩) dp ?_
          try simp only [List.setIfInBounds_toArray, List.set_cons_zero, List.set_cons_succ]
          refine wpAnyT_take (i := 1) #[true, true, false, false, false, false, false, false, false, false, false, false, false, false, false, false, false, false, false, false, false, false] (by kernel_rfl) 55 rfl rfl (by kernel_rfl) (by kernel_rfl) (by kernel_rfl) (by kernel_rfl) (by kernel_rfl) (fun _ _ _ h => h) (yields_cell 2 _ rfl rfl _ rfl _ (Try.underlying2) rfl (.int .i64 s.c) (fun w h => (h.cell 2).trans rfl)) dp ?_
          try simp only [List.setIfInBounds_toArray, List.set_cons_zero, List.set_cons_succ]
          refine wpAnyT_take (i := 2) (v := .pointer (some ⟨bs, 3, none⟩)) #[true, true, true, false, false, false, false, false, false, false, false, false, false, false, false, false, false, false, false, false, false, false] (by kernel_rfl) 56 rfl rfl (by kernel_rfl) (by kernel_rfl) (by kernel_rfl) (by kernel_rfl) (by kernel_rfl) (fun _ _ _ h => h) (.inl ⟨rfl, fun _ _ => by unfold execOp; simp [go_sem]⟩) dp ?_
          try simp only [List.setIfInBounds_toArray, List.set_cons_zero, List.set_cons_succ]
          refine wpAnyT_take (i := 3) #[true, true, true, true, false, false, false, false, false, false, false, false, false, false, false, false, false, false, false, false, false, false] (by kernel_rfl) 57 rfl rfl (by kernel_rfl) (by kernel_rfl) (by kernel_rfl) (by kernel_rfl) (by kernel_rfl) (fun _ _ _ h => h) (yields_cell 2 _ rfl rfl _ rfl _ (Try.underlying2) rfl (.int .i64 s.d) (fun w h => (h.cell 3).trans rfl)) dp ?_
          try simp only [List.setIfInBounds_toArray, List.set_cons_zero, List.set_cons_succ]
          refine wpAnyT_take (i := 4) (v := .pointer (some ⟨g, 0, none⟩)) #[true, true, true, true, true, false, false, false, false, false, false, false, false, false, false, false, false, false, false, false, false, false] (by kernel_rfl) 58 rfl rfl (by kernel_rfl) (by kernel_rfl) (by kernel_rfl) (by kernel_rfl) (by kernel_rfl) (fun _ _ _ h => h) (.inl ⟨rfl, fun _ _ => by unfold execOp; simp [go_sem]⟩) dp ?_
          try simp only [List.setIfInBounds_toArray, List.set_cons_zero, List.set_cons_succ]
          refine wpAnyT_take (i := 5) (v := .int .i64 V) #[true, true, true, true, true, true, false, false, false, false, false, false, false, false, false, false, false, false, false, false, false, false] (by kernel_rfl) 59 rfl rfl (by kernel_rfl) (by kernel_rfl) (by kernel_rfl) (by kernel_rfl) (by kernel_rfl) (fun _ _ _ h => h) (.inl ⟨rfl, fun _ _ => by unfold execOp; simp [go_sem]⟩) dp ?_
          try simp only [List.setIfInBounds_toArray, List.set_cons_zero, List.set_cons_succ]
          refine wpAnyT_take (i := 6) (v := .int .i64 (-V)) #[true, true, true, true, true, true, true, false, false, false, false, false, false, false, false, false, false, false, false, false, false, false] (by kernel_rfl) 60 rfl rfl (by kernel_rfl) (by kernel_rfl) (by kernel_rfl) (by kernel_rfl) (by kernel_rfl) (fun _ _ _ h => h) (.inl ⟨rfl, fun _ _ => by unfold execOp; simp [go_sem, hneg]⟩) dp ?_
          try simp only [List.setIfInBounds_toArray, List.set_cons_zero, List.set_cons_succ]
          refine wpAnyT_take (i := 7) (v := .pointer (some ⟨bs, 2, none⟩)) #[true, true, true, true, true, true, true, true, false, false, false, false, false, false, false, false, false, false, false, false, false, false] (by kernel_rfl) 61 rfl rfl (by kernel_rfl) (by kernel_rfl) (by kernel_rfl) (by kernel_rfl) (by kernel_rfl) (fun _ _ _ h => h) (.inl ⟨rfl, fun _ _ => by unfold execOp; simp [go_sem]⟩) dp ?_
          try simp only [List.setIfInBounds_toArray, List.set_cons_zero, List.set_cons_succ]
          refine wpAnyT_take (i := 8) #[true, true, true, true, true, true, true, true, true, false, false, false, false, false, false, false, false, false, false, false, false, false] (by kernel_rfl) 62 rfl rfl (by kernel_rfl) (by kernel_rfl) (by kernel_rfl) (by kernel_rfl) (by kernel_rfl) (fun _ _ _ h => h) (yields_cell 2 _ rfl rfl _ rfl _ (Try.underlying2) rfl (.int .i64 s.c) (fun w h => (h.cell 2).trans rfl)) dp ?_
          try simp only [List.setIfInBounds_toArray, List.set_cons_zero, List.set_cons_succ]
          refine wpAnyT_take (i := 9) (v := .pointer (some ⟨bs, 0, none⟩)) #[true, true, true, true, true, true, true, true, true, true, false, false, false, false, false, false, false, false, false, false, false, false] (by kernel_rfl) 63 rfl rfl (by kernel_rfl) (by kernel_rfl) (by kernel_rfl) (by kernel_rfl) (by kernel_rfl) (fun _ _ _ h => h) (.inl ⟨rfl, fun _ _ => by unfold execOp; simp [go_sem]⟩) dp ?_
          try simp only [List.setIfInBounds_toArray, List.set_cons_zero, List.set_cons_succ]
          refine wpAnyT_take (i := 10) #[true, true, true, true, true, true, true, true, true, true, true, false, false, false, false, false, false, false, false, false, false, false] (by kernel_rfl) 64 rfl rfl (by kernel_rfl) (by kernel_rfl) (by kernel_rfl) (by kernel_rfl) (by kernel_rfl) (fun _ _ _ h => h) (yields_cell 2 _ rfl rfl _ rfl _ (Try.underlying2) rfl (.int .i64 s.a) (fun w h => (h.cell 0).trans rfl)) dp ?_
          try simp only [List.setIfInBounds_toArray, List.set_cons_zero, List.set_cons_succ]
          refine wpAnyT_take (i := 12) (v := .pointer (some ⟨g, 0, none⟩)) #[true, true, true, true, true, true, true, true, true, true, true, false, true, false, false, false, false, false, false, false, false, false] (by kernel_rfl) 66 rfl rfl (by kernel_rfl) (by kernel_rfl) (by kernel_rfl) (by kernel_rfl) (by kernel_rfl) (fun _ _ _ h => h) (.inl ⟨rfl, fun _ _ => by unfold execOp; simp [go_sem]⟩) dp ?_
          try simp only [List.setIfInBounds_toArray, List.set_cons_zero, List.set_cons_succ]
          refine wpAnyT_take (i := 13) (v := .int .i64 V) #[true, true, true, true, true, true, true, true, true, true, true, false, true, true, false, false, false, false, false, false, false, false] (by kernel_rfl) 67 rfl rfl (by kernel_rfl) (by kernel_rfl) (by kernel_rfl) (by kernel_rfl) (by kernel_rfl) (fun _ _ _ h => h) (.inl ⟨rfl, fun _ _ => by unfold execOp; simp [go_sem]⟩) dp ?_
          try simp only [List.setIfInBounds_toArray, List.set_cons_zero, List.set_cons_succ]
          refine wpAnyT_take (i := 14) (v := .int .i64 (-V)) #[true, true, true, true, true, true, true, true, true, true, true, false, true, true, true, false, false, false, false, false, false, false] (by kernel_rfl) 68 rfl rfl (by kernel_rfl) (by kernel_rfl) (by kernel_rfl) (by kernel_rfl) (by kernel_rfl) (fun _ _ _ h => h) (.inl ⟨rfl, fun _ _ => by unfold execOp; simp [go_sem, hneg]⟩) dp ?_
          try simp only [List.setIfInBounds_toArray, List.set_cons_zero, List.set_cons_succ]
          refine wpAnyT_take (i := 15) (v := .pointer (some ⟨bs, 3, none⟩)) #[true, true, true, true, true, true, true, true, true, true, true, false, true, true, true, true, false, false, false, false, false, false] (by kernel_rfl) 69 rfl rfl (by kernel_rfl) (by kernel_rfl) (by kernel_rfl) (by kernel_rfl) (by kernel_rfl) (fun _ _ _ h => h) (.inl ⟨rfl, fun _ _ => by unfold execOp; simp [go_sem]⟩) dp ?_
          try simp only [List.setIfInBounds_toArray, List.set_cons_zero, List.set_cons_succ]
          refine wpAnyT_take (i := 16) #[true, true, true, true, true, true, true, true, true, true, true, false, true, true, true, true, true, false, false, false, false, false] (by kernel_rfl) 70 rfl rfl (by kernel_rfl) (by kernel_rfl) (by kernel_rfl) (by kernel_rfl) (by kernel_rfl) (fun _ _ _ h => h) (yields_cell 2 _ rfl rfl _ rfl _ (Try.underlying2) rfl (.int .i64 s.d) (fun w h => (h.cell 3).trans rfl)) dp ?_
          try simp only [List.setIfInBounds_toArray, List.set_cons_zero, List.set_cons_succ]
          refine wpAnyT_take (i := 17) (v := .pointer (some ⟨bs, 1, none⟩)) #[true, true, true, true, true, true, true, true, true, true, true, false, true, true, true, true, true, true, false, false, false, false] (by kernel_rfl) 71 rfl rfl (by kernel_rfl) (by kernel_rfl) (by kernel_rfl) (by kernel_rfl) (by kernel_rfl) (fun _ _ _ h => h) (.inl ⟨rfl, fun _ _ => by unfold execOp; simp [go_sem]⟩) dp ?_
          try simp only [List.setIfInBounds_toArray, List.set_cons_zero, List.set_cons_succ]
          refine wpAnyT_take (i := 18) #[true, true, true, true, true, true, true, true, true, true, true, false, true, true, true, true, true, true, true, false, false, false] (by kernel_rfl) 72 rfl rfl (by kernel_rfl) (by kernel_rfl) (by kernel_rfl) (by kernel_rfl) (by kernel_rfl) (fun _ _ _ h => h) (yields_cell 2 _ rfl rfl _ rfl _ (Try.underlying2) rfl (.int .i64 s.b) (fun w h => (h.cell 1).trans rfl)) dp ?_
          try simp only [List.setIfInBounds_toArray, List.set_cons_zero, List.set_cons_succ]
          refine rg_list (l := [11]) (by kernel_rfl) rfl ?_
          intro i hi
          obtain rfl := List.mem_singleton.1 hi
          refine rg_call #[true, true, true, true, true, true, true, true, true, true, true, true, true, true, true, true, true, true, true, false, false, false] (by kernel_rfl) 65 rfl rfl (by kernel_rfl) 147 #[.pointer (some ⟨g, 0, none⟩), .int .i64 (-V), .int .i64 s.c, .int .i64 s.a] (by kernel_rfl) ((workCell_st bs g _ _ _ (-V) s.c s.a (by omega) (by omega) (by omega) _ hg1 hS)) ?_
          rintro x2 ⟨hs, hf⟩
          replace dp := hf.kept _ _ _ dp (by decide) (by decide) (by decide)
          replace hS := hs
          replace dB := dB.trans hf.below
          replace hBx := Nat.le_trans hBx hf.size
          clear hs hf
          refine ⟨fun _ => dp, ?_⟩
          try simp only [List.setIfInBounds_toArray, List.set_cons_zero, List.set_cons_succ]
          refine rg_list (l := [19]) (by kernel_rfl) rfl ?_
          intro i hi
          obtain rfl := List.mem_singleton.1 hi
          refine rg_call #[true, true, true, true, true, true, true, true, true, true, true, true, true, true, true, true, true, true, true, true, false, false] (by kernel_rfl) 73 rfl rfl (by kernel_rfl) 147 #[.pointer (some ⟨g, 0, none⟩), .int .i64 (-V), .int .i64 s.d, .int .i64 s.b] (by kernel_rfl) ((workCell_st bs g _ _ _ (-V) s.d s.b (by omega) (by omega) (by omega) _ hg1 hS)) ?_
          rintro x3 ⟨hs, hf⟩
          replace dp := hf.kept _ _ _ dp (by decide) (by decide) (by decide)
          replace hS := hs
          replace dB := dB.trans hf.below
          replace hBx := Nat.le_trans hBx hf.size
          clear hs hf
          refine ⟨fun _ => dp, ?_⟩
          try simp only [List.setIfInBounds_toArray, List.set_cons_zero, List.set_cons_succ]
          refine wpAnyT_take (i := 20) (v := .agg #[.int .i64 s.c, .int .i64 s.d, .int .i64 (celV (-V) s.c s.a), .int .i64 (celV (-V) s.d s.b)]) #[true, true, true, true, true, true, true, true, true, true, true, true, true, true, true, true, true, true, true, true, true, false] (by kernel_rfl) 74 rfl rfl (by kernel_rfl) (by kernel_rfl) (by kernel_rfl) (by kernel_rfl) (by kernel_rfl) (fun _ _ _ h => h) (.inl ⟨rfl, fun _ _ => by unfold execOp; simp [go_sem]⟩) dp ?_
          try simp only [List.setIfInBounds_toArray, List.set_cons_zero, List.set_cons_succ]
          refine rg_list (l := [21]) (by kernel_rfl) rfl ?_
          intro i hi
          obtain rfl := List.mem_singleton.1 hi
          refine rg_store #[true, true, true, true, true, true, true, true, true, true, true, true, true, true, true, true, true, true, true, true, true, true] (by kernel_rfl) rfl rfl (by kernel_rfl) 45 _ _ rfl (bs) (#[.int .i64 s.c, .int .i64 s.d, .int .i64 (celV (-V) s.c s.a), .int .i64 (celV (-V) s.d s.b)]) rfl rfl 45 _ dp sz45 rfl (by simp [Value.oneCell']) ?_
          intro x4 hc hn
          replace hS := hS.far dp (by decide) (by decide) (by decide) hc
          replace dB := below_chg' dB hc hgp hBx
          replace hBx := Nat.le_trans hBx hc.size
          replace dp := hn
          clear hc hn
          refine ⟨fun h => absurd h (by decide), ?_⟩
          try simp only [List.setIfInBounds_toArray, List.set_cons_zero, List.set_cons_succ]
          refine wpAnyT_done (by kernel_rfl) ?_ _
          obtain ⟨vz, hvz⟩ : ∃ v, v = x4 := ⟨_, rfl⟩
          subst hvz
          have hst := HSTP.out
          obtain ⟨hI3, hdrop⟩ := HI2.out.step HOK.out hst
          have hrun := HRUN.out
          rw [run_some HST.out hst] at hrun
          have HI3 := Lib.hid hI3
          have HDR := Lib.hid hdrop
          have HRUN3 := Lib.hid hrun
          clear hI3 hdrop hrun hst
          go_wp2_with fail
          go_roundg N
          case rel => exact ⟨N, s.give, rfl, rfl, HRUN3.out, HI3.out, fun ho => by have h1 := HDR.out ho; have h2 := HMU2.out; rw [← HN.out] at h1; omega, by simpa only [cls, Ps.give, ← HV.out, celV_comm _ (-V)] using dp, by simpa only [Ps.give, ← HV.out, HOK.out, celOk_comm _ (-V)] using hS, dB⟩
          case measure => have := HQ.out; omega
        · have hK0 : K = true → s.tk = 0 := fun h => by
            have : ¬ 0 < s.tk := fun h2 => hk ⟨by rw [← hK]; exact h, h2⟩
            omega
          have hle : s.tk ≤ n := by
            rcases HGO.out with h | ⟨h, hne⟩
            · exact h
            · exfalso
              refine hk ⟨?_, by omega⟩
              obtain ⟨e1, e2⟩ := HI2.out.inf HOK.out (by rw [← HN.out]; omega)
              unfold Ps.k
              rw [← e1, ← e2]
              exact alk_twice hne
          have HK0 := Lib.hid hK0
          have HNK := Lib.hid hk
          clear hK0 hk hV hK HGO
          go_wp2_with fail
          refine hcall.mono ?_
          rintro e w2 ⟨rfl, hdr⟩
          have hb := below_then hb2 hdr.below
          clear hdr hcall hb2 c0 cc1 cc2 cc3 cok
          replace dp := dp.later hb
          replace hS := hS.later hb
          replace dB := below_thenB dB hb hBx
          replace hBx := Nat.le_trans hBx hb.size
          clear hb
          go_upto_region 7 with fail
          go_cut [50] (fun q wx => q = .bool false ∧ wx = w2)
          case first =>
            have hno := HK0.out
            clear HK0
            cases K
            · go_wp2_with fail
              go_meet
              case rel => exact ⟨rfl, rfl⟩
            · have h0 := hno rfl
              have h0' : ¬ 0 < s.tk := by omega
              have h0'' : ¬ (0 : Int) < (s.tk : Int) := by omega
              clear h0 hno
              go_wp2_with fail
              go_meet
              case rel => exact ⟨rfl, rfl⟩
          case rest =>
          obtain ⟨rfl, hwc⟩ := hcut
          obtain rfl := hwc
          obtain ⟨v2, hv2⟩ : ∃ v, v = wc := ⟨_, rfl⟩
          subst hv2
          obtain ⟨mv, gv, hb, hm, hgv⟩ := hS
          obtain ⟨i0, hi, hz0, hz1, hz2⟩ := info_parts info62
          have hcell : v2.cell? ⟨g, 0, none⟩ = some mv := hb.cell 0
          by_cases hl : s.tk < n
          · have hst : stp ts s = some (s.take (ts.getD s.tk 0)) := by unfold stp; rw [if_neg HNK.out, if_pos (by rw [← HN.out]; exact hl)]
            obtain ⟨gt, hA, hgt, hterm⟩ := HT.out s.tk (by rw [← HN.out]; exact hl)
            have ht9 := H9.out s.tk (by rw [← HN.out]; exact hl)
            obtain ⟨t, ht⟩ : ∃ t, t = ts.getD s.tk 0 := ⟨_, rfl⟩
            rw [← ht] at hst hterm ht9
            have HSTP := Lib.hid hst
            clear hst ht
            have hterm2 : v2.cell? ⟨gt, s.tk, none⟩ = some (.int .i64 t) := (dB.cell (p := ⟨gt, s.tk, none⟩) hgt).trans hterm
            subst hA
            have hpost := fun (wa : World) (v1 : Value) (o : Obj) (hgr : (v2.alloc o).grownBy wa mv.ownBlock) (h1 : wa.ownsRow bs 62 2 v1 (s.ml.length + 1) (mz s.ml ++ [.int .i8 2, .int .i64 t])) => st_mv (t := 178) (by decide) (by decide) hg1 hb hm hgv o hgr h1
            have hpre := fun (wa : World) (o : Obj) (hgr : (v2.alloc o).grownBy wa mv.ownBlock) => (show wa.cell? ⟨g, 0, none⟩ = some mv ∧ wa.frozen? ⟨g, 0, none⟩ = false from ⟨(grow_keeps (t := 178) (by decide) (by decide) hg1 hb hm hgv o mv (.inl rfl) hgr).1.cell 0, (grow_keeps (t := 178) (by decide) (by decide) hg1 hb hm hgv o mv (.inl rfl) hgr).1.frozen 0⟩)
            have HPOST := Lib.hid hpost
            have HPRE := Lib.hid hpre
            have hb0 : ((s.tk : Int) == (n : Int)) = false := beq_false_of_ne (by omega)
            clear hpost hpre hb hgv
            go_upto_region 15 with (at_builtin; refine wpList_append_own_at _ rfl _ _ 51 rfl bs 62 i0 (.agg #[.int .i8 0, .int .i64 0]) 2 16 Try.underlying51 hi hz0 hz1 hz2 rfl (by decide) _ _ _ rfl (hm.alloc _) ⟨v2.heap.size, 0, none⟩ 1 1 [.int .i8 2, .int .i64 t] rfl rfl (news_two _ _ _ _) (by intro u hu; simp only [List.mem_cons, List.mem_nil_iff, or_false] at hu; rcases hu with rfl | rfl <;> rfl) (by simp only [maxLen]; omega) (by omega) (by simp only [World.size_alloc]; omega) ?_; intro v1' wa hown1 hg1' _ _; obtain ⟨hce, hfz⟩ := HPRE.out wa _ hg1'; obtain ⟨A1, c1', rfl⟩ := own_slice hown1; have hres := HPOST.out wa _ _ hg1' hown1)
            clear hce hfz HPRE HPOST hg1' hown1 hm hcell hterm2
            obtain ⟨w3, hw3⟩ : ∃ w3, w3 = wa.setCell ⟨g, 0, none⟩ (Value.slice A1 (s.ml.length + 1) c1') := ⟨_, rfl⟩
            rw [← hw3] at hres ⊢
            clear hw3
            obtain ⟨hS, hf⟩ := hres
            replace dp := hf.kept _ _ _ dp (by decide) (by decide) (by decide)
            replace dB := dB.trans hf.below
            replace hBx := Nat.le_trans hBx hf.size
            clear hf
            refine rg_begin (fun w' => Blk w' (bs) 45 (#[.int .i64 s.a, .int .i64 s.b, .int .i64 s.c, .int .i64 s.d])) 19 20 #[false, false, false, false, false, false, false, false, false, false, false, false, false, false, false, false, false, false, false, false] rfl rfl rfl ?_
            intro x1 hb
            replace dp := dp.later hb
            replace hS := hS.later hb
            replace dB := below_thenB dB hb hBx
            replace hBx := Nat.le_trans hBx hb.size
            clear hb
            refine wpAnyT_take (i := 0) (v := .pointer (some ⟨g, 0, none⟩)) #[true, false, false, false, false, false, false, false, false, false, false, false, false, false, false, false, false, false, false, false] (by kernel_rfl) 113 rfl rfl (by kernel_rfl) (by kernel_rfl) (by kernel_rfl) (by kernel_rfl) (by kernel_rfl) (fun _ _ _ h => h) (.inl ⟨rfl, fun _ _ => by unfold execOp; simp [go_sem]⟩) dp ?_
            try simp only [List.setIfInBounds_toArray, List.set_cons_zero, List.set_cons_succ]
            refine wpAnyT_take (i := 1) (v := .pointer (some ⟨bs, 0, none⟩)) #[true, true, false, false, false, false, false, false, false, false, false, false, false, false, false, false, false, false, false, false] (by kernel_rfl) 114 rfl rfl (by kernel_rfl) (by kernel_rfl) (by kernel_rfl) (by kernel_rfl) (by kernel_rfl) (fun _ _ _ h => h) (.inl ⟨rfl, fun _ _ => by unfold execOp; simp [go_sem]⟩) dp ?_
            try simp only [List.setIfInBounds_toArray, List.set_cons_zero, List.set_cons_succ]
            refine wpAnyT_take (i := 2) #[true, true, true, false, false, false, false, false, false, false, false, false, false, false, false, false, false, false, false, false] (by kernel_rfl) 115 rfl rfl (by kernel_rfl) (by kernel_rfl) (by kernel_rfl) (by kernel_rfl) (by kernel_rfl) (fun _ _ _ h => h) (yields_cell 2 _ rfl rfl _ rfl _ (Try.underlying2) rfl (.int .i64 s.a) (fun w h => (h.cell 0).trans rfl)) dp ?_
            try simp only [List.setIfInBounds_toArray, List.set_cons_zero, List.set_cons_succ]
            refine wpAnyT_take (i := 3) (v := .int .i64 t) #[true, true, true, true, false, false, false, false, false, false, false, false, false, false, false, false, false, false, false, false] (by kernel_rfl) 116 rfl rfl (by kernel_rfl) (by kernel_rfl) (by kernel_rfl) (by kernel_rfl) (by kernel_rfl) (fun _ _ _ h => h) (.inl ⟨rfl, fun _ _ => by unfold execOp; simp [go_sem]⟩) dp ?_
            try simp only [List.setIfInBounds_toArray, List.set_cons_zero, List.set_cons_succ]
            refine wpAnyT_take (i := 4) (v := .pointer (some ⟨bs, 1, none⟩)) #[true, true, true, true, true, false, false, false, false, false, false, false, false, false, false, false, false, false, false, false] (by kernel_rfl) 117 rfl rfl (by kernel_rfl) (by kernel_rfl) (by kernel_rfl) (by kernel_rfl) (by kernel_rfl) (fun _ _ _ h => h) (.inl ⟨rfl, fun _ _ => by unfold execOp; simp [go_sem]⟩) dp ?_
            try simp only [List.setIfInBounds_toArray, List.set_cons_zero, List.set_cons_succ]
            refine wpAnyT_take (i := 5) #[true, true, true, true, true, true, false, false, false, false, false, false, false, false, false, false, false, false, false, false] (by kernel_rfl) 118 rfl rfl (by kernel_rfl) (by kernel_rfl) (by kernel_rfl) (by kernel_rfl) (by kernel_rfl) (fun _ _ _ h => h) (yields_cell 2 _ rfl rfl _ rfl _ (Try.underlying2) rfl (.int .i64 s.b) (fun w h => (h.cell 1).trans rfl)) dp ?_
            try simp only [List.setIfInBounds_toArray, List.set_cons_zero, List.set_cons_succ]
            refine wpAnyT_take (i := 7) (v := .pointer (some ⟨bs, 0, none⟩)) #[true, true, true, true, true, true, false, true, false, false, false, false, false, false, false, false, false, false, false, false] (by kernel_rfl) 120 rfl rfl (by kernel_rfl) (by kernel_rfl) (by kernel_rfl) (by kernel_rfl) (by kernel_rfl) (fun _ _ _ h => h) (.inl ⟨rfl, fun _ _ => by unfold execOp; simp [go_sem]⟩) dp ?_
            try simp only [List.setIfInBounds_toArray, List.set_cons_zero, List.set_cons_succ]
            refine wpAnyT_take (i := 8) #[true, true, true, true, true, true, false, true, true, false, false, false, false, false, false, false, false, false, false, false] (by kernel_rfl) 121 rfl rfl (by kernel_rfl) (by kernel_rfl) (by kernel_rfl) (by kernel_rfl) (by kernel_rfl) (fun _ _ _ h => h) (yields_cell 2 _ rfl rfl _ rfl _ (Try.underlying2) rfl (.int .i64 s.a) (fun w h => (h.cell 0).trans rfl)) dp ?_
            try simp only [List.setIfInBounds_toArray, List.set_cons_zero, List.set_cons_succ]
            refine wpAnyT_take (i := 9) (v := .pointer (some ⟨g, 0, none⟩)) #[true, true, true, true, true, true, false, true, true, true, false, false, false, false, false, false, false, false, false, false] (by kernel_rfl) 122 rfl rfl (by kernel_rfl) (by kernel_rfl) (by kernel_rfl) (by kernel_rfl) (by kernel_rfl) (fun _ _ _ h => h) (.inl ⟨rfl, fun _ _ => by unfold execOp; simp [go_sem]⟩) dp ?_
            try simp only [List.setIfInBounds_toArray, List.set_cons_zero, List.set_cons_succ]
            refine wpAnyT_take (i := 10) (v := .pointer (some ⟨bs, 2, none⟩)) #[true, true, true, true, true, true, false, true, true, true, true, false, false, false, false, false, false, false, false, false] (by kernel_rfl) 123 rfl rfl (by kernel_rfl) (by kernel_rfl) (by kernel_rfl) (by kernel_rfl) (by kernel_rfl) (fun _ _ _ h => h) (.inl ⟨rfl, fun _ _ => by unfold execOp; simp [go_sem]⟩) dp ?_
            try simp only [List.setIfInBounds_toArray, List.set_cons_zero, List.set_cons_succ]
            refine wpAnyT_take (i := 11) #[true, true, true, true, true, true, false, true, true, true, true, true, false, false, false, false, false, false, false, false] (by kernel_rfl) 124 rfl rfl (by kernel_rfl) (by kernel_rfl) (by kernel_rfl) (by kernel_rfl) (by kernel_rfl) (fun _ _ _ h => h) (yields_cell 2 _ rfl rfl _ rfl _ (Try.underlying2) rfl (.int .i64 s.c) (fun w h => (h.cell 2).trans rfl)) dp ?_
            try simp only [List.setIfInBounds_toArray, List.set_cons_zero, List.set_cons_succ]
            refine wpAnyT_take (i := 12) (v := .int .i64 t) #[true, true, true, true, true, true, false, true, true, true, true, true, true, false, false, false, false, false, false, false] (by kernel_rfl) 125 rfl rfl (by kernel_rfl) (by kernel_rfl) (by kernel_rfl) (by kernel_rfl) (by kernel_rfl) (fun _ _ _ h => h) (.inl ⟨rfl, fun _ _ => by unfold execOp; simp [go_sem]⟩) dp ?_
            try simp only [List.setIfInBounds_toArray, List.set_cons_zero, List.set_cons_succ]
            refine wpAnyT_take (i := 13) (v := .pointer (some ⟨bs, 3, none⟩)) #[true, true, true, true, true, true, false, true, true, true, true, true, true, true, false, false, false, false, false, false] (by kernel_rfl) 126 rfl rfl (by kernel_rfl) (by kernel_rfl) (by kernel_rfl) (by kernel_rfl) (by kernel_rfl) (fun _ _ _ h => h) (.inl ⟨rfl, fun _ _ => by unfold execOp; simp [go_sem]⟩) dp ?_
            try simp only [List.setIfInBounds_toArray, List.set_cons_zero, List.set_cons_succ]
            refine wpAnyT_take (i := 14) #[true, true, true, true, true, true, false, true, true, true, true, true, true, true, true, false, false, false, false, false] (by kernel_rfl) 127 rfl rfl (by kernel_rfl) (by kernel_rfl) (by kernel_rfl) (by kernel_rfl) (by kernel_rfl) (fun _ _ _ h => h) (yields_cell 2 _ rfl rfl _ rfl _ (Try.underlying2) rfl (.int .i64 s.d) (fun w h => (h.cell 3).trans rfl)) dp ?_
            try simp only [List.setIfInBounds_toArray, List.set_cons_zero, List.set_cons_succ]
            refine wpAnyT_take (i := 16) (v := .pointer (some ⟨bs, 2, none⟩)) #[true, true, true, true, true, true, false, true, true, true, true, true, true, true, true, false, true, false, false, false] (by kernel_rfl) 129 rfl rfl (by kernel_rfl) (by kernel_rfl) (by kernel_rfl) (by kernel_rfl) (by kernel_rfl) (fun _ _ _ h => h) (.inl ⟨rfl, fun _ _ => by unfold execOp; simp [go_sem]⟩) dp ?_
            try simp only [List.setIfInBounds_toArray, List.set_cons_zero, List.set_cons_succ]
            refine wpAnyT_take (i := 17) #[true, true, true, true, true, true, false, true, true, true, true, true, true, true, true, false, true, true, false, false] (by kernel_rfl) 130 rfl rfl (by kernel_rfl) (by kernel_rfl) (by kernel_rfl) (by kernel_rfl) (by kernel_rfl) (fun _ _ _ h => h) (yields_cell 2 _ rfl rfl _ rfl _ (Try.underlying2) rfl (.int .i64 s.c) (fun w h => (h.cell 2).trans rfl)) dp ?_
            try simp only [List.setIfInBounds_toArray, List.set_cons_zero, List.set_cons_succ]
            refine rg_list (l := [6]) (by kernel_rfl) rfl ?_
            intro i hi
            obtain rfl := List.mem_singleton.1 hi
            refine rg_call #[true, true, true, true, true, true, true, true, true, true, true, true, true, true, true, false, true, true, false, false] (by kernel_rfl) 119 rfl rfl (by kernel_rfl) 147 #[.pointer (some ⟨g, 0, none⟩), .int .i64 s.a, .int .i64 t, .int .i64 s.b] (by kernel_rfl) ((workCell_st bs g _ _ _ s.a t s.b (by omega) (by omega) (by omega) _ hg1 hS)) ?_
            rintro x2 ⟨hs, hf⟩
            replace dp := hf.kept _ _ _ dp (by decide) (by decide) (by decide)
            replace hS := hs
            replace dB := dB.trans hf.below
            replace hBx := Nat.le_trans hBx hf.size
            clear hs hf
            refine ⟨fun _ => dp, ?_⟩
            try simp only [List.setIfInBounds_toArray, List.set_cons_zero, List.set_cons_succ]
            refine rg_list (l := [15]) (by kernel_rfl) rfl ?_
            intro i hi
            obtain rfl := List.mem_singleton.1 hi
            refine rg_call #[true, true, true, true, true, true, true, true, true, true, true, true, true, true, true, true, true, true, false, false] (by kernel_rfl) 128 rfl rfl (by kernel_rfl) 147 #[.pointer (some ⟨g, 0, none⟩), .int .i64 s.c, .int .i64 t, .int .i64 s.d] (by kernel_rfl) ((workCell_st bs g _ _ _ s.c t s.d (by omega) (by omega) (by omega) _ hg1 hS)) ?_
            rintro x3 ⟨hs, hf⟩
            replace dp := hf.kept _ _ _ dp (by decide) (by decide) (by decide)
            replace hS := hs
            replace dB := dB.trans hf.below
            replace hBx := Nat.le_trans hBx hf.size
            clear hs hf
            refine ⟨fun _ => dp, ?_⟩
            try simp only [List.setIfInBounds_toArray, List.set_cons_zero, List.set_cons_succ]
            refine wpAnyT_take (i := 18) (v := .agg #[.int .i64 (celV s.a t s.b), .int .i64 s.a, .int .i64 (celV s.c t s.d), .int .i64 s.c]) #[true, true, true, true, true, true, true, true, true, true, true, true, true, true, true, true, true, true, true, false] (by kernel_rfl) 131 rfl rfl (by kernel_rfl) (by kernel_rfl) (by kernel_rfl) (by kernel_rfl) (by kernel_rfl) (fun _ _ _ h => h) (.inl ⟨rfl, fun _ _ => by unfold execOp; simp [go_sem]⟩) dp ?_
            try simp only [List.setIfInBounds_toArray, List.set_cons_zero, List.set_cons_succ]
            refine rg_list (l := [19]) (by kernel_rfl) rfl ?_
            intro i hi
            obtain rfl := List.mem_singleton.1 hi
            refine rg_store #[true, true, true, true, true, true, true, true, true, true, true, true, true, true, true, true, true, true, true, true] (by kernel_rfl) rfl rfl (by kernel_rfl) 45 _ _ rfl (bs) (#[.int .i64 (celV s.a t s.b), .int .i64 s.a, .int .i64 (celV s.c t s.d), .int .i64 s.c]) rfl rfl 45 _ dp sz45 rfl (by simp [Value.oneCell']) ?_
            intro x4 hc hn
            replace hS := hS.far dp (by decide) (by decide) (by decide) hc
            replace dB := below_chg' dB hc hgp hBx
            replace hBx := Nat.le_trans hBx hc.size
            replace dp := hn
            clear hc hn
            refine ⟨fun h => absurd h (by decide), ?_⟩
            try simp only [List.setIfInBounds_toArray, List.set_cons_zero, List.set_cons_succ]
            refine wpAnyT_done (by kernel_rfl) ?_ _
            obtain ⟨vz, hvz⟩ : ∃ v, v = x4 := ⟨_, rfl⟩
            subst hvz
            have hst := HSTP.out
            obtain ⟨hI3, hdrop⟩ := HI2.out.step HOK.out hst
            have hrun := HRUN.out
            rw [run_some HST.out hst] at hrun
            have HI3 := Lib.hid hI3
            have HDR := Lib.hid hdrop
            have HRUN3 := Lib.hid hrun
            clear hI3 hdrop hrun hst
            go_wp2_with fail
            go_roundg N
            case rel => exact ⟨N, s.take t, rfl, by simp only [Ps.take]; go_num, HRUN3.out, HI3.out, fun ho => by have h1 := HDR.out ho; have h2 := HMU2.out; rw [← HN.out] at h1; omega, dp, by simpa only [Ps.take, HOK.out] using hS, dB⟩
            case measure => have := HQ.out; omega
          · have he : s.tk = n := by omega
            have hst : stp ts s = some s.inf := by unfold stp; rw [if_neg HNK.out, if_neg (by rw [← HN.out]; exact hl), if_pos (by rw [← HN.out]; exact he)]
            have HSTP := Lib.hid hst
            clear hst
            have hpost := fun (wa : World) (v1 : Value) (o : Obj) (hgr : (v2.alloc o).grownBy wa mv.ownBlock) (h1 : wa.ownsRow bs 62 2 v1 (s.ml.length + 1) (mz s.ml ++ [.int .i8 2, .int .i64 0])) => st_mv (t := 178) (by decide) (by decide) hg1 hb hm hgv o hgr h1
            have hpre := fun (wa : World) (o : Obj) (hgr : (v2.alloc o).grownBy wa mv.ownBlock) => (show wa.cell? ⟨g, 0, none⟩ = some mv ∧ wa.frozen? ⟨g, 0, none⟩ = false from ⟨(grow_keeps (t := 178) (by decide) (by decide) hg1 hb hm hgv o mv (.inl rfl) hgr).1.cell 0, (grow_keeps (t := 178) (by decide) (by decide) hg1 hb hm hgv o mv (.inl rfl) hgr).1.frozen 0⟩)
            have HPOST := Lib.hid hpost
            have HPRE := Lib.hid hpre
            have hb0 : ((s.tk : Int) == (n : Int)) = true := by rw [he]; simp
            have HE := Lib.hid he
            clear hpost hpre hb hgv he
            go_upto_region 12 with (at_builtin; refine wpList_append_own_at _ rfl _ _ 51 rfl bs 62 i0 (.agg #[.int .i8 0, .int .i64 0]) 2 16 Try.underlying51 hi hz0 hz1 hz2 rfl (by decide) _ _ _ rfl (hm.alloc _) ⟨v2.heap.size, 0, none⟩ 1 1 [.int .i8 2, .int .i64 0] rfl rfl (news_two _ _ _ _) (by intro u hu; simp only [List.mem_cons, List.mem_nil_iff, or_false] at hu; rcases hu with rfl | rfl <;> rfl) (by simp only [maxLen]; omega) (by omega) (by simp only [World.size_alloc]; omega) ?_; intro v1' wa hown1 hg1' _ _; obtain ⟨hce, hfz⟩ := HPRE.out wa _ hg1'; obtain ⟨A1, c1', rfl⟩ := own_slice hown1; have hres := HPOST.out wa _ _ hg1' hown1)
            clear hce hfz HPRE HPOST hg1' hown1 hm hcell
            obtain ⟨w3, hw3⟩ : ∃ w3, w3 = wa.setCell ⟨g, 0, none⟩ (Value.slice A1 (s.ml.length + 1) c1') := ⟨_, rfl⟩
            rw [← hw3] at hres ⊢
            clear hw3
            obtain ⟨hS, hf⟩ := hres
            replace dp := hf.kept _ _ _ dp (by decide) (by decide) (by decide)
            replace dB := dB.trans hf.below
            replace hBx := Nat.le_trans hBx hf.size
            clear hf
            have c0 : w3.cell? ⟨bs, 0, none⟩ = some (.int .i64 s.a) := dp.cell 0
            have cc2 : w3.cell? ⟨bs, 2, none⟩ = some (.int .i64 s.c) := dp.cell 2
            go_upto_region 16 with (refine wpList_store_row rfl 45 _ _ rfl bs (#[.int .i64 s.a, .int .i64 s.a, .int .i64 s.c, .int .i64 s.c]) rfl rfl 45 _ dp sz45 rfl (by simp [Value.oneCell']) ?_)
            have hcw := Chg.ofRow w3 bs #[.int .i64 s.a, .int .i64 s.a, .int .i64 s.c, .int .i64 s.c]
            replace hS := hS.far dp (by decide) (by decide) (by decide) hcw
            replace dB := below_chg' dB hcw hgp hBx
            replace dp := dp.row #[.int .i64 s.a, .int .i64 s.a, .int .i64 s.c, .int .i64 s.c]
            obtain ⟨vz, hvz⟩ : ∃ v, v = w3.setRow bs #[.int .i64 s.a, .int .i64 s.a, .int .i64 s.c, .int .i64 s.c] := ⟨_, rfl⟩
            rw [← hvz] at dp hS dB ⊢
            clear hvz hcw c0 cc2
            have hst := HSTP.out
            obtain ⟨hI3, hdrop⟩ := HI2.out.step HOK.out hst
            have hrun := HRUN.out
            rw [run_some HST.out hst] at hrun
            have HI3 := Lib.hid hI3
            have HDR := Lib.hid hdrop
            have HRUN3 := Lib.hid hrun
            clear hI3 hdrop hrun hst
            go_wp2_with fail
            go_roundg N
            case rel => exact ⟨N, s.inf, rfl, by simp only [Ps.inf]; go_num, HRUN3.out, HI3.out, fun ho => by have h1 := HDR.out ho; have h2 := HMU2.out; rw [← HN.out] at h1; omega, dp, by simpa only [Ps.inf, HOK.out] using hS, dB⟩
            case measure => have := HQ.out; omega
end Go.Proofs.Ytcfaammnkbkfcaa
