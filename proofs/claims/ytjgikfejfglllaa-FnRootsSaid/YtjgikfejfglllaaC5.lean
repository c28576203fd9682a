/- UnitOf, in the program and in the reference. -/
import Derived.Test.YtjgikfejfglllaaC4
set_option linter.unusedVariables false
set_option linter.unusedSimpArgs false
namespace Go.Proofs.Ytjgikfejfglllaa
open Go.RowKit


set_option maxHeartbeats 2000000 in
set_option maxRecDepth 100000 in
theorem unitOf_any (n : Int) (h0 : -9223372036854775808 ≤ n) (h1 : n ≤ 9223372036854775807) (w : World) : Calls Try.prog 16 #[.int .i64 n] w fun e w' => e = .returned (unT n) ∧ Below w.heap.size w w' := by
  have E0 : lb 0 = fun _ => 0 := funext fun k => lb_zero k
  unfold unT unitK
  have hsm := rootT_small n
  have hln := rootT_length n
  have hc := rootTerms_any n h0 h1
  obtain ⟨f, l, cd, hX⟩ : ∃ f l cd, rootT n = (f, l, cd) := ⟨_, _, _, rfl⟩
  rw [hX] at hsm hln hc ⊢
  clear hX
  simp only [] at hsm hln hc ⊢
  by_cases hD : cd = 0
  · subst hD
    rw [if_pos rfl]
    by_cases hl : l = []
    · subst hl
      rw [if_pos rfl]
      clear hsm hln
      go_enter Try.func16, Try.ntmps16
      go_wp2_with fail
      refine (hc _).mono ?_
      rintro e w1 ⟨v, rfl, hv, hb1⟩
      obtain ⟨A, c, rfl, hcc, hrr⟩ := hv
      clear hrr hcc hc
      have d4 : Blk w1 w.heap.size 32 (wcl false fun _ => 0) := ((Blk.newAt (by simp) 32 (wcl false fun _ => 0)).alloc _).later hb1
      have d5 : Blk w1 (w.heap.size + 1) 32 (wcl false fun _ => 0) := (Blk.newAt (by simp) 32 (wcl false fun _ => 0)).later hb1
      have dB : Below w.heap.size w w1 := below_then (below_alloc (below_alloc (Below.refl _ _) _) _) hb1
      have y4 := d4.lt
      have y5 := d5.lt
      go_wp2_with (first
        | ((with_reducible change wpList _ _ _ (Oper.mk none (Op.store 32 (Operand.tmp 2) _) _ _ _ _ :: _) _ _); refine wpList_store_row rfl 32 _ _ rfl (w.heap.size) (wcl false fun _ => 0) rfl rfl 32 _ (d4) sz32 rfl (wcl_all _ _) ?_)
        | ((with_reducible change wpList _ _ _ (Oper.mk none (Op.store 32 (Operand.tmp 3) _) _ _ _ _ :: _) _ _); refine wpList_store_row rfl 32 _ _ rfl (w.heap.size + 1) (wcl false fun _ => 0) rfl rfl 32 _ ((d5).row_far (by omega) _) sz32 rfl (wcl_all _ _) ?_))
      refine bodyPost_ret (v := .tuple #[wdv false 0, wdv false 0, .int .i64 (4)]) ((res_row_row_tmp Try.results16 rfl (((d4).row (wcl false fun _ => 0)).row_far (by omega) (wcl false fun _ => 0)) rfl (((d5).row_far (by omega) (wcl false fun _ => 0)).row (wcl false fun _ => 0)) Try.underlying32 rfl sz32 Try.underlying32 rfl sz32).trans ?_) rfl ⟨rfl, below_row (below_row (dB) (by omega) _) (by omega) _⟩
      simp [wdv, E0]
    · rw [if_neg hl]
      have hlen : ¬ l.length = 0 := fun h => hl (List.eq_nil_of_length_eq_zero h)
      by_cases hodd : l.length % 2 = 1
      · rw [if_pos hodd]
        have hcv := fun v w' hv => rootConv_any f v l (2 * l.length - 1) (by omega) (by omega) hsm.2 (fun _ => hl) hln w' hv
        obtain ⟨K, hK⟩ : ∃ K, K = (2 * l.length - 1) := ⟨_, rfl⟩
        rw [← hK] at hcv ⊢
        have eK := Lib.hid (show 2 * (l.length : Int) - 1 = (K : Int) by omega)
        have b1 : (((l.length : Nat) : Int) == 0) = false := beq_eq_false_iff_ne.2 (by omega)
        have b2 : (((l.length : Nat) : Int) % 2 == 1) = true := beq_iff_eq.2 (by omega)
        have HLN := hln
        have HL := Lib.hid hl
        have HSM := Lib.hid hsm
        clear hl hsm hlen hodd hK
        go_enter Try.func16, Try.ntmps16
        go_wp2_with fail
        refine (hc _).mono ?_
        rintro e w1 ⟨v, rfl, hv, hb1⟩
        have hcv := hcv v w1 hv
        obtain ⟨A, c, hvv, hcc, hrr⟩ := hv
        rw [hvv] at hcv ⊢
        clear hrr hvv hc
        have d4 : Blk w1 w.heap.size 32 (wcl false fun _ => 0) := ((Blk.newAt (by simp) 32 (wcl false fun _ => 0)).alloc _).later hb1
        have d5 : Blk w1 (w.heap.size + 1) 32 (wcl false fun _ => 0) := (Blk.newAt (by simp) 32 (wcl false fun _ => 0)).later hb1
        have dB : Below w.heap.size w w1 := below_then (below_alloc (below_alloc (Below.refl _ _) _) _) hb1
        have y4 := d4.lt
        have y5 := d5.lt
        go_wp2_with fail
        refine (calls_args (args' := #[.int .i64 f, .slice A l.length c, .int .i64 K]) (by rw [eK.out]) hcv).mono ?_
        rintro e w2 ⟨rfl, hb2⟩
        clear hcv
        replace d4 := d4.later hb2
        replace d5 := d5.later hb2
        have dB2 := below_then dB hb2
        have y4 := d4.lt
        have y5 := d5.lt
        cases hR : crun f l (K + 1) 0 1 0 0 1 with
        | none =>
          unfold cvalue
          go_wp2_with (first
            | ((with_reducible change wpList _ _ _ (Oper.mk none (Op.store 32 (Operand.tmp 2) _) _ _ _ _ :: _) _ _); refine wpList_store_row rfl 32 _ _ rfl (w.heap.size) (wcl false (lb (0))) rfl rfl 32 _ (d4) sz32 rfl (wcl_all _ _) ?_)
            | ((with_reducible change wpList _ _ _ (Oper.mk none (Op.store 32 (Operand.tmp 3) _) _ _ _ _ :: _) _ _); refine wpList_store_row rfl 32 _ _ rfl (w.heap.size + 1) (wcl false (lb (0))) rfl rfl 32 _ ((d5).row_far (by omega) _) sz32 rfl (wcl_all _ _) ?_))
          exact bodyPost_ret (v := .tuple #[wdv false (0), wdv false (0), .int .i64 3]) (res_row_row_tmp Try.results16 rfl ((d4.row _).row_far (by omega) _) rfl ((d5.row_far (by omega) _).row _) Try.underlying32 rfl sz32 Try.underlying32 rfl sz32) rfl ⟨congrArg Ending.returned (by rw [hR]; rfl), below_row (below_row dB2 (by omega) _) (by omega) _⟩
        | some pq =>
          unfold cvalue
          go_wp2_with (first
            | ((with_reducible change wpList _ _ _ (Oper.mk none (Op.store 32 (Operand.tmp 2) _) _ _ _ _ :: _) _ _); refine wpList_store_row rfl 32 _ _ rfl (w.heap.size) (wcl false (lb (pq.1))) rfl rfl 32 _ (d4) sz32 rfl (wcl_all _ _) ?_)
            | ((with_reducible change wpList _ _ _ (Oper.mk none (Op.store 32 (Operand.tmp 3) _) _ _ _ _ :: _) _ _); refine wpList_store_row rfl 32 _ _ rfl (w.heap.size + 1) (wcl false (lb (pq.2))) rfl rfl 32 _ ((d5).row_far (by omega) _) sz32 rfl (wcl_all _ _) ?_))
          exact bodyPost_ret (v := .tuple #[wdv false (pq.1), wdv false (pq.2), .int .i64 0]) (res_row_row_tmp Try.results16 rfl ((d4.row _).row_far (by omega) _) rfl ((d5.row_far (by omega) _).row _) Try.underlying32 rfl sz32 Try.underlying32 rfl sz32) rfl ⟨congrArg Ending.returned (by rw [hR]; rfl), below_row (below_row dB2 (by omega) _) (by omega) _⟩
      · rw [if_neg hodd]
        have hcv := fun v w' hv => rootConv_any f v l (l.length - 1) (by omega) (by omega) hsm.2 (fun _ => hl) hln w' hv
        obtain ⟨K, hK⟩ : ∃ K, K = (l.length - 1) := ⟨_, rfl⟩
        rw [← hK] at hcv ⊢
        have eK := Lib.hid (show (l.length : Int) - 1 = (K : Int) by omega)
        have b1 : (((l.length : Nat) : Int) == 0) = false := beq_eq_false_iff_ne.2 (by omega)
        have b2 : (((l.length : Nat) : Int) % 2 == 1) = false := beq_eq_false_iff_ne.2 (by omega)
        have HLN := hln
        have HL := Lib.hid hl
        have HSM := Lib.hid hsm
        clear hl hsm hlen hodd hK
        go_enter Try.func16, Try.ntmps16
        go_wp2_with fail
        refine (hc _).mono ?_
        rintro e w1 ⟨v, rfl, hv, hb1⟩
        have hcv := hcv v w1 hv
        obtain ⟨A, c, hvv, hcc, hrr⟩ := hv
        rw [hvv] at hcv ⊢
        clear hrr hvv hc
        have d4 : Blk w1 w.heap.size 32 (wcl false fun _ => 0) := ((Blk.newAt (by simp) 32 (wcl false fun _ => 0)).alloc _).later hb1
        have d5 : Blk w1 (w.heap.size + 1) 32 (wcl false fun _ => 0) := (Blk.newAt (by simp) 32 (wcl false fun _ => 0)).later hb1
        have dB : Below w.heap.size w w1 := below_then (below_alloc (below_alloc (Below.refl _ _) _) _) hb1
        have y4 := d4.lt
        have y5 := d5.lt
        go_wp2_with fail
        refine (calls_args (args' := #[.int .i64 f, .slice A l.length c, .int .i64 K]) (by rw [eK.out]) hcv).mono ?_
        rintro e w2 ⟨rfl, hb2⟩
        clear hcv
        replace d4 := d4.later hb2
        replace d5 := d5.later hb2
        have dB2 := below_then dB hb2
        have y4 := d4.lt
        have y5 := d5.lt
        cases hR : crun f l (K + 1) 0 1 0 0 1 with
        | none =>
          unfold cvalue
          go_wp2_with (first
            | ((with_reducible change wpList _ _ _ (Oper.mk none (Op.store 32 (Operand.tmp 2) _) _ _ _ _ :: _) _ _); refine wpList_store_row rfl 32 _ _ rfl (w.heap.size) (wcl false (lb (0))) rfl rfl 32 _ (d4) sz32 rfl (wcl_all _ _) ?_)
            | ((with_reducible change wpList _ _ _ (Oper.mk none (Op.store 32 (Operand.tmp 3) _) _ _ _ _ :: _) _ _); refine wpList_store_row rfl 32 _ _ rfl (w.heap.size + 1) (wcl false (lb (0))) rfl rfl 32 _ ((d5).row_far (by omega) _) sz32 rfl (wcl_all _ _) ?_))
          exact bodyPost_ret (v := .tuple #[wdv false (0), wdv false (0), .int .i64 3]) (res_row_row_tmp Try.results16 rfl ((d4.row _).row_far (by omega) _) rfl ((d5.row_far (by omega) _).row _) Try.underlying32 rfl sz32 Try.underlying32 rfl sz32) rfl ⟨congrArg Ending.returned (by rw [hR]; rfl), below_row (below_row dB2 (by omega) _) (by omega) _⟩
        | some pq =>
          unfold cvalue
          go_wp2_with (first
            | ((with_reducible change wpList _ _ _ (Oper.mk none (Op.store 32 (Operand.tmp 2) _) _ _ _ _ :: _) _ _); refine wpList_store_row rfl 32 _ _ rfl (w.heap.size) (wcl false (lb (pq.1))) rfl rfl 32 _ (d4) sz32 rfl (wcl_all _ _) ?_)
            | ((with_reducible change wpList _ _ _ (Oper.mk none (Op.store 32 (Operand.tmp 3) _) _ _ _ _ :: _) _ _); refine wpList_store_row rfl 32 _ _ rfl (w.heap.size + 1) (wcl false (lb (pq.2))) rfl rfl 32 _ ((d5).row_far (by omega) _) sz32 rfl (wcl_all _ _) ?_))
          exact bodyPost_ret (v := .tuple #[wdv false (pq.1), wdv false (pq.2), .int .i64 0]) (res_row_row_tmp Try.results16 rfl ((d4.row _).row_far (by omega) _) rfl ((d5.row_far (by omega) _).row _) Try.underlying32 rfl sz32 Try.underlying32 rfl sz32) rfl ⟨congrArg Ending.returned (by rw [hR]; rfl), below_row (below_row dB2 (by omega) _) (by omega) _⟩
  · rw [if_neg hD]
    have b0 : (cd != 0) = true := bne_iff_ne.2 hD
    clear hD hsm hln
    go_enter Try.func16, Try.ntmps16
    go_wp2_with fail
    refine (hc _).mono ?_
    rintro e w1 ⟨v, rfl, hv, hb1⟩
    clear hv hc
    have d4 : Blk w1 w.heap.size 32 (wcl false fun _ => 0) := ((Blk.newAt (by simp) 32 (wcl false fun _ => 0)).alloc _).later hb1
    have d5 : Blk w1 (w.heap.size + 1) 32 (wcl false fun _ => 0) := (Blk.newAt (by simp) 32 (wcl false fun _ => 0)).later hb1
    have dB : Below w.heap.size w w1 := below_then (below_alloc (below_alloc (Below.refl _ _) _) _) hb1
    have y4 := d4.lt
    have y5 := d5.lt
    go_wp2_with (first
      | ((with_reducible change wpList _ _ _ (Oper.mk none (Op.store 32 (Operand.tmp 2) _) _ _ _ _ :: _) _ _); refine wpList_store_row rfl 32 _ _ rfl (w.heap.size) (wcl false fun _ => 0) rfl rfl 32 _ (d4) sz32 rfl (wcl_all _ _) ?_)
      | ((with_reducible change wpList _ _ _ (Oper.mk none (Op.store 32 (Operand.tmp 3) _) _ _ _ _ :: _) _ _); refine wpList_store_row rfl 32 _ _ rfl (w.heap.size + 1) (wcl false fun _ => 0) rfl rfl 32 _ ((d5).row_far (by omega) _) sz32 rfl (wcl_all _ _) ?_))
    refine bodyPost_ret (v := .tuple #[wdv false 0, wdv false 0, .int .i64 (cd)]) ((res_row_row_tmp Try.results16 rfl (((d4).row (wcl false fun _ => 0)).row_far (by omega) (wcl false fun _ => 0)) rfl (((d5).row_far (by omega) (wcl false fun _ => 0)).row (wcl false fun _ => 0)) Try.underlying32 rfl sz32 Try.underlying32 rfl sz32).trans ?_) rfl ⟨rfl, below_row (below_row (dB) (by omega) _) (by omega) _⟩
    simp [wdv, E0]

set_option maxHeartbeats 2000000 in
set_option maxRecDepth 100000 in
theorem refUnit_any (n : Int) (h0 : -9223372036854775808 ≤ n) (h1 : n ≤ 9223372036854775807) (w : World) : Calls Try.prog 15 #[.int .i64 n] w fun e w' => e = .returned (unT n) ∧ Below w.heap.size w w' := by
  have E0 : lb 0 = fun _ => 0 := funext fun k => lb_zero k
  unfold unT unitK
  have hsm := rootT_small n
  have hln := rootT_length n
  have hc := refPeriod_any n h0 h1
  obtain ⟨f, l, cd, hX⟩ : ∃ f l cd, rootT n = (f, l, cd) := ⟨_, _, _, rfl⟩
  rw [hX] at hsm hln hc ⊢
  clear hX
  simp only [] at hsm hln hc ⊢
  by_cases hD : cd = 0
  · subst hD
    rw [if_pos rfl]
    by_cases hl : l = []
    · subst hl
      rw [if_pos rfl]
      clear hsm hln
      go_enter Try.func15, Try.ntmps15
      go_wp2_with fail
      refine (hc _).mono ?_
      rintro e w1 ⟨v, rfl, hv, hb1⟩
      obtain ⟨A, c, rfl, hcc, hrr⟩ := hv
      clear hrr hcc hc
      have d4 : Blk w1 w.heap.size 32 (wcl false fun _ => 0) := ((Blk.newAt (by simp) 32 (wcl false fun _ => 0)).alloc _).later hb1
      have d5 : Blk w1 (w.heap.size + 1) 32 (wcl false fun _ => 0) := (Blk.newAt (by simp) 32 (wcl false fun _ => 0)).later hb1
      have dB : Below w.heap.size w w1 := below_then (below_alloc (below_alloc (Below.refl _ _) _) _) hb1
      have y4 := d4.lt
      have y5 := d5.lt
      go_wp2_with (first
        | ((with_reducible change wpList _ _ _ (Oper.mk none (Op.store 32 (Operand.tmp 2) _) _ _ _ _ :: _) _ _); refine wpList_store_row rfl 32 _ _ rfl (w.heap.size) (wcl false fun _ => 0) rfl rfl 32 _ (d4) sz32 rfl (wcl_all _ _) ?_)
        | ((with_reducible change wpList _ _ _ (Oper.mk none (Op.store 32 (Operand.tmp 3) _) _ _ _ _ :: _) _ _); refine wpList_store_row rfl 32 _ _ rfl (w.heap.size + 1) (wcl false fun _ => 0) rfl rfl 32 _ ((d5).row_far (by omega) _) sz32 rfl (wcl_all _ _) ?_))
      refine bodyPost_ret (v := .tuple #[wdv false 0, wdv false 0, .int .i64 (4)]) ((res_row_row_tmp Try.results15 rfl (((d4).row (wcl false fun _ => 0)).row_far (by omega) (wcl false fun _ => 0)) rfl (((d5).row_far (by omega) (wcl false fun _ => 0)).row (wcl false fun _ => 0)) Try.underlying32 rfl sz32 Try.underlying32 rfl sz32).trans ?_) rfl ⟨rfl, below_row (below_row (dB) (by omega) _) (by omega) _⟩
      simp [wdv, E0]
    · rw [if_neg hl]
      have hlen : ¬ l.length = 0 := fun h => hl (List.eq_nil_of_length_eq_zero h)
      by_cases hodd : l.length % 2 = 1
      · rw [if_pos hodd]
        have hcv := fun v w' hv => refParts_any f v l (2 * l.length - 1) (by omega) (by omega) hsm.2 (fun _ => hl) hln w' hv
        obtain ⟨K, hK⟩ : ∃ K, K = (2 * l.length - 1) := ⟨_, rfl⟩
        rw [← hK] at hcv ⊢
        have eK := Lib.hid (show 2 * (l.length : Int) - 1 = (K : Int) by omega)
        have b1 : (((l.length : Nat) : Int) == 0) = false := beq_eq_false_iff_ne.2 (by omega)
        have b2 : (((l.length : Nat) : Int) % 2 == 1) = true := beq_iff_eq.2 (by omega)
        have HLN := hln
        have HL := Lib.hid hl
        have HSM := Lib.hid hsm
        clear hl hsm hlen hodd hK
        go_enter Try.func15, Try.ntmps15
        go_wp2_with fail
        refine (hc _).mono ?_
        rintro e w1 ⟨v, rfl, hv, hb1⟩
        have hcv := hcv v w1 hv
        obtain ⟨A, c, hvv, hcc, hrr⟩ := hv
        rw [hvv] at hcv ⊢
        clear hrr hvv hc
        have d4 : Blk w1 w.heap.size 32 (wcl false fun _ => 0) := ((Blk.newAt (by simp) 32 (wcl false fun _ => 0)).alloc _).later hb1
        have d5 : Blk w1 (w.heap.size + 1) 32 (wcl false fun _ => 0) := (Blk.newAt (by simp) 32 (wcl false fun _ => 0)).later hb1
        have dB : Below w.heap.size w w1 := below_then (below_alloc (below_alloc (Below.refl _ _) _) _) hb1
        have y4 := d4.lt
        have y5 := d5.lt
        go_wp2_with fail
        refine (calls_args (args' := #[.int .i64 f, .slice A l.length c, .int .i64 K]) (by rw [eK.out]) hcv).mono ?_
        rintro e w2 ⟨rfl, hb2⟩
        clear hcv
        replace d4 := d4.later hb2
        replace d5 := d5.later hb2
        have dB2 := below_then dB hb2
        have y4 := d4.lt
        have y5 := d5.lt
        cases hR : crun f l (K + 1) 0 1 0 0 1 with
        | none =>
          unfold cvalue
          go_wp2_with (first
            | ((with_reducible change wpList _ _ _ (Oper.mk none (Op.store 32 (Operand.tmp 2) _) _ _ _ _ :: _) _ _); refine wpList_store_row rfl 32 _ _ rfl (w.heap.size) (wcl false (lb (0))) rfl rfl 32 _ (d4) sz32 rfl (wcl_all _ _) ?_)
            | ((with_reducible change wpList _ _ _ (Oper.mk none (Op.store 32 (Operand.tmp 3) _) _ _ _ _ :: _) _ _); refine wpList_store_row rfl 32 _ _ rfl (w.heap.size + 1) (wcl false (lb (0))) rfl rfl 32 _ ((d5).row_far (by omega) _) sz32 rfl (wcl_all _ _) ?_))
          exact bodyPost_ret (v := .tuple #[wdv false (0), wdv false (0), .int .i64 3]) (res_row_row_tmp Try.results15 rfl ((d4.row _).row_far (by omega) _) rfl ((d5.row_far (by omega) _).row _) Try.underlying32 rfl sz32 Try.underlying32 rfl sz32) rfl ⟨congrArg Ending.returned (by rw [hR]; rfl), below_row (below_row dB2 (by omega) _) (by omega) _⟩
        | some pq =>
          unfold cvalue
          go_wp2_with (first
            | ((with_reducible change wpList _ _ _ (Oper.mk none (Op.store 32 (Operand.tmp 2) _) _ _ _ _ :: _) _ _); refine wpList_store_row rfl 32 _ _ rfl (w.heap.size) (wcl false (lb (pq.1))) rfl rfl 32 _ (d4) sz32 rfl (wcl_all _ _) ?_)
            | ((with_reducible change wpList _ _ _ (Oper.mk none (Op.store 32 (Operand.tmp 3) _) _ _ _ _ :: _) _ _); refine wpList_store_row rfl 32 _ _ rfl (w.heap.size + 1) (wcl false (lb (pq.2))) rfl rfl 32 _ ((d5).row_far (by omega) _) sz32 rfl (wcl_all _ _) ?_))
          exact bodyPost_ret (v := .tuple #[wdv false (pq.1), wdv false (pq.2), .int .i64 0]) (res_row_row_tmp Try.results15 rfl ((d4.row _).row_far (by omega) _) rfl ((d5.row_far (by omega) _).row _) Try.underlying32 rfl sz32 Try.underlying32 rfl sz32) rfl ⟨congrArg Ending.returned (by rw [hR]; rfl), below_row (below_row dB2 (by omega) _) (by omega) _⟩
      · rw [if_neg hodd]
        have hcv := fun v w' hv => refParts_any f v l (l.length - 1) (by omega) (by omega) hsm.2 (fun _ => hl) hln w' hv
        obtain ⟨K, hK⟩ : ∃ K, K = (l.length - 1) := ⟨_, rfl⟩
        rw [← hK] at hcv ⊢
        have eK := Lib.hid (show (l.length : Int) - 1 = (K : Int) by omega)
        have b1 : (((l.length : Nat) : Int) == 0) = false := beq_eq_false_iff_ne.2 (by omega)
        have b2 : (((l.length : Nat) : Int) % 2 == 1) = false := beq_eq_false_iff_ne.2 (by omega)
        have HLN := hln
        have HL := Lib.hid hl
        have HSM := Lib.hid hsm
        clear hl hsm hlen hodd hK
        go_enter Try.func15, Try.ntmps15
        go_wp2_with fail
        refine (hc _).mono ?_
        rintro e w1 ⟨v, rfl, hv, hb1⟩
        have hcv := hcv v w1 hv
        obtain ⟨A, c, hvv, hcc, hrr⟩ := hv
        rw [hvv] at hcv ⊢
        clear hrr hvv hc
        have d4 : Blk w1 w.heap.size 32 (wcl false fun _ => 0) := ((Blk.newAt (by simp) 32 (wcl false fun _ => 0)).alloc _).later hb1
        have d5 : Blk w1 (w.heap.size + 1) 32 (wcl false fun _ => 0) := (Blk.newAt (by simp) 32 (wcl false fun _ => 0)).later hb1
        have dB : Below w.heap.size w w1 := below_then (below_alloc (below_alloc (Below.refl _ _) _) _) hb1
        have y4 := d4.lt
        have y5 := d5.lt
        go_wp2_with fail
        refine (calls_args (args' := #[.int .i64 f, .slice A l.length c, .int .i64 K]) (by rw [eK.out]) hcv).mono ?_
        rintro e w2 ⟨rfl, hb2⟩
        clear hcv
        replace d4 := d4.later hb2
        replace d5 := d5.later hb2
        have dB2 := below_then dB hb2
        have y4 := d4.lt
        have y5 := d5.lt
        cases hR : crun f l (K + 1) 0 1 0 0 1 with
        | none =>
          unfold cvalue
          go_wp2_with (first
            | ((with_reducible change wpList _ _ _ (Oper.mk none (Op.store 32 (Operand.tmp 2) _) _ _ _ _ :: _) _ _); refine wpList_store_row rfl 32 _ _ rfl (w.heap.size) (wcl false (lb (0))) rfl rfl 32 _ (d4) sz32 rfl (wcl_all _ _) ?_)
            | ((with_reducible change wpList _ _ _ (Oper.mk none (Op.store 32 (Operand.tmp 3) _) _ _ _ _ :: _) _ _); refine wpList_store_row rfl 32 _ _ rfl (w.heap.size + 1) (wcl false (lb (0))) rfl rfl 32 _ ((d5).row_far (by omega) _) sz32 rfl (wcl_all _ _) ?_))
          exact bodyPost_ret (v := .tuple #[wdv false (0), wdv false (0), .int .i64 3]) (res_row_row_tmp Try.results15 rfl ((d4.row _).row_far (by omega) _) rfl ((d5.row_far (by omega) _).row _) Try.underlying32 rfl sz32 Try.underlying32 rfl sz32) rfl ⟨congrArg Ending.returned (by rw [hR]; rfl), below_row (below_row dB2 (by omega) _) (by omega) _⟩
        | some pq =>
          unfold cvalue
          go_wp2_with (first
            | ((with_reducible change wpList _ _ _ (Oper.mk none (Op.store 32 (Operand.tmp 2) _) _ _ _ _ :: _) _ _); refine wpList_store_row rfl 32 _ _ rfl (w.heap.size) (wcl false (lb (pq.1))) rfl rfl 32 _ (d4) sz32 rfl (wcl_all _ _) ?_)
            | ((with_reducible change wpList _ _ _ (Oper.mk none (Op.store 32 (Operand.tmp 3) _) _ _ _ _ :: _) _ _); refine wpList_store_row rfl 32 _ _ rfl (w.heap.size + 1) (wcl false (lb (pq.2))) rfl rfl 32 _ ((d5).row_far (by omega) _) sz32 rfl (wcl_all _ _) ?_))
          exact bodyPost_ret (v := .tuple #[wdv false (pq.1), wdv false (pq.2), .int .i64 0]) (res_row_row_tmp Try.results15 rfl ((d4.row _).row_far (by omega) _) rfl ((d5.row_far (by omega) _).row _) Try.underlying32 rfl sz32 Try.underlying32 rfl sz32) rfl ⟨congrArg Ending.returned (by rw [hR]; rfl), below_row (below_row dB2 (by omega) _) (by omega) _⟩
  · rw [if_neg hD]
    have b0 : (cd != 0) = true := bne_iff_ne.2 hD
    clear hD hsm hln
    go_enter Try.func15, Try.ntmps15
    go_wp2_with fail
    refine (hc _).mono ?_
    rintro e w1 ⟨v, rfl, hv, hb1⟩
    clear hv hc
    have d4 : Blk w1 w.heap.size 32 (wcl false fun _ => 0) := ((Blk.newAt (by simp) 32 (wcl false fun _ => 0)).alloc _).later hb1
    have d5 : Blk w1 (w.heap.size + 1) 32 (wcl false fun _ => 0) := (Blk.newAt (by simp) 32 (wcl false fun _ => 0)).later hb1
    have dB : Below w.heap.size w w1 := below_then (below_alloc (below_alloc (Below.refl _ _) _) _) hb1
    have y4 := d4.lt
    have y5 := d5.lt
    go_wp2_with (first
      | ((with_reducible change wpList _ _ _ (Oper.mk none (Op.store 32 (Operand.tmp 2) _) _ _ _ _ :: _) _ _); refine wpList_store_row rfl 32 _ _ rfl (w.heap.size) (wcl false fun _ => 0) rfl rfl 32 _ (d4) sz32 rfl (wcl_all _ _) ?_)
      | ((with_reducible change wpList _ _ _ (Oper.mk none (Op.store 32 (Operand.tmp 3) _) _ _ _ _ :: _) _ _); refine wpList_store_row rfl 32 _ _ rfl (w.heap.size + 1) (wcl false fun _ => 0) rfl rfl 32 _ ((d5).row_far (by omega) _) sz32 rfl (wcl_all _ _) ?_))
    refine bodyPost_ret (v := .tuple #[wdv false 0, wdv false 0, .int .i64 (cd)]) ((res_row_row_tmp Try.results15 rfl (((d4).row (wcl false fun _ => 0)).row_far (by omega) (wcl false fun _ => 0)) rfl (((d5).row_far (by omega) (wcl false fun _ => 0)).row (wcl false fun _ => 0)) Try.underlying32 rfl sz32 Try.underlying32 rfl sz32).trans ?_) rfl ⟨rfl, below_row (below_row (dB) (by omega) _) (by omega) _⟩
    simp [wdv, E0]
end Go.Proofs.Ytjgikfejfglllaa
