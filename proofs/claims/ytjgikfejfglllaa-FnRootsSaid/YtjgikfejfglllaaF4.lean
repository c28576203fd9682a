/- The law of roots: the walk. -/
import Derived.Test.YtjgikfejfglllaaP2
import Derived.Test.YtjgikfejfglllaaF3
set_option linter.unusedVariables false
set_option linter.unusedSimpArgs false
namespace Go.Proofs.Ytjgikfejfglllaa
open Go.RowKit


theorem Byt.drewN {w : World} {v : Value} {n : Nat} (h : Byt w v n) (k : Nat) : Byt (w.drewN k) v n := h.later (below_drewN (Below.refl _ _) k)
set_option maxHeartbeats 1000000 in
set_option maxRecDepth 100000 in
theorem lawRoots_long (v : Value) (n : Nat) (hn : 3000 < n) (w : World) (h : Byt w v n) : Calls Try.prog 6 #[v] w fun e w' => e = .returned (.bool true) ∧ Below w.heap.size w w' := by
  have hl := a2Long_any v n w h
  rw [decide_eq_true hn] at hl
  go_enter Try.func6, Try.ntmps6
  go_wp2_with (go_at_call 20; refine hl.mono ?_; rintro e w' ⟨rfl, rfl⟩)
  go_ret
  exact ⟨rfl, Below.refl _ _⟩
theorem crun_lt (f : Nat) (l : List Nat) : ∀ (n i p q p0 q0 X Y : Nat), p < pw 6 → q < pw 6 → crun f l n i p q p0 q0 = some (X, Y) → X < pw 6 ∧ Y < pw 6 := by
  intro n
  induction n with
  | zero =>
    intro i p q p0 q0 X Y hp hq h
    rw [crun] at h
    injection h with h
    injection h with h1 h2
    exact ⟨h1 ▸ hp, h2 ▸ hq⟩
  | succ n ih =>
    intro i p q p0 q0 X Y hp hq h
    rw [crun] at h
    split at h
    · rename_i hc
      simp only [cfit, Bool.and_eq_true, decide_eq_true_eq] at hc
      exact ih _ _ _ _ _ X Y hc.1.2 hc.2 h
    · cases h
theorem wpList_load_rowG {P : Program} {ops : Array Oper} {rest : List Oper} {o : Oper} {a : Act} {w : World} {Q : Exit → Act → World → Prop} (hw : Region.wanted o (yielded ops a.tmps) = true) (ty : TypeId) (x : Operand) (ho : o.op = .load ty x)
    (g : Nat) (hx : a.eval x = .pointer (some ⟨g, 0, none⟩)) (t : TypeId) (cs : Array Value) (fr : Nat × Nat) (d : TypeDesc) (hg : w.heap[g]? = some (.cells cs t fr))
    (hu : P.underlying ty = some d) (hd : (match d with | .struct _ | .array _ _ => true | _ => false) = true) (hi : (P.info? ty).map (·.size) = some cs.size)
    (h : wpList P ops Q rest (a.put o.dst (.agg cs)) w) : wpList P ops Q (o :: rest) a w :=
  wpList_step fun K hK => by
    simp only [hw, if_true]
    exact wp_load_row ty x ho g hx t cs fr d hg hu hd hi (hK _ _ h)

set_option maxHeartbeats 4000000 in
set_option maxRecDepth 100000 in
theorem lawRoots_short (v : Value) (n : Nat) (hn : n ≤ 3000) (w : World) (h : Byt w v n) : Calls Try.prog 6 #[v] w fun e w' => e = .returned (.bool true) ∧ Below w.heap.size w w' := by
  have hl := a2Long_any v n w h
  rw [decide_eq_false (by omega)] at hl
  have ha := a2At_any v n 0 256 (by decide) (by decide) (by decide) hn w h
  have hb := a2At_any v n 1 4 (by decide) (by decide) (by decide) hn w h
  go_enter Try.func6, Try.ntmps6
  go_wp2_with (go_at_call 20; refine hl.mono ?_; rintro e w' ⟨rfl, rfl⟩)
  refine (calls_args (args' := #[v, .int .i64 (0 : Nat), .int .i64 (256 : Nat)]) rfl ha).mono ?_
  rintro e w' ⟨⟨x, hx, rfl⟩, rfl⟩
  go_wp2_with fail
  refine (calls_args (args' := #[v, .int .i64 (1 : Nat), .int .i64 (4 : Nat)]) rfl hb).mono ?_
  rintro e w' ⟨⟨y, hy, rfl⟩, rfl⟩
  clear ha hb hl
  obtain ⟨N, hN⟩ : ∃ N : Nat, N = x * 4 + y := ⟨_, rfl⟩
  have eN : (x : Int) * 4 + (y : Int) = (N : Int) := by omega
  have hN2 : N < 1024 := by omega
  clear hN
  go_wp2_with fail
  by_cases hs : isq N * isq N = N
  · have hR := root_sq hN2 hs
    have hU := unT_sq hR
    have hA := rta_sq hN2 hR
    have c22 := rootTerms_any N (by omega) (by omega)
    have c23 := refRoots_any N (by omega) (by omega)
    have c16 := unitOf_any N (by omega) (by omega)
    have c25 := rootTermAt_any N 1 (by omega) (by omega)
    rw [hR] at c22 c23
    rw [hU] at c16
    rw [hA] at c25
    have hq := isq_small (n := N) (by omega)
    have hsq := isq_at (n := N) (by omega)
    obtain ⟨f, hf⟩ : ∃ f, f = isq N := ⟨_, rfl⟩
    rw [← hf] at c22 c23 hs hq hsq
    clear hf hR hU hA
    simp only [] at c22 c23 c25
    have e1 : (f : Int) * (f : Int) = (N : Int) := by rw [← Int.natCast_mul, hs]
    obtain ⟨t, ht⟩ : ∃ t, t = (f + 1) * (f + 1) := ⟨_, rfl⟩
    rw [← ht] at hsq
    have e2 : ((f : Int) + 1) * ((f : Int) + 1) = (t : Int) := by rw [ht]; simp
    have ht2 : t ≤ 1100000 := by rw [ht]; exact Nat.le_trans (Nat.mul_le_mul (show f + 1 ≤ 1001 by omega) (show f + 1 ≤ 1001 by omega)) (by decide)
    have hlt := hsq.2
    clear hsq ht hs
    refine (c22 _).mono ?_
    rintro e w1 ⟨v1, rfl, hv1, hb1⟩
    have dB := hb1
    go_wp2_with fail
    refine (c23 _).mono ?_
    rintro e w2 ⟨v2, rfl, hv2, hb2⟩
    replace dB := below_then dB hb2
    have c24 := a2Same_any v1 v2 [] (by decide) w2 (hv1.later hb2) hv2
    obtain ⟨A, c, rfl, hcc, hrr⟩ := hv2
    clear hrr hv1 hcc
    go_wp2_with (go_at_call 24; refine c24.mono ?_; rintro e w3 ⟨rfl, hb3⟩; replace dB := below_then dB hb3)
    refine (c16 _).mono ?_
    rintro e w4 ⟨rfl, hb4⟩
    replace dB := below_then dB hb4
    go_wp2_with (first
      | ((with_reducible change wpList _ _ _ (Oper.mk none (Op.store 32 (Operand.tmp 11) _) _ _ _ _ :: _) _ _); refine wpList_store_row rfl 32 _ _ rfl (w4.heap.size) (wcl false (lb 0)) rfl rfl 32 _ (((Blk.newAt rfl 32 (wcl false fun _ => 0)).alloc _)) sz32 rfl (wcl_all _ _) ?_)
      | ((with_reducible change wpList _ _ _ (Oper.mk none (Op.store 32 (Operand.tmp 12) _) _ _ _ _ :: _) _ _); refine wpList_store_row rfl 32 _ _ rfl (w4.heap.size + 1) (wcl false (lb 0)) rfl rfl 32 _ (((Blk.newAt (by simp) 32 (wcl false fun _ => 0))).row_far (by omega) _) sz32 rfl (wcl_all _ _) ?_))
    have y4 := dB.size
    refine (c25 _).mono ?_
    rintro e w5 ⟨rfl, hb5⟩
    replace dB := below_then (below_row (below_row (below_alloc (below_alloc dB _) _) (by omega) _) (by omega) _) hb5
    go_wp2
    go_ret
    exact ⟨rfl, dB⟩
  · obtain ⟨l, hR, hl0, hlast, hpal, hP⟩ := root_in hN2 hs
    have hU := unT_in hR hl0
    have hln := rootT_length N
    have c22 := rootTerms_any N (by omega) (by omega)
    have c23 := refRoots_any N (by omega) (by omega)
    have c16 := unitOf_any N (by omega) (by omega)
    have c15 := refUnit_any N (by omega) (by omega)
    have c25 := fun k : Nat => fun hk : k < 1000 => rootTermAt_any N k (by omega) (by omega)
    have c26 := fun k : Nat => fun hk : k < 1000 => refTermAt_any N k (by omega) (by omega)
    have hta := fun k : Nat => fun hk : k < 1000 => rta_in hN2 hk hR hl0
    rw [hR] at c22 c23 hln
    rw [hU] at c16 c15
    have hq := isq_small (n := N) (by omega)
    have hsq := isq_at (n := N) (by omega)
    obtain ⟨R, hRR⟩ : ∃ R, R = crun (isq N) l (unitN l + 1) 0 1 0 0 1 := ⟨_, rfl⟩
    rw [← hRR] at c16 c15 hP
    have HXY := Lib.hid (fun X Y (hxy : R = some (X, Y)) => crun_lt (isq N) l _ _ _ _ _ _ X Y (by decide) (by decide) (hRR ▸ hxy))
    clear hRR hU
    obtain ⟨f, hf⟩ : ∃ f, f = isq N := ⟨_, rfl⟩
    rw [← hf] at c22 c23 hq hsq hlast
    clear hf hR hs
    simp only [] at c22 c23 hln
    obtain ⟨s, hs⟩ : ∃ s, s = f * f := ⟨_, rfl⟩
    rw [← hs] at hsq
    have e1 : (f : Int) * (f : Int) = (s : Int) := by rw [hs]; simp
    obtain ⟨t, ht⟩ : ∃ t, t = (f + 1) * (f + 1) := ⟨_, rfl⟩
    rw [← ht] at hsq
    have e2 : ((f : Int) + 1) * ((f : Int) + 1) = (t : Int) := by rw [ht]; simp
    have ht2 : t ≤ 1100000 := by rw [ht]; exact Nat.le_trans (Nat.mul_le_mul (show f + 1 ≤ 1001 by omega) (show f + 1 ≤ 1001 by omega)) (by decide)
    have hlt := hsq.2
    have hle := hsq.1
    have hlen : 0 < l.length := List.length_pos_iff.2 hl0
    have b0 : (((l.length : Nat) : Int) == 0) = false := beq_eq_false_iff_ne.2 (by omega)
    obtain ⟨K1, hK1⟩ : ∃ K1, K1 = l.length - 1 := ⟨_, rfl⟩
    have eK1 : ((l.length : Nat) : Int) - 1 = (K1 : Int) := by omega
    rw [← hK1] at hlast
    have hK1l : K1 < l.length := by omega
    clear hK1
    have HL0 := Lib.hid hl0
    have HPAL := Lib.hid hpal
    have HTA := Lib.hid hta
    have HP := Lib.hid hP
    have HLAST := Lib.hid hlast
    clear hsq ht hs hl0 hpal hta hP hlast
    refine (c22 _).mono ?_
    rintro e w1 ⟨v1, rfl, hv1, hb1⟩
    have dB := hb1
    go_wp2_with fail
    refine (c23 _).mono ?_
    rintro e w2 ⟨v2, rfl, hv2, hb2⟩
    replace dB := below_then dB hb2
    have c24 := a2Same_any v1 v2 l hln w2 (hv1.later hb2) hv2
    obtain ⟨A, c, rfl, hcc, hrr⟩ := hv2
    obtain ⟨g, hA, hcl⟩ := Rd.at hrr hK1l
    rw [HLAST.out, show ((2 * f : Nat) : Int) = 2 * (f : Int) by simp] at hcl
    obtain ⟨g', hA', hg', hx'⟩ := hrr HL0.out
    obtain rfl : g = g' := by rw [hA] at hA'; injection hA' with hA'; injection hA'
    subst hA
    have HX := Lib.hid hx'
    clear hrr hv1 hcc hx' hA'
    go_wp2_with fail
    refine c24.mono ?_
    rintro e w3 ⟨rfl, hb3⟩
    replace dB := below_then dB hb3
    have hcl3 := (hb3.cell (p := ⟨g, K1, none⟩) hg').trans hcl
    have HB3 := Lib.hid hb3
    clear c24 c22 c23 hb1 hb2 hb3 hcl
    go_wp2_with fail
    go_loopw [16] (fun i wr => ∃ k : Nat, i = .int .i64 k ∧ k + 1 ≤ l.length ∧ Drw w3 wr)
      (fun i _ => l.length - (intOf i).toNat)
    case atStart => exact ⟨0, rfl, by omega, Drw.refl _⟩
    case round =>
      obtain ⟨i, rfl, hi, nd, rfl⟩ := hrel
      by_cases hil : i + 1 < l.length
      · obtain ⟨K2, hK2⟩ : ∃ K2, K2 = l.length - 2 - i := ⟨_, rfl⟩
        have eK2 : ((l.length : Nat) : Int) - 2 - (i : Int) = (K2 : Int) := by omega
        have hp := HPAL.out i hil
        rw [← hK2] at hp
        have hk2 : K2 < l.length := by omega
        have k1 := (HB3.out.cell (p := ⟨g, i, none⟩) hg').trans (HX.out i _ (List.getElem?_eq_getElem (show i < l.length by omega)))
        have k2 := (HB3.out.cell (p := ⟨g, K2, none⟩) hg').trans (HX.out K2 _ (List.getElem?_eq_getElem hk2))
        rw [List.getD_eq_getElem?_getD, List.getD_eq_getElem?_getD, List.getElem?_eq_getElem (show i < l.length by omega), List.getElem?_eq_getElem hk2] at hp
        simp only [Option.getD_some] at hp
        rw [← hp] at k2
        obtain ⟨z, hz⟩ : ∃ z, z = l[i]'(show i < l.length by omega) := ⟨_, rfl⟩
        rw [← hz] at k1 k2
        clear hp hz hK2
        go_wp2
        go_quiet (fail)
        go_wp2
        go_roundw
        case rel => exact ⟨i + 1, by go_num, by omega, _, rfl⟩
        case measure => simp [intOf] <;> omega
      · have hil2 : i + 1 = l.length := by omega
        have e5 : ((l.length : Nat) : Int) = (i : Int) + 1 := by omega
        go_wp2_with fail
        have dB4 : Below w.heap.size w (w3.drewN nd) := below_drewN dB nd
        obtain ⟨w4, hw4⟩ : ∃ w4, w4 = w3.drewN nd := ⟨_, rfl⟩
        rw [← hw4] at dB4 ⊢
        clear hw4 dB e5 eK1 hcl3
        replace dB := dB4
        clear dB4
        refine (calls_args (args' := #[v, .int .i64 (2 : Nat), .int .i64 (200 : Nat)]) rfl (a2At_any v n 2 200 (by decide) (by decide) (by decide) hn _ (h.later dB))).mono ?_
        rintro e w' ⟨⟨k, hk, rfl⟩, rfl⟩
        have hta := HTA.out k (by omega)
        have c25 := c25 k (by omega)
        have c26 := c26 k (by omega)
        rw [hta] at c25 c26
        simp only [] at c25 c26
        clear hta
        generalize rterm (isq N) l k = T at c25 c26
        go_wp2_with fail
        refine (c25 _).mono ?_
        rintro e w5 ⟨rfl, hb⟩
        replace dB := below_then dB hb
        clear hb
        go_wp2_with fail
        refine (c26 _).mono ?_
        rintro e w6 ⟨rfl, hb⟩
        replace dB := below_then dB hb
        clear hb
        go_wp2_with fail
        refine (c16 _).mono ?_
        rintro e w7 ⟨rfl, hb⟩
        replace dB := below_then dB hb
        have s7 := dB.size
        clear hb c25 c26 c16
        cases R with
        | none =>
          simp only [cvalue] at c15 ⊢
          go_wp2_with (first
            | ((with_reducible change wpList _ _ _ (Oper.mk none (Op.store 32 (Operand.tmp 22) _) _ _ _ _ :: _) _ _); refine wpList_store_row rfl 32 _ _ rfl (w7.heap.size) (wcl false (lb 0)) rfl rfl 32 _ (((Blk.newAt rfl 32 (wcl false fun _ => 0)).alloc _)) sz32 rfl (wcl_all _ _) ?_)
            | ((with_reducible change wpList _ _ _ (Oper.mk none (Op.store 32 (Operand.tmp 23) _) _ _ _ _ :: _) _ _); refine wpList_store_row rfl 32 _ _ rfl (w7.heap.size + 1) (wcl false (lb 0)) rfl rfl 32 _ (((Blk.newAt (by simp) 32 (wcl false fun _ => 0))).row_far (by omega) _) sz32 rfl (wcl_all _ _) ?_))
          refine (c15 _).mono ?_
          rintro e w8 ⟨rfl, hb⟩
          have d22 : Blk w8 w7.heap.size 32 (wcl false (lb 0)) := ((((Blk.newAt rfl 32 (wcl false fun _ => 0)).alloc _).row _).row_far (by omega) _).later hb
          have d23 : Blk w8 (w7.heap.size + 1) 32 (wcl false (lb 0)) := ((((Blk.newAt (by simp) 32 (wcl false fun _ => 0))).row_far (by omega) _).row _).later hb
          replace dB : Below w.heap.size w w8 := below_then (below_row (below_row (below_alloc (below_alloc dB _) _) (by omega) _) (by omega) _) hb
          have y22 := d22.lt
          have y23 := d23.lt
          clear hb c15
          go_wp2_with (first
            | ((with_reducible change wpList _ _ _ (Oper.mk none (Op.store 32 (Operand.tmp 25) _) _ _ _ _ :: _) _ _); refine wpList_store_row rfl 32 _ _ rfl (w8.heap.size) (wcl false (lb 0)) rfl rfl 32 _ (((Blk.newAt rfl 32 (wcl false fun _ => 0)).alloc _)) sz32 rfl (wcl_all _ _) ?_)
            | ((with_reducible change wpList _ _ _ (Oper.mk none (Op.store 32 (Operand.tmp 26) _) _ _ _ _ :: _) _ _); refine wpList_store_row rfl 32 _ _ rfl (w8.heap.size + 1) (wcl false (lb 0)) rfl rfl 32 _ (((Blk.newAt (by simp) 32 (wcl false fun _ => 0))).row_far (by omega) _) sz32 rfl (wcl_all _ _) ?_))
          go_ret
          exact ⟨rfl, below_row (below_row (below_alloc (below_alloc dB _) _) (by omega) _) (by omega) _⟩
        | some XY =>
          obtain ⟨X, Y⟩ := XY
          obtain ⟨hX, hY⟩ := HXY.out X Y rfl
          have hPell := Lib.hid (HP.out : X * X < pw 6 → Y * Y < pw 6 → N * (Y * Y) < pw 6 → X * X = N * (Y * Y) + 1 ∧ 0 < N * (Y * Y))
          clear HP HXY
          simp only [cvalue] at c15 ⊢
          go_wp2_with (first
            | ((with_reducible change wpList _ _ _ (Oper.mk none (Op.store 32 (Operand.tmp 22) _) _ _ _ _ :: _) _ _); refine wpList_store_row rfl 32 _ _ rfl (w7.heap.size) (wcl false (lb X)) rfl rfl 32 _ (((Blk.newAt rfl 32 (wcl false fun _ => 0)).alloc _)) sz32 rfl (wcl_all _ _) ?_)
            | ((with_reducible change wpList _ _ _ (Oper.mk none (Op.store 32 (Operand.tmp 23) _) _ _ _ _ :: _) _ _); refine wpList_store_row rfl 32 _ _ rfl (w7.heap.size + 1) (wcl false (lb Y)) rfl rfl 32 _ (((Blk.newAt (by simp) 32 (wcl false fun _ => 0))).row_far (by omega) _) sz32 rfl (wcl_all _ _) ?_))
          refine (c15 _).mono ?_
          rintro e w8 ⟨rfl, hb⟩
          have d22 : Blk w8 w7.heap.size 32 (wcl false (lb X)) := ((((Blk.newAt rfl 32 (wcl false fun _ => 0)).alloc _).row _).row_far (by omega) _).later hb
          have d23 : Blk w8 (w7.heap.size + 1) 32 (wcl false (lb Y)) := ((((Blk.newAt (by simp) 32 (wcl false fun _ => 0))).row_far (by omega) _).row _).later hb
          replace dB : Below w.heap.size w w8 := below_then (below_row (below_row (below_alloc (below_alloc dB _) _) (by omega) _) (by omega) _) hb
          have y22 := d22.lt
          have y23 := d23.lt
          clear hb c15
          have eX := eqW false (lb X)
          have eY := eqW false (lb Y)
          go_wp2_with (first
            | ((with_reducible change wpList _ _ _ (Oper.mk none (Op.store 32 (Operand.tmp 25) _) _ _ _ _ :: _) _ _); refine wpList_store_row rfl 32 _ _ rfl (w8.heap.size) (wcl false (lb X)) rfl rfl 32 _ (((Blk.newAt rfl 32 (wcl false fun _ => 0)).alloc _)) sz32 rfl (wcl_all _ _) ?_)
            | ((with_reducible change wpList _ _ _ (Oper.mk none (Op.store 32 (Operand.tmp 26) _) _ _ _ _ :: _) _ _); refine wpList_store_row rfl 32 _ _ rfl (w8.heap.size + 1) (wcl false (lb Y)) rfl rfl 32 _ (((Blk.newAt (by simp) 32 (wcl false fun _ => 0))).row_far (by omega) _) sz32 rfl (wcl_all _ _) ?_)
            | ((with_reducible change wpList _ _ _ (Oper.mk (some 190) (Op.load 32 _) _ _ _ _ :: _) _ _); refine wpList_load_rowG (by kernel_rfl) 32 _ rfl (w7.heap.size) rfl 32 _ _ _ (((((d22).alloc _).alloc _).row_far (by omega) _).row_far (by omega) _) Try.underlying32 rfl sz32 ?_)
            | ((with_reducible change wpList _ _ _ (Oper.mk (some 191) (Op.load 32 _) _ _ _ _ :: _) _ _); refine wpList_load_rowG (by kernel_rfl) 32 _ rfl (w8.heap.size) rfl 32 _ _ _ ((((Blk.newAt rfl 32 (wcl false fun _ => 0)).alloc _).row _).row_far (by omega) _) Try.underlying32 rfl sz32 ?_)
            | ((with_reducible change wpList _ _ _ (Oper.mk (some 194) (Op.load 32 _) _ _ _ _ :: _) _ _); refine wpList_load_rowG (by kernel_rfl) 32 _ rfl (w7.heap.size + 1) rfl 32 _ _ _ (((((d23).alloc _).alloc _).row_far (by omega) _).row_far (by omega) _) Try.underlying32 rfl sz32 ?_)
            | ((with_reducible change wpList _ _ _ (Oper.mk (some 195) (Op.load 32 _) _ _ _ _ :: _) _ _); refine wpList_load_rowG (by kernel_rfl) 32 _ rfl (w8.heap.size + 1) rfl 32 _ _ _ ((((Blk.newAt (by simp) 32 (wcl false fun _ => 0))).row_far (by omega) _).row _) Try.underlying32 rfl sz32 ?_)
            | ((with_reducible change wpList _ _ _ (Oper.mk (some 205) (Op.load 32 _) _ _ _ _ :: _) _ _); refine wpList_load_row rfl 32 _ rfl (w8.heap.size) rfl 32 _ _ _ ((((Blk.newAt rfl 32 (wcl false fun _ => 0)).alloc _).row _).row_far (by omega) _) Try.underlying32 rfl sz32 ?_)
            | ((with_reducible change wpList _ _ _ (Oper.mk (some 206) (Op.load 32 _) _ _ _ _ :: _) _ _); refine wpList_load_row rfl 32 _ rfl (w8.heap.size) rfl 32 _ _ _ ((((Blk.newAt rfl 32 (wcl false fun _ => 0)).alloc _).row _).row_far (by omega) _) Try.underlying32 rfl sz32 ?_))
          refine (calls_args (args' := #[wdv false X, wdv false X]) rfl (mulWides X X hX hX _)).mono ?_
          rintro e w9 ⟨rfl, hb⟩
          have d26 : Blk w9 (w8.heap.size + 1) 32 (wcl false (lb Y)) := ((((Blk.newAt (by simp) 32 (wcl false fun _ => 0))).row_far (by omega) _).row _).later hb
          have s8 := dB.size
          replace dB : Below w.heap.size w w9 := below_then (below_row (below_row (below_alloc (below_alloc dB _) _) (by omega) _) (by omega) _) hb
          have y26 := d26.lt
          clear hb d22 d23 eX eY
          go_wp2_with (first
            | ((with_reducible change wpList _ _ _ (Oper.mk none (Op.store 32 (Operand.tmp 28) _) _ _ _ _ :: _) _ _); refine wpList_store_row rfl 32 _ _ rfl (w9.heap.size) (wcl false (lb (mz X X))) rfl rfl 32 _ (Blk.newAt rfl 32 (wcl false fun _ => 0)) sz32 rfl (wcl_all _ _) ?_)
            | ((with_reducible change wpList _ _ _ (Oper.mk (some 211) (Op.load 32 _) _ _ _ _ :: _) _ _); refine wpList_load_row rfl 32 _ rfl (w8.heap.size + 1) rfl 32 _ _ _ ((d26.alloc _).row_far (by omega) _) Try.underlying32 rfl sz32 ?_)
            | ((with_reducible change wpList _ _ _ (Oper.mk (some 212) (Op.load 32 _) _ _ _ _ :: _) _ _); refine wpList_load_row rfl 32 _ rfl (w8.heap.size + 1) rfl 32 _ _ _ ((d26.alloc _).row_far (by omega) _) Try.underlying32 rfl sz32 ?_))
          refine (calls_args (args' := #[wdv false Y, wdv false Y]) rfl (mulWides Y Y hY hY _)).mono ?_
          rintro e w10 ⟨rfl, hb⟩
          have d28 : Blk w10 w9.heap.size 32 (wcl false (lb (mz X X))) := ((Blk.newAt rfl 32 (wcl false fun _ => 0)).row _).later hb
          have s9 := dB.size
          replace dB : Below w.heap.size w w10 := below_then (below_row (below_alloc dB _) (by omega) _) hb
          have y28 := d28.lt
          have s10 := dB.size
          clear hb d26
          by_cases m1 : X * X < pw 6
          case neg =>
            rw [show mcd X X = 3 from if_neg m1]
            go_wp2_with (first
              | ((with_reducible change wpList _ _ _ (Oper.mk none (Op.store 32 (Operand.tmp 30) _) _ _ _ _ :: _) _ _); refine wpList_store_row rfl 32 _ _ rfl (w10.heap.size) (wcl false (lb (mz Y Y))) rfl rfl 32 _ (Blk.newAt rfl 32 (wcl false fun _ => 0)) sz32 rfl (wcl_all _ _) ?_))
            go_ret
            exact ⟨rfl, below_row (below_alloc dB _) (by omega) _⟩
          rw [show mcd X X = 0 from if_pos m1]
          by_cases m2 : Y * Y < pw 6
          case neg =>
            rw [show mcd Y Y = 3 from if_neg m2]
            go_wp2_with (first
              | ((with_reducible change wpList _ _ _ (Oper.mk none (Op.store 32 (Operand.tmp 30) _) _ _ _ _ :: _) _ _); refine wpList_store_row rfl 32 _ _ rfl (w10.heap.size) (wcl false (lb (mz Y Y))) rfl rfl 32 _ (Blk.newAt rfl 32 (wcl false fun _ => 0)) sz32 rfl (wcl_all _ _) ?_))
            go_ret
            exact ⟨rfl, below_row (below_alloc dB _) (by omega) _⟩
          rw [show mcd Y Y = 0 from if_pos m2]
          have hN6 : N < pw 6 := Nat.lt_of_lt_of_le hN2 (by decide)
          have hYY := mz_lt Y Y
          have q1 := Lib.hid (show mz X X = X * X from if_pos m1)
          have q2 := Lib.hid (show mz Y Y = Y * Y from if_pos m2)
          have cM := mulWides N (mz Y Y) hN6 hYY
          have cW := refWideOf N (by omega)
          go_wp2_with (first
            | ((with_reducible change wpList _ _ _ (Oper.mk none (Op.store 32 (Operand.tmp 30) _) _ _ _ _ :: _) _ _); refine wpList_store_row rfl 32 _ _ rfl (w10.heap.size) (wcl false (lb (mz Y Y))) rfl rfl 32 _ (Blk.newAt rfl 32 (wcl false fun _ => 0)) sz32 rfl (wcl_all _ _) ?_))
          try go_frame
          have g28 : Blk ((w10.alloc (.cells (wcl false fun _ => 0) 32)).setRow w10.heap.size (wcl false (lb (mz Y Y)))) w9.heap.size 32 (wcl false (lb (mz X X))) := (d28.alloc _).row_far (by omega) _
          have g30 : Blk ((w10.alloc (.cells (wcl false fun _ => 0) 32)).setRow w10.heap.size (wcl false (lb (mz Y Y)))) w10.heap.size 32 (wcl false (lb (mz Y Y))) := (Blk.newAt rfl 32 (wcl false fun _ => 0)).row _
          replace dB : Below w.heap.size w ((w10.alloc (.cells (wcl false fun _ => 0) 32)).setRow w10.heap.size (wcl false (lb (mz Y Y)))) := below_row (below_alloc dB _) (by omega) _
          obtain ⟨w11, hw11⟩ : ∃ w11, w11 = (w10.alloc (.cells #[.bool false, .int .u32 0, .int .u32 0, .int .u32 0, .int .u32 0, .int .u32 0, .int .u32 0] 32)).setRow w10.heap.size (wcl false (lb (mz Y Y))) := ⟨_, rfl⟩
          rw [← hw11]
          replace g28 : Blk w11 w9.heap.size 32 (wcl false (lb (mz X X))) := by rw [hw11]; exact g28
          replace g30 : Blk w11 w10.heap.size 32 (wcl false (lb (mz Y Y))) := by rw [hw11]; exact g30
          replace dB : Below w.heap.size w w11 := by rw [hw11]; exact dB
          clear hw11
          replace g28 := g28.drewN 1
          replace g30 := g30.drewN 1
          replace dB := below_drewN dB 1
          clear d28
          have eW := eqW false (lb 1)
          have c1 := refWideOf 1 (by decide)
          have hE : N * mz Y Y < pw 6 → ∀ w, Calls Try.prog 29 #[wdv false (mz X X), wdv false (mz N (mz Y Y))] w fun e w' => e = .returned (.tuple #[wdv false 1, .int .i64 0]) ∧ Below w.heap.size w w' := by
            intro m3 w
            rw [q2.out] at m3
            obtain ⟨p1, p2⟩ := hPell.out m1 m2 m3
            have q3 : mz N (mz Y Y) = N * (Y * Y) := by rw [q2.out]; exact if_pos m3
            rw [q1.out, q3]
            have := subWides (X * X) (N * (Y * Y)) m1 m3 (by omega) p2 w
            rw [show X * X - N * (Y * Y) = 1 by omega] at this
            exact this
          have hE := Lib.hid hE
          clear q1 q2 m1 m2
          refine wp_region_till (fun w' => Blk w' w10.heap.size 32 (wcl false (lb (mz Y Y)))) 10 10 #[false, false, false, false, false, false, false, false, false, false] rfl rfl rfl ?_
          refine wpAnyT_take (i := 0) (v := .int .i64 N) #[true, false, false, false, false, false, false, false, false, false] (by kernel_rfl) 229 rfl rfl (by kernel_rfl) (by kernel_rfl) (by kernel_rfl) (by kernel_rfl) (by kernel_rfl) (fun _ _ _ h => h) (.inl ⟨by kernel_rfl, fun _ _ => rfl⟩) g30 ?_
          try simp only [List.setIfInBounds_toArray, List.set_cons_zero, List.set_cons_succ]
          refine wpAnyT_take (i := 2) #[true, false, true, false, false, false, false, false, false, false] (by kernel_rfl) 231 rfl rfl (by kernel_rfl) (by kernel_rfl) (by kernel_rfl) (by kernel_rfl) (by kernel_rfl) (fun _ _ _ h => h) (yields_row 32 _ rfl rfl (w10.heap.size) rfl 32 _ _ (fun w h => h) Try.underlying32 rfl sz32) g30 ?_
          try simp only [List.setIfInBounds_toArray, List.set_cons_zero, List.set_cons_succ]
          refine wpAnyT_two (i := 1) (j := 7) (by kernel_rfl) ?_ ?_
          · refine wpOp_callT #[true, true, true, false, false, false, false, false, false, false] (by kernel_rfl) 230 rfl rfl (by kernel_rfl) 28 #[.int .i64 N] (by kernel_rfl) (cW _) ?_
            intro x11 hb
            replace dB := below_then dB hb
            replace g28 := g28.later hb
            replace g30 := g30.later hb
            clear hb
            refine ⟨fun _ => g30, ?_⟩
            try simp only [List.setIfInBounds_toArray, List.set_cons_zero, List.set_cons_succ]
            refine wpAnyT_two (i := 3) (j := 7) (by kernel_rfl) ?_ ?_
            · refine wpOp_callT #[true, true, true, true, false, false, false, false, false, false] (by kernel_rfl) 232 rfl rfl (by kernel_rfl) 27 #[wdv false N, wdv false (mz Y Y)] (by kernel_rfl) (cM _) ?_
              intro x12 hb
              replace dB := below_then dB hb
              replace g28 := g28.later hb
              replace g30 := g30.later hb
              clear hb
              refine ⟨fun _ => g30, ?_⟩
              try simp only [List.setIfInBounds_toArray, List.set_cons_zero, List.set_cons_succ]
              refine wpAnyT_take (i := 4) (v := .tuple #[wdv false (mz N (mz Y Y)), .int .i64 (mcd N (mz Y Y))]) #[true, true, true, true, true, false, false, false, false, false] (by kernel_rfl) 228 rfl rfl (by kernel_rfl) (by kernel_rfl) (by kernel_rfl) (by kernel_rfl) (by kernel_rfl) (fun _ _ _ h => h) (.inl ⟨by kernel_rfl, fun _ _ => rfl⟩) g30 ?_
              try simp only [List.setIfInBounds_toArray, List.set_cons_zero, List.set_cons_succ]
              refine wpAnyT_take (i := 5) (v := wdv false (mz N (mz Y Y))) #[true, true, true, true, true, true, false, false, false, false] (by kernel_rfl) 233 rfl rfl (by kernel_rfl) (by kernel_rfl) (by kernel_rfl) (by kernel_rfl) (by kernel_rfl) (fun _ _ _ h => h) (.inl ⟨by kernel_rfl, fun _ _ => rfl⟩) g30 ?_
              try simp only [List.setIfInBounds_toArray, List.set_cons_zero, List.set_cons_succ]
              refine wpAnyT_take (i := 6) (v := .int .i64 (mcd N (mz Y Y))) #[true, true, true, true, true, true, true, false, false, false] (by kernel_rfl) 234 rfl rfl (by kernel_rfl) (by kernel_rfl) (by kernel_rfl) (by kernel_rfl) (by kernel_rfl) (fun _ _ _ h => h) (.inl ⟨by kernel_rfl, fun _ _ => rfl⟩) g30 ?_
              try simp only [List.setIfInBounds_toArray, List.set_cons_zero, List.set_cons_succ]
              refine wpAnyT_only (i := 7) (by kernel_rfl) ?_
              refine wpOp_allocT #[true, true, true, true, true, true, true, true, false, false] (by kernel_rfl) 32 rfl rfl (by kernel_rfl) (.pointer (some ⟨(x12).heap.size, 0, none⟩)) (World.alloc x12 (.cells (wcl false fun _ => 0) 32)) (by kernel_rfl) ⟨fun _ => g30.alloc _, ?_⟩
              have g32 : Blk ((x12).alloc (.cells (wcl false fun _ => 0) 32)) ((x12).heap.size) 32 (wcl false fun _ => 0) := Blk.newAt rfl 32 (wcl false fun _ => 0)
              have y32 : w10.heap.size < (x12).heap.size := g30.lt
              replace g28 := g28.alloc (.cells (wcl false fun _ => 0) 32)
              have y33 : w.heap.size ≤ (x12).heap.size := dB.size
              replace g30 := g30.alloc (.cells (wcl false fun _ => 0) 32)
              replace dB := below_alloc dB (.cells (wcl false fun _ => 0) 32)
              try simp only [List.setIfInBounds_toArray, List.set_cons_zero, List.set_cons_succ]
              refine wpAnyT_store (i := 8) #[true, true, true, true, true, true, true, true, true, false] (by kernel_rfl) rfl (by kernel_rfl) rfl rfl 32 _ _ rfl ((x12).heap.size) (wcl false (lb (mz N (mz Y Y)))) rfl rfl 32 _ g32 sz32 rfl (wcl_all _ _) ⟨fun _ => g30.row_far (by omega) _, ?_⟩
              replace g30 := g30.row_far (k := (x12).heap.size) (by omega) (wcl false (lb (mz N (mz Y Y))))
              replace g28 := g28.row_far (k := (x12).heap.size) (by omega) (wcl false (lb (mz N (mz Y Y))))
              replace g32 := g32.row (wcl false (lb (mz N (mz Y Y))))
              replace dB := below_row (g := (x12).heap.size) dB (by omega) (wcl false (lb (mz N (mz Y Y))))
              refine wpAnyT_take (i := 9) (v := .int .i64 (mcd N (mz Y Y))) #[true, true, true, true, true, true, true, true, true, true] (by kernel_rfl) 33 rfl rfl (by kernel_rfl) (by kernel_rfl) (by kernel_rfl) (by kernel_rfl) (by kernel_rfl) (fun _ _ _ h => h) (.inl ⟨by kernel_rfl, fun _ _ => rfl⟩) g30 ?_
              try simp only [List.setIfInBounds_toArray, List.set_cons_zero, List.set_cons_succ]
              refine wpAnyT_done (by kernel_rfl) ?_ _
              by_cases m3 : N * mz Y Y < pw 6
              case neg =>
                rw [show mcd N (mz Y Y) = 3 from if_neg m3]
                go_wp2
                go_ret
                exact ⟨rfl, dB⟩
              have cS := hE.out m3
              rw [show mcd N (mz Y Y) = 0 from if_pos m3]
              go_wp2_with (first
                | ((with_reducible change wpList _ _ _ (Oper.mk (some 240) (Op.load 32 _) _ _ _ _ :: _) _ _); refine wpList_load_row rfl 32 _ rfl (w9.heap.size) rfl 32 _ _ _ (g28) Try.underlying32 rfl sz32 ?_)
                | ((with_reducible change wpList _ _ _ (Oper.mk (some 241) (Op.load 32 _) _ _ _ _ :: _) _ _); refine wpList_load_row rfl 32 _ rfl ((x12).heap.size) rfl 32 _ _ _ (g32) Try.underlying32 rfl sz32 ?_))
              refine (calls_args (args' := #[wdv false (mz X X), wdv false (mz N (mz Y Y))]) rfl (cS _)).mono ?_
              rintro e wz ⟨rfl, hb⟩
              replace dB := below_then dB hb
              have sz := dB.size
              clear hb cS
              go_wp2_with (first
                | ((with_reducible change wpList _ _ _ (Oper.mk none (Op.store 32 (Operand.tmp 34) _) _ _ _ _ :: _) _ _); refine wpList_store_row rfl 32 _ _ rfl (wz.heap.size) (wcl false (lb 1)) rfl rfl 32 _ (Blk.newAt rfl 32 (wcl false fun _ => 0)) sz32 rfl (wcl_all _ _) ?_))
              try go_frame
              have g34 : Blk ((wz.alloc (.cells (wcl false fun _ => 0) 32)).setRow wz.heap.size (wcl false (lb 1))) wz.heap.size 32 (wcl false (lb 1)) := (Blk.newAt rfl 32 (wcl false fun _ => 0)).row _
              replace dB : Below w.heap.size w ((wz.alloc (.cells (wcl false fun _ => 0) 32)).setRow wz.heap.size (wcl false (lb 1))) := below_row (below_alloc dB _) (by omega) _
              refine wp_region_till (fun w' => Blk w' wz.heap.size 32 (wcl false (lb 1))) 8 8 #[false, false, false, false, false, false, false, false] rfl rfl rfl ?_
              replace g34 := g34.drewN 1
              replace dB := below_drewN dB 1
              refine wpAnyT_take (i := 0) (v := .int .i64 0) #[true, false, false, false, false, false, false, false] (by kernel_rfl) 245 rfl rfl (by kernel_rfl) (by kernel_rfl) (by kernel_rfl) (by kernel_rfl) (by kernel_rfl) (fun _ _ _ h => h) (.inl ⟨by kernel_rfl, fun _ _ => rfl⟩) g34 ?_
              try simp only [List.setIfInBounds_toArray, List.set_cons_zero, List.set_cons_succ]
              refine wpAnyT_take (i := 1) (v := .bool true) #[true, true, false, false, false, false, false, false] (by kernel_rfl) 246 rfl rfl (by kernel_rfl) (by kernel_rfl) (by kernel_rfl) (by kernel_rfl) (by kernel_rfl) (fun _ _ _ h => h) (.inl ⟨by kernel_rfl, by intro w _; go_simp⟩) g34 ?_
              try simp only [List.setIfInBounds_toArray, List.set_cons_zero, List.set_cons_succ]
              refine wpAnyT_take (i := 2) (v := .bool true) #[true, true, true, false, false, false, false, false] (by kernel_rfl) 247 rfl rfl (by kernel_rfl) (by kernel_rfl) (by kernel_rfl) (by kernel_rfl) (by kernel_rfl) (fun _ _ _ h => h) (.inl ⟨by kernel_rfl, fun _ _ => rfl⟩) g34 ?_
              try simp only [List.setIfInBounds_toArray, List.set_cons_zero, List.set_cons_succ]
              refine wpAnyT_take (i := 3) #[true, true, true, true, false, false, false, false] (by kernel_rfl) 248 rfl rfl (by kernel_rfl) (by kernel_rfl) (by kernel_rfl) (by kernel_rfl) (by kernel_rfl) (fun _ _ _ h => h) (yields_rowG 32 _ rfl (by kernel_rfl) (wz.heap.size) rfl 32 _ _ (fun w h => h) Try.underlying32 rfl sz32) g34 ?_
              try simp only [List.setIfInBounds_toArray, List.set_cons_zero, List.set_cons_succ]
              refine wpAnyT_only (i := 4) (by kernel_rfl) ?_
              refine wpOp_callT #[true, true, true, true, true, false, false, false] (by kernel_rfl) 249 rfl rfl (by kernel_rfl) 28 #[.int .i64 1] (by kernel_rfl) (c1 _) ?_
              intro wy hb
              replace dB := below_then dB hb
              replace g34 := g34.later hb
              clear hb
              refine ⟨fun _ => g34, ?_⟩
              try simp only [List.setIfInBounds_toArray, List.set_cons_zero, List.set_cons_succ]
              unfold wdv
              refine wpAnyT_take (i := 5) (v := .bool true) #[true, true, true, true, true, true, false, false] (by kernel_rfl) 250 rfl rfl (by kernel_rfl) (by kernel_rfl) (by kernel_rfl) (by kernel_rfl) (by kernel_rfl) (fun _ _ _ h => h) (.inl ⟨by kernel_rfl, by intro w _; go_simp⟩) g34 ?_
              try simp only [List.setIfInBounds_toArray, List.set_cons_zero, List.set_cons_succ]
              refine wpAnyT_take (i := 6) (v := .bool true) #[true, true, true, true, true, true, true, false] (by kernel_rfl) 251 rfl rfl (by kernel_rfl) (by kernel_rfl) (by kernel_rfl) (by kernel_rfl) (by kernel_rfl) (fun _ _ _ h => h) (.inl ⟨by kernel_rfl, by intro w _; go_simp⟩) g34 ?_
              try simp only [List.setIfInBounds_toArray, List.set_cons_zero, List.set_cons_succ]
              refine wpAnyT_take (i := 7) (v := .bool true) #[true, true, true, true, true, true, true, true] (by kernel_rfl) 2 rfl rfl (by kernel_rfl) (by kernel_rfl) (by kernel_rfl) (by kernel_rfl) (by kernel_rfl) (fun _ _ _ h => h) (.inl ⟨by kernel_rfl, fun _ _ => rfl⟩) g34 ?_
              try simp only [List.setIfInBounds_toArray, List.set_cons_zero, List.set_cons_succ]
              refine wpAnyT_done (by kernel_rfl) ?_ _
              go_wp2
              go_ret
              exact ⟨rfl, dB⟩
            · refine wpOp_allocT #[true, true, true, false, false, false, false, true, false, false] (by kernel_rfl) 32 rfl rfl (by kernel_rfl) (.pointer (some ⟨(x11).heap.size, 0, none⟩)) (World.alloc x11 (.cells (wcl false fun _ => 0) 32)) (by kernel_rfl) ⟨fun _ => g30.alloc _, ?_⟩
              have g32 : Blk ((x11).alloc (.cells (wcl false fun _ => 0) 32)) ((x11).heap.size) 32 (wcl false fun _ => 0) := Blk.newAt rfl 32 (wcl false fun _ => 0)
              have y32 : w10.heap.size < (x11).heap.size := g30.lt
              replace g28 := g28.alloc (.cells (wcl false fun _ => 0) 32)
              have y33 : w.heap.size ≤ (x11).heap.size := dB.size
              replace g30 := g30.alloc (.cells (wcl false fun _ => 0) 32)
              replace dB := below_alloc dB (.cells (wcl false fun _ => 0) 32)
              try simp only [List.setIfInBounds_toArray, List.set_cons_zero, List.set_cons_succ]
              refine wpAnyT_only (i := 3) (by kernel_rfl) ?_
              refine wpOp_callT #[true, true, true, true, false, false, false, true, false, false] (by kernel_rfl) 232 rfl rfl (by kernel_rfl) 27 #[wdv false N, wdv false (mz Y Y)] (by kernel_rfl) (cM _) ?_
              intro x12 hb
              replace dB := below_then dB hb
              replace g28 := g28.later hb
              replace g30 := g30.later hb
              replace g32 := g32.later hb
              clear hb
              refine ⟨fun _ => g30, ?_⟩
              try simp only [List.setIfInBounds_toArray, List.set_cons_zero, List.set_cons_succ]
              refine wpAnyT_take (i := 4) (v := .tuple #[wdv false (mz N (mz Y Y)), .int .i64 (mcd N (mz Y Y))]) #[true, true, true, true, true, false, false, true, false, false] (by kernel_rfl) 228 rfl rfl (by kernel_rfl) (by kernel_rfl) (by kernel_rfl) (by kernel_rfl) (by kernel_rfl) (fun _ _ _ h => h) (.inl ⟨by kernel_rfl, fun _ _ => rfl⟩) g30 ?_
              try simp only [List.setIfInBounds_toArray, List.set_cons_zero, List.set_cons_succ]
              refine wpAnyT_take (i := 5) (v := wdv false (mz N (mz Y Y))) #[true, true, true, true, true, true, false, true, false, false] (by kernel_rfl) 233 rfl rfl (by kernel_rfl) (by kernel_rfl) (by kernel_rfl) (by kernel_rfl) (by kernel_rfl) (fun _ _ _ h => h) (.inl ⟨by kernel_rfl, fun _ _ => rfl⟩) g30 ?_
              try simp only [List.setIfInBounds_toArray, List.set_cons_zero, List.set_cons_succ]
              refine wpAnyT_take (i := 6) (v := .int .i64 (mcd N (mz Y Y))) #[true, true, true, true, true, true, true, true, false, false] (by kernel_rfl) 234 rfl rfl (by kernel_rfl) (by kernel_rfl) (by kernel_rfl) (by kernel_rfl) (by kernel_rfl) (fun _ _ _ h => h) (.inl ⟨by kernel_rfl, fun _ _ => rfl⟩) g30 ?_
              try simp only [List.setIfInBounds_toArray, List.set_cons_zero, List.set_cons_succ]
              refine wpAnyT_store (i := 8) #[true, true, true, true, true, true, true, true, true, false] (by kernel_rfl) rfl (by kernel_rfl) rfl rfl 32 _ _ rfl ((x11).heap.size) (wcl false (lb (mz N (mz Y Y)))) rfl rfl 32 _ g32 sz32 rfl (wcl_all _ _) ⟨fun _ => g30.row_far (by omega) _, ?_⟩
              replace g30 := g30.row_far (k := (x11).heap.size) (by omega) (wcl false (lb (mz N (mz Y Y))))
              replace g28 := g28.row_far (k := (x11).heap.size) (by omega) (wcl false (lb (mz N (mz Y Y))))
              replace g32 := g32.row (wcl false (lb (mz N (mz Y Y))))
              replace dB := below_row (g := (x11).heap.size) dB (by omega) (wcl false (lb (mz N (mz Y Y))))
              refine wpAnyT_take (i := 9) (v := .int .i64 (mcd N (mz Y Y))) #[true, true, true, true, true, true, true, true, true, true] (by kernel_rfl) 33 rfl rfl (by kernel_rfl) (by kernel_rfl) (by kernel_rfl) (by kernel_rfl) (by kernel_rfl) (fun _ _ _ h => h) (.inl ⟨by kernel_rfl, fun _ _ => rfl⟩) g30 ?_
              try simp only [List.setIfInBounds_toArray, List.set_cons_zero, List.set_cons_succ]
              refine wpAnyT_done (by kernel_rfl) ?_ _
              by_cases m3 : N * mz Y Y < pw 6
              case neg =>
                rw [show mcd N (mz Y Y) = 3 from if_neg m3]
                go_wp2
                go_ret
                exact ⟨rfl, dB⟩
              have cS := hE.out m3
              rw [show mcd N (mz Y Y) = 0 from if_pos m3]
              go_wp2_with (first
                | ((with_reducible change wpList _ _ _ (Oper.mk (some 240) (Op.load 32 _) _ _ _ _ :: _) _ _); refine wpList_load_row rfl 32 _ rfl (w9.heap.size) rfl 32 _ _ _ (g28) Try.underlying32 rfl sz32 ?_)
                | ((with_reducible change wpList _ _ _ (Oper.mk (some 241) (Op.load 32 _) _ _ _ _ :: _) _ _); refine wpList_load_row rfl 32 _ rfl ((x11).heap.size) rfl 32 _ _ _ (g32) Try.underlying32 rfl sz32 ?_))
              refine (calls_args (args' := #[wdv false (mz X X), wdv false (mz N (mz Y Y))]) rfl (cS _)).mono ?_
              rintro e wz ⟨rfl, hb⟩
              replace dB := below_then dB hb
              have sz := dB.size
              clear hb cS
              go_wp2_with (first
                | ((with_reducible change wpList _ _ _ (Oper.mk none (Op.store 32 (Operand.tmp 34) _) _ _ _ _ :: _) _ _); refine wpList_store_row rfl 32 _ _ rfl (wz.heap.size) (wcl false (lb 1)) rfl rfl 32 _ (Blk.newAt rfl 32 (wcl false fun _ => 0)) sz32 rfl (wcl_all _ _) ?_))
              try go_frame
              have g34 : Blk ((wz.alloc (.cells (wcl false fun _ => 0) 32)).setRow wz.heap.size (wcl false (lb 1))) wz.heap.size 32 (wcl false (lb 1)) := (Blk.newAt rfl 32 (wcl false fun _ => 0)).row _
              replace dB : Below w.heap.size w ((wz.alloc (.cells (wcl false fun _ => 0) 32)).setRow wz.heap.size (wcl false (lb 1))) := below_row (below_alloc dB _) (by omega) _
              refine wp_region_till (fun w' => Blk w' wz.heap.size 32 (wcl false (lb 1))) 8 8 #[false, false, false, false, false, false, false, false] rfl rfl rfl ?_
              replace g34 := g34.drewN 1
              replace dB := below_drewN dB 1
              refine wpAnyT_take (i := 0) (v := .int .i64 0) #[true, false, false, false, false, false, false, false] (by kernel_rfl) 245 rfl rfl (by kernel_rfl) (by kernel_rfl) (by kernel_rfl) (by kernel_rfl) (by kernel_rfl) (fun _ _ _ h => h) (.inl ⟨by kernel_rfl, fun _ _ => rfl⟩) g34 ?_
              try simp only [List.setIfInBounds_toArray, List.set_cons_zero, List.set_cons_succ]
              refine wpAnyT_take (i := 1) (v := .bool true) #[true, true, false, false, false, false, false, false] (by kernel_rfl) 246 rfl rfl (by kernel_rfl) (by kernel_rfl) (by kernel_rfl) (by kernel_rfl) (by kernel_rfl) (fun _ _ _ h => h) (.inl ⟨by kernel_rfl, by intro w _; go_simp⟩) g34 ?_
              try simp only [List.setIfInBounds_toArray, List.set_cons_zero, List.set_cons_succ]
              refine wpAnyT_take (i := 2) (v := .bool true) #[true, true, true, false, false, false, false, false] (by kernel_rfl) 247 rfl rfl (by kernel_rfl) (by kernel_rfl) (by kernel_rfl) (by kernel_rfl) (by kernel_rfl) (fun _ _ _ h => h) (.inl ⟨by kernel_rfl, fun _ _ => rfl⟩) g34 ?_
              try simp only [List.setIfInBounds_toArray, List.set_cons_zero, List.set_cons_succ]
              refine wpAnyT_take (i := 3) #[true, true, true, true, false, false, false, false] (by kernel_rfl) 248 rfl rfl (by kernel_rfl) (by kernel_rfl) (by kernel_rfl) (by kernel_rfl) (by kernel_rfl) (fun _ _ _ h => h) (yields_rowG 32 _ rfl (by kernel_rfl) (wz.heap.size) rfl 32 _ _ (fun w h => h) Try.underlying32 rfl sz32) g34 ?_
              try simp only [List.setIfInBounds_toArray, List.set_cons_zero, List.set_cons_succ]
              refine wpAnyT_only (i := 4) (by kernel_rfl) ?_
              refine wpOp_callT #[true, true, true, true, true, false, false, false] (by kernel_rfl) 249 rfl rfl (by kernel_rfl) 28 #[.int .i64 1] (by kernel_rfl) (c1 _) ?_
              intro wy hb
              replace dB := below_then dB hb
              replace g34 := g34.later hb
              clear hb
              refine ⟨fun _ => g34, ?_⟩
              try simp only [List.setIfInBounds_toArray, List.set_cons_zero, List.set_cons_succ]
              unfold wdv
              refine wpAnyT_take (i := 5) (v := .bool true) #[true, true, true, true, true, true, false, false] (by kernel_rfl) 250 rfl rfl (by kernel_rfl) (by kernel_rfl) (by kernel_rfl) (by kernel_rfl) (by kernel_rfl) (fun _ _ _ h => h) (.inl ⟨by kernel_rfl, by intro w _; go_simp⟩) g34 ?_
              try simp only [List.setIfInBounds_toArray, List.set_cons_zero, List.set_cons_succ]
              refine wpAnyT_take (i := 6) (v := .bool true) #[true, true, true, true, true, true, true, false] (by kernel_rfl) 251 rfl rfl (by kernel_rfl) (by kernel_rfl) (by kernel_rfl) (by kernel_rfl) (by kernel_rfl) (fun _ _ _ h => h) (.inl ⟨by kernel_rfl, by intro w _; go_simp⟩) g34 ?_
              try simp only [List.setIfInBounds_toArray, List.set_cons_zero, List.set_cons_succ]
              refine wpAnyT_take (i := 7) (v := .bool true) #[true, true, true, true, true, true, true, true] (by kernel_rfl) 2 rfl rfl (by kernel_rfl) (by kernel_rfl) (by kernel_rfl) (by kernel_rfl) (by kernel_rfl) (fun _ _ _ h => h) (.inl ⟨by kernel_rfl, fun _ _ => rfl⟩) g34 ?_
              try simp only [List.setIfInBounds_toArray, List.set_cons_zero, List.set_cons_succ]
              refine wpAnyT_done (by kernel_rfl) ?_ _
              go_wp2
              go_ret
              exact ⟨rfl, dB⟩
          · refine wpOp_allocT #[true, false, true, false, false, false, false, true, false, false] (by kernel_rfl) 32 rfl rfl (by kernel_rfl) (.pointer (some ⟨w11.heap.size, 0, none⟩)) (World.alloc (w11.drewN 1) (.cells (wcl false fun _ => 0) 32)) (by kernel_rfl) ⟨fun _ => g30.alloc _, ?_⟩
            have g32 : Blk (((w11.drewN 1)).alloc (.cells (wcl false fun _ => 0) 32)) (w11.heap.size) 32 (wcl false fun _ => 0) := Blk.newAt rfl 32 (wcl false fun _ => 0)
            have y32 : w10.heap.size < w11.heap.size := g30.lt
            replace g28 := g28.alloc (.cells (wcl false fun _ => 0) 32)
            have y33 : w.heap.size ≤ w11.heap.size := dB.size
            replace g30 := g30.alloc (.cells (wcl false fun _ => 0) 32)
            replace dB := below_alloc dB (.cells (wcl false fun _ => 0) 32)
            try simp only [List.setIfInBounds_toArray, List.set_cons_zero, List.set_cons_succ]
            refine wpAnyT_only (i := 1) (by kernel_rfl) ?_
            refine wpOp_callT #[true, true, true, false, false, false, false, true, false, false] (by kernel_rfl) 230 rfl rfl (by kernel_rfl) 28 #[.int .i64 N] (by kernel_rfl) (cW _) ?_
            intro x11 hb
            replace dB := below_then dB hb
            replace g28 := g28.later hb
            replace g30 := g30.later hb
            replace g32 := g32.later hb
            clear hb
            refine ⟨fun _ => g30, ?_⟩
            try simp only [List.setIfInBounds_toArray, List.set_cons_zero, List.set_cons_succ]
            refine wpAnyT_only (i := 3) (by kernel_rfl) ?_
            refine wpOp_callT #[true, true, true, true, false, false, false, true, false, false] (by kernel_rfl) 232 rfl rfl (by kernel_rfl) 27 #[wdv false N, wdv false (mz Y Y)] (by kernel_rfl) (cM _) ?_
            intro x12 hb
            replace dB := below_then dB hb
            replace g28 := g28.later hb
            replace g30 := g30.later hb
            replace g32 := g32.later hb
            clear hb
            refine ⟨fun _ => g30, ?_⟩
            try simp only [List.setIfInBounds_toArray, List.set_cons_zero, List.set_cons_succ]
            refine wpAnyT_take (i := 4) (v := .tuple #[wdv false (mz N (mz Y Y)), .int .i64 (mcd N (mz Y Y))]) #[true, true, true, true, true, false, false, true, false, false] (by kernel_rfl) 228 rfl rfl (by kernel_rfl) (by kernel_rfl) (by kernel_rfl) (by kernel_rfl) (by kernel_rfl) (fun _ _ _ h => h) (.inl ⟨by kernel_rfl, fun _ _ => rfl⟩) g30 ?_
            try simp only [List.setIfInBounds_toArray, List.set_cons_zero, List.set_cons_succ]
            refine wpAnyT_take (i := 5) (v := wdv false (mz N (mz Y Y))) #[true, true, true, true, true, true, false, true, false, false] (by kernel_rfl) 233 rfl rfl (by kernel_rfl) (by kernel_rfl) (by kernel_rfl) (by kernel_rfl) (by kernel_rfl) (fun _ _ _ h => h) (.inl ⟨by kernel_rfl, fun _ _ => rfl⟩) g30 ?_
            try simp only [List.setIfInBounds_toArray, List.set_cons_zero, List.set_cons_succ]
            refine wpAnyT_take (i := 6) (v := .int .i64 (mcd N (mz Y Y))) #[true, true, true, true, true, true, true, true, false, false] (by kernel_rfl) 234 rfl rfl (by kernel_rfl) (by kernel_rfl) (by kernel_rfl) (by kernel_rfl) (by kernel_rfl) (fun _ _ _ h => h) (.inl ⟨by kernel_rfl, fun _ _ => rfl⟩) g30 ?_
            try simp only [List.setIfInBounds_toArray, List.set_cons_zero, List.set_cons_succ]
            refine wpAnyT_store (i := 8) #[true, true, true, true, true, true, true, true, true, false] (by kernel_rfl) rfl (by kernel_rfl) rfl rfl 32 _ _ rfl (w11.heap.size) (wcl false (lb (mz N (mz Y Y)))) rfl rfl 32 _ g32 sz32 rfl (wcl_all _ _) ⟨fun _ => g30.row_far (by omega) _, ?_⟩
            replace g30 := g30.row_far (k := w11.heap.size) (by omega) (wcl false (lb (mz N (mz Y Y))))
            replace g28 := g28.row_far (k := w11.heap.size) (by omega) (wcl false (lb (mz N (mz Y Y))))
            replace g32 := g32.row (wcl false (lb (mz N (mz Y Y))))
            replace dB := below_row (g := w11.heap.size) dB (by omega) (wcl false (lb (mz N (mz Y Y))))
            refine wpAnyT_take (i := 9) (v := .int .i64 (mcd N (mz Y Y))) #[true, true, true, true, true, true, true, true, true, true] (by kernel_rfl) 33 rfl rfl (by kernel_rfl) (by kernel_rfl) (by kernel_rfl) (by kernel_rfl) (by kernel_rfl) (fun _ _ _ h => h) (.inl ⟨by kernel_rfl, fun _ _ => rfl⟩) g30 ?_
            try simp only [List.setIfInBounds_toArray, List.set_cons_zero, List.set_cons_succ]
            refine wpAnyT_done (by kernel_rfl) ?_ _
            by_cases m3 : N * mz Y Y < pw 6
            case neg =>
              rw [show mcd N (mz Y Y) = 3 from if_neg m3]
              go_wp2
              go_ret
              exact ⟨rfl, dB⟩
            have cS := hE.out m3
            rw [show mcd N (mz Y Y) = 0 from if_pos m3]
            go_wp2_with (first
              | ((with_reducible change wpList _ _ _ (Oper.mk (some 240) (Op.load 32 _) _ _ _ _ :: _) _ _); refine wpList_load_row rfl 32 _ rfl (w9.heap.size) rfl 32 _ _ _ (g28) Try.underlying32 rfl sz32 ?_)
              | ((with_reducible change wpList _ _ _ (Oper.mk (some 241) (Op.load 32 _) _ _ _ _ :: _) _ _); refine wpList_load_row rfl 32 _ rfl (w11.heap.size) rfl 32 _ _ _ (g32) Try.underlying32 rfl sz32 ?_))
            refine (calls_args (args' := #[wdv false (mz X X), wdv false (mz N (mz Y Y))]) rfl (cS _)).mono ?_
            rintro e wz ⟨rfl, hb⟩
            replace dB := below_then dB hb
            have sz := dB.size
            clear hb cS
            go_wp2_with (first
              | ((with_reducible change wpList _ _ _ (Oper.mk none (Op.store 32 (Operand.tmp 34) _) _ _ _ _ :: _) _ _); refine wpList_store_row rfl 32 _ _ rfl (wz.heap.size) (wcl false (lb 1)) rfl rfl 32 _ (Blk.newAt rfl 32 (wcl false fun _ => 0)) sz32 rfl (wcl_all _ _) ?_))
            try go_frame
            have g34 : Blk ((wz.alloc (.cells (wcl false fun _ => 0) 32)).setRow wz.heap.size (wcl false (lb 1))) wz.heap.size 32 (wcl false (lb 1)) := (Blk.newAt rfl 32 (wcl false fun _ => 0)).row _
            replace dB : Below w.heap.size w ((wz.alloc (.cells (wcl false fun _ => 0) 32)).setRow wz.heap.size (wcl false (lb 1))) := below_row (below_alloc dB _) (by omega) _
            refine wp_region_till (fun w' => Blk w' wz.heap.size 32 (wcl false (lb 1))) 8 8 #[false, false, false, false, false, false, false, false] rfl rfl rfl ?_
            replace g34 := g34.drewN 1
            replace dB := below_drewN dB 1
            refine wpAnyT_take (i := 0) (v := .int .i64 0) #[true, false, false, false, false, false, false, false] (by kernel_rfl) 245 rfl rfl (by kernel_rfl) (by kernel_rfl) (by kernel_rfl) (by kernel_rfl) (by kernel_rfl) (fun _ _ _ h => h) (.inl ⟨by kernel_rfl, fun _ _ => rfl⟩) g34 ?_
            try simp only [List.setIfInBounds_toArray, List.set_cons_zero, List.set_cons_succ]
            refine wpAnyT_take (i := 1) (v := .bool true) #[true, true, false, false, false, false, false, false] (by kernel_rfl) 246 rfl rfl (by kernel_rfl) (by kernel_rfl) (by kernel_rfl) (by kernel_rfl) (by kernel_rfl) (fun _ _ _ h => h) (.inl ⟨by kernel_rfl, by intro w _; go_simp⟩) g34 ?_
            try simp only [List.setIfInBounds_toArray, List.set_cons_zero, List.set_cons_succ]
            refine wpAnyT_take (i := 2) (v := .bool true) #[true, true, true, false, false, false, false, false] (by kernel_rfl) 247 rfl rfl (by kernel_rfl) (by kernel_rfl) (by kernel_rfl) (by kernel_rfl) (by kernel_rfl) (fun _ _ _ h => h) (.inl ⟨by kernel_rfl, fun _ _ => rfl⟩) g34 ?_
            try simp only [List.setIfInBounds_toArray, List.set_cons_zero, List.set_cons_succ]
            refine wpAnyT_take (i := 3) #[true, true, true, true, false, false, false, false] (by kernel_rfl) 248 rfl rfl (by kernel_rfl) (by kernel_rfl) (by kernel_rfl) (by kernel_rfl) (by kernel_rfl) (fun _ _ _ h => h) (yields_rowG 32 _ rfl (by kernel_rfl) (wz.heap.size) rfl 32 _ _ (fun w h => h) Try.underlying32 rfl sz32) g34 ?_
            try simp only [List.setIfInBounds_toArray, List.set_cons_zero, List.set_cons_succ]
            refine wpAnyT_only (i := 4) (by kernel_rfl) ?_
            refine wpOp_callT #[true, true, true, true, true, false, false, false] (by kernel_rfl) 249 rfl rfl (by kernel_rfl) 28 #[.int .i64 1] (by kernel_rfl) (c1 _) ?_
            intro wy hb
            replace dB := below_then dB hb
            replace g34 := g34.later hb
            clear hb
            refine ⟨fun _ => g34, ?_⟩
            try simp only [List.setIfInBounds_toArray, List.set_cons_zero, List.set_cons_succ]
            unfold wdv
            refine wpAnyT_take (i := 5) (v := .bool true) #[true, true, true, true, true, true, false, false] (by kernel_rfl) 250 rfl rfl (by kernel_rfl) (by kernel_rfl) (by kernel_rfl) (by kernel_rfl) (by kernel_rfl) (fun _ _ _ h => h) (.inl ⟨by kernel_rfl, by intro w _; go_simp⟩) g34 ?_
            try simp only [List.setIfInBounds_toArray, List.set_cons_zero, List.set_cons_succ]
            refine wpAnyT_take (i := 6) (v := .bool true) #[true, true, true, true, true, true, true, false] (by kernel_rfl) 251 rfl rfl (by kernel_rfl) (by kernel_rfl) (by kernel_rfl) (by kernel_rfl) (by kernel_rfl) (fun _ _ _ h => h) (.inl ⟨by kernel_rfl, by intro w _; go_simp⟩) g34 ?_
            try simp only [List.setIfInBounds_toArray, List.set_cons_zero, List.set_cons_succ]
            refine wpAnyT_take (i := 7) (v := .bool true) #[true, true, true, true, true, true, true, true] (by kernel_rfl) 2 rfl rfl (by kernel_rfl) (by kernel_rfl) (by kernel_rfl) (by kernel_rfl) (by kernel_rfl) (fun _ _ _ h => h) (.inl ⟨by kernel_rfl, fun _ _ => rfl⟩) g34 ?_
            try simp only [List.setIfInBounds_toArray, List.set_cons_zero, List.set_cons_succ]
            refine wpAnyT_done (by kernel_rfl) ?_ _
            go_wp2
            go_ret
            exact ⟨rfl, dB⟩
end Go.Proofs.Ytjgikfejfglllaa
