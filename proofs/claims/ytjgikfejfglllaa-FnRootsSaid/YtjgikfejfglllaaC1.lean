/- The convergents of roots, as the program makes them. -/
import Derived.Test.YtjgikfejfglllaaCn
import Derived.Test.YtjgikfejfglllaaHt
import Derived.Deep.RegionWith
import Derived.Maps.RangeWalk
set_option linter.unusedVariables false
set_option linter.unusedSimpArgs false
namespace Go.Proofs.Ytjgikfejfglllaa
open Go.RowKit


def mz (a b : Nat) : Nat := if a * b < pw 6 then a * b else 0
def az (a b : Nat) : Nat := (a + b) % pw 6
def mo (a b : Nat) : Bool := decide (¬ a * b < pw 6)
def ao (a b : Nat) : Bool := decide (¬ a + b < pw 6)
theorem mz_lt (a b : Nat) : mz a b < pw 6 := by
  unfold mz
  split
  · assumption
  · exact pw_pos 6
theorem az_lt (a b : Nat) : az a b < pw 6 := Nat.mod_lt _ (pw_pos 6)
theorem addZ (g : Nat) (ov : Bool) (M N : Nat) (hM : M < pw 6) (hN : N < pw 6) (w : World) (hG : Blk w g 98 #[.bool ov]) :
    Calls Try.prog 113 #[.pointer (some ⟨g, 0, none⟩), wdv false M, wdv false N] w fun e w' => e = .returned (wdv false (az M N)) ∧ Chg w w' g ∧ Blk w' g 98 #[.bool (ov || ao M N)] := addN g 98 #[.bool ov] ov M N hM hN w hG rfl
theorem mulZ (g : Nat) (ov : Bool) (M N : Nat) (hM : M < pw 6) (hN : N < pw 6) (w : World) (hG : Blk w g 98 #[.bool ov]) :
    Calls Try.prog 114 #[.pointer (some ⟨g, 0, none⟩), wdv false M, wdv false N] w fun e w' => e = .returned (wdv false (mz M N)) ∧ Chg w w' g ∧ Blk w' g 98 #[.bool (ov || mo M N)] := mulN g 98 #[.bool ov] ov M N hM hN w hG rfl
def cover (a p q p0 q0 : Nat) : Bool := (((false || mo a p) || ao (mz a p) p0) || mo a q) || ao (mz a q) q0
theorem step_ok {a p q p0 q0 : Nat} (h : cfit a p q p0 q0 = true) : az (mz a p) p0 = a * p + p0 ∧ az (mz a q) q0 = a * q + q0 ∧ cover a p q p0 q0 = false := by
  simp only [cfit, Bool.and_eq_true, decide_eq_true_eq] at h
  obtain ⟨⟨⟨h1, h2⟩, h3⟩, h4⟩ := h
  have e1 : mz a p = a * p := if_pos h1
  have e2 : mz a q = a * q := if_pos h2
  refine ⟨?_, ?_, ?_⟩
  · rw [e1]; exact Nat.mod_eq_of_lt h3
  · rw [e2]; exact Nat.mod_eq_of_lt h4
  · unfold cover
    rw [e1, e2]
    simp [mo, ao, h1, h2, h3, h4]
theorem step_bad {a p q p0 q0 : Nat} (h : cfit a p q p0 q0 = false) : cover a p q p0 q0 = true := by
  by_cases h1 : a * p < pw 6
  · have e1 : mz a p = a * p := if_pos h1
    by_cases h2 : a * q < pw 6
    · have e2 : mz a q = a * q := if_pos h2
      unfold cover
      rw [e1, e2]
      by_cases h3 : a * p + p0 < pw 6
      · by_cases h4 : a * q + q0 < pw 6
        · simp [cfit, h1, h2, h3, h4] at h
        · simp [ao, h4]
      · simp [ao, h3]
    · simp [cover, mo, h2]
  · simp [cover, mo, h1]
theorem crun_step (f : Nat) (l : List Nat) (n i p q p0 q0 : Nat) : crun f l (n + 1) i p q p0 q0 = if cover (rterm f l i) p q p0 q0 then none else crun f l n (i + 1) (az (mz (rterm f l i) p) p0) (az (mz (rterm f l i) q) q0) p q := by
  rw [crun]
  by_cases h : cfit (rterm f l i) p q p0 q0 = true
  · obtain ⟨e1, e2, e3⟩ := step_ok h
    rw [if_pos h, e1, e2, e3]
    rfl
  · rw [if_neg h, step_bad (by simpa using h)]
    rfl
theorem below_chg {w w1 w2 : World} {B g : Nat} (h : Below B w w1) (hc : Chg w1 w2 g) (hg : B ≤ g) (hB : B ≤ w1.heap.size) : Below B w w2 :=
  ⟨hc.os.trans h.os, hc.tape.trans h.tape, hc.output.trans h.output, Nat.le_trans h.size hc.size, fun k hk => by
    rw [hc.block k (by omega) (by omega)]; exact h.block k hk⟩
theorem wide1 (w : World) : Calls Try.prog 112 #[.int .i64 1] w fun e w' => e = .returned (wdv false 1) ∧ Below w.heap.size w w' := wideN 1 (by decide) w

set_option maxHeartbeats 1000000 in
theorem rootConv_any (f : Nat) (v : Value) (l : List Nat) (k : Nat) (hk : k ≤ 1000000) (hf : f ≤ 2000) (hle : ∀ x ∈ l, x ≤ 2000) (hl : 0 < k → l ≠ []) (hl2 : l.length ≤ 3000) (w : World) (hv : Rd w v l) :
    Calls Try.prog 60 #[.int .i64 f, v, .int .i64 k] w fun e w' => e = .returned (cvalue (crun f l (k + 1) 0 1 0 0 1)) ∧ Below w.heap.size w w' := by
  obtain ⟨R, hR⟩ : ∃ R, R = crun f l (k + 1) 0 1 0 0 1 := ⟨_, rfl⟩
  rw [← hR]
  have HR := Lib.hid hR
  clear hR
  go_enter Try.func60, Try.ntmps60
  go_wp2_with fail
  refine (wide1 _).mono ?_
  rintro e w1 ⟨rfl, hb1⟩
  have h6 : Blk w1 w.heap.size 32 (wcl false fun _ => 0) := (((Blk.newAt (by simp) 32 (wcl false fun _ => 0)).alloc _).alloc _).later hb1
  have h7 : Blk w1 (w.heap.size + 1) 32 (wcl false fun _ => 0) := ((Blk.newAt (by simp) 32 (wcl false fun _ => 0)).alloc _).later hb1
  have h9 : Blk w1 (w.heap.size + 1 + 1) 98 #[.bool false] := (Blk.newAt (by simp) 98 #[.bool false]).later hb1
  have hB1 := below_then (below_alloc (below_alloc (below_alloc (Below.refl w.heap.size w) _) _) _) hb1
  clear hb1
  go_wp2_with fail
  refine (wide1 _).mono ?_
  rintro e w2 ⟨rfl, hb2⟩
  replace h6 := h6.later hb2
  replace h7 := h7.later hb2
  replace h9 := h9.later hb2
  have hB2 := below_then hB1 hb2
  clear hb2 hB1
  have z6 := h6.lt
  have z7 := h7.lt
  have z9 := h9.lt
  have b0 : Blk ((((w2.alloc (.cells (wcl false fun _ => 0) 32)).alloc (.cells (wcl false fun _ => 0) 32)).alloc (.cells (wcl false fun _ => 0) 32)).alloc (.cells (wcl false fun _ => 0) 32)) w2.heap.size 32 (wcl false fun _ => 0) := (((Blk.newAt (by simp) 32 (wcl false fun _ => 0)).alloc _).alloc _).alloc _
  have b1 : Blk ((((w2.alloc (.cells (wcl false fun _ => 0) 32)).alloc (.cells (wcl false fun _ => 0) 32)).alloc (.cells (wcl false fun _ => 0) 32)).alloc (.cells (wcl false fun _ => 0) 32)) (w2.heap.size + 1) 32 (wcl false fun _ => 0) := ((Blk.newAt (by simp) 32 (wcl false fun _ => 0)).alloc _).alloc _
  have b2 : Blk ((((w2.alloc (.cells (wcl false fun _ => 0) 32)).alloc (.cells (wcl false fun _ => 0) 32)).alloc (.cells (wcl false fun _ => 0) 32)).alloc (.cells (wcl false fun _ => 0) 32)) (w2.heap.size + 1 + 1) 32 (wcl false fun _ => 0) := (Blk.newAt (by simp) 32 (wcl false fun _ => 0)).alloc _
  have b3 : Blk ((((w2.alloc (.cells (wcl false fun _ => 0) 32)).alloc (.cells (wcl false fun _ => 0) 32)).alloc (.cells (wcl false fun _ => 0) 32)).alloc (.cells (wcl false fun _ => 0) 32)) (w2.heap.size + 1 + 1 + 1) 32 (wcl false fun _ => 0) := Blk.newAt (by simp) 32 (wcl false fun _ => 0)
  replace h6 : Blk ((((w2.alloc (.cells (wcl false fun _ => 0) 32)).alloc (.cells (wcl false fun _ => 0) 32)).alloc (.cells (wcl false fun _ => 0) 32)).alloc (.cells (wcl false fun _ => 0) 32)) w.heap.size 32 (wcl false fun _ => 0) := (((h6.alloc _).alloc _).alloc _).alloc _
  replace h7 : Blk ((((w2.alloc (.cells (wcl false fun _ => 0) 32)).alloc (.cells (wcl false fun _ => 0) 32)).alloc (.cells (wcl false fun _ => 0) 32)).alloc (.cells (wcl false fun _ => 0) 32)) (w.heap.size + 1) 32 (wcl false fun _ => 0) := (((h7.alloc _).alloc _).alloc _).alloc _
  replace h9 : Blk ((((w2.alloc (.cells (wcl false fun _ => 0) 32)).alloc (.cells (wcl false fun _ => 0) 32)).alloc (.cells (wcl false fun _ => 0) 32)).alloc (.cells (wcl false fun _ => 0) 32)) (w.heap.size + 1 + 1) 98 #[.bool false] := (((h9.alloc _).alloc _).alloc _).alloc _
  replace hB2 : Below w.heap.size w ((((w2.alloc (.cells (wcl false fun _ => 0) 32)).alloc (.cells (wcl false fun _ => 0) 32)).alloc (.cells (wcl false fun _ => 0) 32)).alloc (.cells (wcl false fun _ => 0) 32)) := below_alloc (below_alloc (below_alloc (below_alloc hB2 _) _) _) _
  obtain ⟨g, hg⟩ : ∃ g, g = w2.heap.size := ⟨_, rfl⟩
  have hg2 : w.heap.size + 1 + 1 < g := by omega
  go_wp2_with (first
    | ((with_reducible change wpList _ _ _ (Oper.mk none (Op.store 32 (Operand.tmp 10) _) _ _ _ _ :: _) _ _); refine wpList_store_row rfl 32 _ _ rfl (w2.heap.size) (wcl false (lb 1)) rfl rfl 32 _ (b0) sz32 rfl (wcl_all _ _) ?_)
    | ((with_reducible change wpList _ _ _ (Oper.mk none (Op.store 32 (Operand.tmp 11) _) _ _ _ _ :: _) _ _); refine wpList_store_row rfl 32 _ _ rfl (w2.heap.size + 1) (wcl false fun _ => 0) rfl rfl 32 _ (b1.row_far (by omega) _) sz32 rfl (wcl_all _ _) ?_)
    | ((with_reducible change wpList _ _ _ (Oper.mk none (Op.store 32 (Operand.tmp 12) _) _ _ _ _ :: _) _ _); refine wpList_store_row rfl 32 _ _ rfl (w2.heap.size + 1 + 1) (wcl false fun _ => 0) rfl rfl 32 _ ((b2.row_far (by omega) _).row_far (by omega) _) sz32 rfl (wcl_all _ _) ?_)
    | ((with_reducible change wpList _ _ _ (Oper.mk none (Op.store 32 (Operand.tmp 13) _) _ _ _ _ :: _) _ _); refine wpList_store_row rfl 32 _ _ rfl (w2.heap.size + 1 + 1 + 1) (wcl false (lb 1)) rfl rfl 32 _ (((b3.row_far (by omega) _).row_far (by omega) _).row_far (by omega) _) sz32 rfl (wcl_all _ _) ?_))
  have E0 : lb 0 = fun _ => 0 := funext fun k => lb_zero k
  have P1 : 1 < pw 6 := by decide
  have P0 : 0 < pw 6 := by decide
  go_loopw [14] (fun i wr => ∃ (j p q p0 q0 : Nat) (ov : Bool), i = .int .i64 j ∧ j ≤ k + 1 ∧ (p < pw 6 ∧ q < pw 6 ∧ p0 < pw 6 ∧ q0 < pw 6) ∧ (ov = false → crun f l (k + 1 - j) j p q p0 q0 = R) ∧ (ov = true → R = none) ∧ Blk wr w.heap.size 32 (wcl false fun _ => 0) ∧ Blk wr (w.heap.size + 1) 32 (wcl false fun _ => 0) ∧ Blk wr (w.heap.size + 1 + 1) 98 #[.bool ov] ∧ Blk wr w2.heap.size 32 (wcl false (lb p)) ∧ Blk wr (w2.heap.size + 1) 32 (wcl false (lb q)) ∧ Blk wr (w2.heap.size + 1 + 1) 32 (wcl false (lb p0)) ∧ Blk wr (w2.heap.size + 1 + 1 + 1) 32 (wcl false (lb q0)) ∧ Below w.heap.size w wr)
    (fun i _ => k + 1 - (intOf i).toNat)
  case atStart =>
    refine ⟨0, 1, 0, 0, 1, false, rfl, by omega, ⟨P1, P0, P0, P1⟩, fun _ => HR.out.symm, (fun h => nomatch h), ((((h6).row_far (by omega) _).row_far (by omega) _).row_far (by omega) _).row_far (by omega) _, ((((h7).row_far (by omega) _).row_far (by omega) _).row_far (by omega) _).row_far (by omega) _, ((((h9).row_far (by omega) _).row_far (by omega) _).row_far (by omega) _).row_far (by omega) _, (((b0.row _).row_far (by omega) _).row_far (by omega) _).row_far (by omega) _, ?_, ?_, ((((b3).row_far (by omega) _).row_far (by omega) _).row_far (by omega) _).row _, below_row (below_row (below_row (below_row hB2 (by omega) _) (by omega) _) (by omega) _) (by omega) _⟩
    · rw [E0]; exact (((b1.row_far (by omega) _).row _).row_far (by omega) _).row_far (by omega) _
    · rw [E0]; exact ((((b2).row_far (by omega) _).row_far (by omega) _).row _).row_far (by omega) _
  case round =>
    obtain ⟨j, p, q, p0, q0, ov, rfl, hj, ⟨lp, lq, lp0, lq0⟩, hf0, hf1, d6, d7, d9, d10, d11, d12, d13, dB⟩ := hrel
    clear h6 h7 h9 hB2 b0 b1 b2 b3
    have hR1 := hf1
    clear hf1
    have c9 := d9.cell 0
    have y6 := d6.lt
    have y7 := d7.lt
    have y9 := d9.lt
    have y10 := d10.lt
    have y11 := d11.lt
    have y12 := d12.lt
    have y13 := d13.lt
    have HV := Lib.hid (hv.later dB)
    have HLE := Lib.hid hle
    cases ov
    case true =>
      have HR1 := Lib.hid (hR1 rfl)
      clear hR1 hf0
      by_cases hjk : j ≤ k
      all_goals
        go_wp2_with (first
          | ((with_reducible change wpList _ _ _ (Oper.mk none (Op.store 32 (Operand.tmp 6) _) _ _ _ _ :: _) _ _); refine wpList_store_row rfl 32 _ _ rfl (w.heap.size) (wcl false fun _ => 0) rfl rfl 32 _ (d6) sz32 rfl (wcl_all _ _) ?_)
          | ((with_reducible change wpList _ _ _ (Oper.mk none (Op.store 32 (Operand.tmp 7) _) _ _ _ _ :: _) _ _); refine wpList_store_row rfl 32 _ _ rfl (w.heap.size + 1) (wcl false fun _ => 0) rfl rfl 32 _ (d7.row_far (by omega) _) sz32 rfl (wcl_all _ _) ?_))
        refine bodyPost_ret (v := cvalue R) ((res_row_row_tmp Try.results60 rfl ((d6.row (wcl false fun _ => 0)).row_far (by omega) _) rfl ((d7.row_far (by omega) (wcl false fun _ => 0)).row (wcl false fun _ => 0)) Try.underlying32 rfl sz32 Try.underlying32 rfl sz32).trans ?_) rfl ⟨rfl, below_row (below_row dB (by omega) _) (by omega) _⟩
        rw [HR1.out]; simp [cvalue, wdv, E0]
    case false =>
      have HR0 := Lib.hid (hf0 rfl)
      clear hR1 hf0
      by_cases hjk : j ≤ k
      · have hT := rootTerm_any f v l j (by omega) (fun h => hl (by omega)) hl2 wr HV.out
        have hA := rterm_le (f := f) (l := l) (B := 2000) hf HLE.out j
        have hs := crun_step f l (k - j) j p q p0 q0
        have hs0 := HR0.out
        rw [show k + 1 - j = k - j + 1 by omega, hs] at hs0
        obtain ⟨A, hAe⟩ : ∃ A, A = rterm f l j := ⟨_, rfl⟩
        rw [← hAe] at hT hA hs0
        have HS := Lib.hid hs0
        clear hAe hs hs0
        have hAp : A < pw 6 := Nat.lt_of_le_of_lt hA (by decide)
        go_wp2_with (first
        | (go_at_call 67; refine hT.mono ?_; rintro e w' ⟨rfl, rfl⟩)
        | (go_at_call 112; refine (wideN A (by omega) _).mono ?_; rintro e w3 ⟨rfl, hb3⟩; have s3 := hb3.size)
            | ((with_reducible change wpList _ _ _ (Oper.mk none (Op.store 32 (Operand.tmp 15) _) _ _ _ _ :: _) _ _); refine wpList_store_row rfl 32 _ _ rfl (w3.heap.size) (wcl false (lb A)) rfl rfl 32 _ (Blk.newAt (by simp) 32 (wcl false fun _ => 0)) sz32 rfl (wcl_all _ _) ?_))
        go_frame
        have e6 : Blk (((w3.alloc (.cells (wcl false fun _ => 0) 32)).setRow w3.heap.size (wcl false (lb A))).drewN 1) w.heap.size 32 (wcl false fun _ => 0) := (((d6.later hb3).alloc _).row_far (by omega) _).drewN _
        have e7 : Blk (((w3.alloc (.cells (wcl false fun _ => 0) 32)).setRow w3.heap.size (wcl false (lb A))).drewN 1) (w.heap.size + 1) 32 (wcl false fun _ => 0) := (((d7.later hb3).alloc _).row_far (by omega) _).drewN _
        have e9 : Blk (((w3.alloc (.cells (wcl false fun _ => 0) 32)).setRow w3.heap.size (wcl false (lb A))).drewN 1) (w.heap.size + 1 + 1) 98 #[.bool false] := (((d9.later hb3).alloc _).row_far (by omega) _).drewN _
        have e10 : Blk (((w3.alloc (.cells (wcl false fun _ => 0) 32)).setRow w3.heap.size (wcl false (lb A))).drewN 1) w2.heap.size 32 (wcl false (lb p)) := (((d10.later hb3).alloc _).row_far (by omega) _).drewN _
        have e11 : Blk (((w3.alloc (.cells (wcl false fun _ => 0) 32)).setRow w3.heap.size (wcl false (lb A))).drewN 1) (w2.heap.size + 1) 32 (wcl false (lb q)) := (((d11.later hb3).alloc _).row_far (by omega) _).drewN _
        have e12 : Blk (((w3.alloc (.cells (wcl false fun _ => 0) 32)).setRow w3.heap.size (wcl false (lb A))).drewN 1) (w2.heap.size + 1 + 1) 32 (wcl false (lb p0)) := (((d12.later hb3).alloc _).row_far (by omega) _).drewN _
        have e13 : Blk (((w3.alloc (.cells (wcl false fun _ => 0) 32)).setRow w3.heap.size (wcl false (lb A))).drewN 1) (w2.heap.size + 1 + 1 + 1) 32 (wcl false (lb q0)) := (((d13.later hb3).alloc _).row_far (by omega) _).drewN _
        have e15 : Blk (((w3.alloc (.cells (wcl false fun _ => 0) 32)).setRow w3.heap.size (wcl false (lb A))).drewN 1) w3.heap.size 32 (wcl false (lb A)) := ((Blk.newAt rfl 32 (wcl false fun _ => 0)).row _).drewN _
        have eB : Below w.heap.size w (((w3.alloc (.cells (wcl false fun _ => 0) 32)).setRow w3.heap.size (wcl false (lb A))).drewN 1) := below_drewN (below_row (below_alloc (below_then dB hb3) _) (by omega) _) _
        refine wp_region_till (fun w' => Blk w' w3.heap.size 32 (wcl false (lb A)) ∧ Blk w' w2.heap.size 32 (wcl false (lb p)) ∧ Blk w' (w2.heap.size + 1) 32 (wcl false (lb q)) ∧ Blk w' (w2.heap.size + 1 + 1) 32 (wcl false (lb p0)) ∧ Blk w' (w2.heap.size + 1 + 1 + 1) 32 (wcl false (lb q0))) 12 16 #[false, false, false, false, false, false, false, false, false, false, false, false, false, false, false, false] rfl rfl rfl ?_
        have hS := And.intro e15 (And.intro e10 (And.intro e11 (And.intro e12 e13)))
        refine wpAnyT_take (i := 0) #[true, false, false, false, false, false, false, false, false, false, false, false, false, false, false, false] (by kernel_rfl) 36 rfl rfl (by kernel_rfl) (by kernel_rfl) (by kernel_rfl) (by kernel_rfl) (by kernel_rfl) (fun _ _ _ h => h) (yields_row 32 _ rfl rfl (w3.heap.size) rfl 32 _ _ (fun w h => h.1) Try.underlying32 rfl sz32) hS ?_
        try simp only [List.setIfInBounds_toArray, List.set_cons_zero, List.set_cons_succ]
        refine wpAnyT_take (i := 1) #[true, true, false, false, false, false, false, false, false, false, false, false, false, false, false, false] (by kernel_rfl) 37 rfl rfl (by kernel_rfl) (by kernel_rfl) (by kernel_rfl) (by kernel_rfl) (by kernel_rfl) (fun _ _ _ h => h) (yields_row 32 _ rfl rfl (w2.heap.size) rfl 32 _ _ (fun w h => h.2.1) Try.underlying32 rfl sz32) hS ?_
        try simp only [List.setIfInBounds_toArray, List.set_cons_zero, List.set_cons_succ]
        refine wpAnyT_take (i := 3) #[true, true, false, true, false, false, false, false, false, false, false, false, false, false, false, false] (by kernel_rfl) 39 rfl rfl (by kernel_rfl) (by kernel_rfl) (by kernel_rfl) (by kernel_rfl) (by kernel_rfl) (fun _ _ _ h => h) (yields_row 32 _ rfl rfl (w2.heap.size + 1 + 1) rfl 32 _ _ (fun w h => h.2.2.2.1) Try.underlying32 rfl sz32) hS ?_
        try simp only [List.setIfInBounds_toArray, List.set_cons_zero, List.set_cons_succ]
        refine wpAnyT_take (i := 5) #[true, true, false, true, false, true, false, false, false, false, false, false, false, false, false, false] (by kernel_rfl) 41 rfl rfl (by kernel_rfl) (by kernel_rfl) (by kernel_rfl) (by kernel_rfl) (by kernel_rfl) (fun _ _ _ h => h) (yields_row 32 _ rfl rfl (w3.heap.size) rfl 32 _ _ (fun w h => h.1) Try.underlying32 rfl sz32) hS ?_
        try simp only [List.setIfInBounds_toArray, List.set_cons_zero, List.set_cons_succ]
        refine wpAnyT_take (i := 6) #[true, true, false, true, false, true, true, false, false, false, false, false, false, false, false, false] (by kernel_rfl) 42 rfl rfl (by kernel_rfl) (by kernel_rfl) (by kernel_rfl) (by kernel_rfl) (by kernel_rfl) (fun _ _ _ h => h) (yields_row 32 _ rfl rfl (w2.heap.size + 1) rfl 32 _ _ (fun w h => h.2.2.1) Try.underlying32 rfl sz32) hS ?_
        try simp only [List.setIfInBounds_toArray, List.set_cons_zero, List.set_cons_succ]
        refine wpAnyT_take (i := 8) #[true, true, false, true, false, true, true, false, true, false, false, false, false, false, false, false] (by kernel_rfl) 44 rfl rfl (by kernel_rfl) (by kernel_rfl) (by kernel_rfl) (by kernel_rfl) (by kernel_rfl) (fun _ _ _ h => h) (yields_row 32 _ rfl rfl (w2.heap.size + 1 + 1 + 1) rfl 32 _ _ (fun w h => h.2.2.2.2) Try.underlying32 rfl sz32) hS ?_
        try simp only [List.setIfInBounds_toArray, List.set_cons_zero, List.set_cons_succ]
        refine wpAnyT_take (i := 10) #[true, true, false, true, false, true, true, false, true, false, true, false, false, false, false, false] (by kernel_rfl) 46 rfl rfl (by kernel_rfl) (by kernel_rfl) (by kernel_rfl) (by kernel_rfl) (by kernel_rfl) (fun _ _ _ h => h) (yields_row 32 _ rfl rfl (w2.heap.size) rfl 32 _ _ (fun w h => h.2.1) Try.underlying32 rfl sz32) hS ?_
        try simp only [List.setIfInBounds_toArray, List.set_cons_zero, List.set_cons_succ]
        refine wpAnyT_take (i := 11) #[true, true, false, true, false, true, true, false, true, false, true, true, false, false, false, false] (by kernel_rfl) 47 rfl rfl (by kernel_rfl) (by kernel_rfl) (by kernel_rfl) (by kernel_rfl) (by kernel_rfl) (fun _ _ _ h => h) (yields_row 32 _ rfl rfl (w2.heap.size + 1) rfl 32 _ _ (fun w h => h.2.2.1) Try.underlying32 rfl sz32) hS ?_
        try simp only [List.setIfInBounds_toArray, List.set_cons_zero, List.set_cons_succ]
        clear hS
        refine wpAnyT_call (i := 2) #[true, true, true, true, false, true, true, false, true, false, true, true, false, false, false, false] (by kernel_rfl) 38 rfl (by kernel_rfl) rfl rfl 114 #[.pointer (some ⟨w.heap.size + 1 + 1, 0, none⟩), wdv false A, wdv false p] (by kernel_rfl) (mulZ (w.heap.size + 1 + 1) _ A p hAp lp _ e9) ?_
        rintro x1 ⟨hc, n9⟩
        replace eB := below_chg eB hc (by omega) (Nat.le_of_lt e6.lt)
        replace e6 : Blk x1 w.heap.size 32 (wcl false fun _ => 0) := e6.chg hc (by omega)
        replace e7 : Blk x1 (w.heap.size + 1) 32 (wcl false fun _ => 0) := e7.chg hc (by omega)
        replace e10 : Blk x1 w2.heap.size 32 (wcl false (lb p)) := e10.chg hc (by omega)
        replace e11 : Blk x1 (w2.heap.size + 1) 32 (wcl false (lb q)) := e11.chg hc (by omega)
        replace e12 : Blk x1 (w2.heap.size + 1 + 1) 32 (wcl false (lb p0)) := e12.chg hc (by omega)
        replace e13 : Blk x1 (w2.heap.size + 1 + 1 + 1) 32 (wcl false (lb q0)) := e13.chg hc (by omega)
        replace e15 : Blk x1 w3.heap.size 32 (wcl false (lb A)) := e15.chg hc (by omega)
        replace e9 := n9
        clear n9 hc
        refine ⟨fun _ => ⟨e15, e10, e11, e12, e13⟩, ?_⟩
        try simp only [List.setIfInBounds_toArray, List.set_cons_zero, List.set_cons_succ]
        refine wpAnyT_call (i := 4) #[true, true, true, true, true, true, true, false, true, false, true, true, false, false, false, false] (by kernel_rfl) 40 rfl (by kernel_rfl) rfl rfl 113 #[.pointer (some ⟨w.heap.size + 1 + 1, 0, none⟩), wdv false (mz A p), wdv false p0] (by kernel_rfl) (addZ (w.heap.size + 1 + 1) _ (mz A p) p0 (mz_lt A p) lp0 _ e9) ?_
        rintro x2 ⟨hc, n9⟩
        replace eB := below_chg eB hc (by omega) (Nat.le_of_lt e6.lt)
        replace e6 : Blk x2 w.heap.size 32 (wcl false fun _ => 0) := e6.chg hc (by omega)
        replace e7 : Blk x2 (w.heap.size + 1) 32 (wcl false fun _ => 0) := e7.chg hc (by omega)
        replace e10 : Blk x2 w2.heap.size 32 (wcl false (lb p)) := e10.chg hc (by omega)
        replace e11 : Blk x2 (w2.heap.size + 1) 32 (wcl false (lb q)) := e11.chg hc (by omega)
        replace e12 : Blk x2 (w2.heap.size + 1 + 1) 32 (wcl false (lb p0)) := e12.chg hc (by omega)
        replace e13 : Blk x2 (w2.heap.size + 1 + 1 + 1) 32 (wcl false (lb q0)) := e13.chg hc (by omega)
        replace e15 : Blk x2 w3.heap.size 32 (wcl false (lb A)) := e15.chg hc (by omega)
        replace e9 := n9
        clear n9 hc
        refine ⟨fun _ => ⟨e15, e10, e11, e12, e13⟩, ?_⟩
        try simp only [List.setIfInBounds_toArray, List.set_cons_zero, List.set_cons_succ]
        refine wpAnyT_call (i := 7) #[true, true, true, true, true, true, true, true, true, false, true, true, false, false, false, false] (by kernel_rfl) 43 rfl (by kernel_rfl) rfl rfl 114 #[.pointer (some ⟨w.heap.size + 1 + 1, 0, none⟩), wdv false A, wdv false q] (by kernel_rfl) (mulZ (w.heap.size + 1 + 1) _ A q hAp lq _ e9) ?_
        rintro x3 ⟨hc, n9⟩
        replace eB := below_chg eB hc (by omega) (Nat.le_of_lt e6.lt)
        replace e6 : Blk x3 w.heap.size 32 (wcl false fun _ => 0) := e6.chg hc (by omega)
        replace e7 : Blk x3 (w.heap.size + 1) 32 (wcl false fun _ => 0) := e7.chg hc (by omega)
        replace e10 : Blk x3 w2.heap.size 32 (wcl false (lb p)) := e10.chg hc (by omega)
        replace e11 : Blk x3 (w2.heap.size + 1) 32 (wcl false (lb q)) := e11.chg hc (by omega)
        replace e12 : Blk x3 (w2.heap.size + 1 + 1) 32 (wcl false (lb p0)) := e12.chg hc (by omega)
        replace e13 : Blk x3 (w2.heap.size + 1 + 1 + 1) 32 (wcl false (lb q0)) := e13.chg hc (by omega)
        replace e15 : Blk x3 w3.heap.size 32 (wcl false (lb A)) := e15.chg hc (by omega)
        replace e9 := n9
        clear n9 hc
        refine ⟨fun _ => ⟨e15, e10, e11, e12, e13⟩, ?_⟩
        try simp only [List.setIfInBounds_toArray, List.set_cons_zero, List.set_cons_succ]
        refine wpAnyT_call (i := 9) #[true, true, true, true, true, true, true, true, true, true, true, true, false, false, false, false] (by kernel_rfl) 45 rfl (by kernel_rfl) rfl rfl 113 #[.pointer (some ⟨w.heap.size + 1 + 1, 0, none⟩), wdv false (mz A q), wdv false q0] (by kernel_rfl) (addZ (w.heap.size + 1 + 1) _ (mz A q) q0 (mz_lt A q) lq0 _ e9) ?_
        rintro x4 ⟨hc, n9⟩
        replace eB := below_chg eB hc (by omega) (Nat.le_of_lt e6.lt)
        replace e6 : Blk x4 w.heap.size 32 (wcl false fun _ => 0) := e6.chg hc (by omega)
        replace e7 : Blk x4 (w.heap.size + 1) 32 (wcl false fun _ => 0) := e7.chg hc (by omega)
        replace e10 : Blk x4 w2.heap.size 32 (wcl false (lb p)) := e10.chg hc (by omega)
        replace e11 : Blk x4 (w2.heap.size + 1) 32 (wcl false (lb q)) := e11.chg hc (by omega)
        replace e12 : Blk x4 (w2.heap.size + 1 + 1) 32 (wcl false (lb p0)) := e12.chg hc (by omega)
        replace e13 : Blk x4 (w2.heap.size + 1 + 1 + 1) 32 (wcl false (lb q0)) := e13.chg hc (by omega)
        replace e15 : Blk x4 w3.heap.size 32 (wcl false (lb A)) := e15.chg hc (by omega)
        replace e9 := n9
        clear n9 hc
        refine ⟨fun _ => ⟨e15, e10, e11, e12, e13⟩, ?_⟩
        try simp only [List.setIfInBounds_toArray, List.set_cons_zero, List.set_cons_succ]
        have y15 : w2.heap.size + 1 + 1 + 1 < w3.heap.size := by omega
        refine wpAnyT_store (i := 12) #[true, true, true, true, true, true, true, true, true, true, true, true, true, false, false, false] (by kernel_rfl) rfl (by kernel_rfl) rfl rfl 32 _ _ rfl w2.heap.size (wcl false (lb (az (mz A p) p0))) rfl rfl 32 _ e10 sz32 rfl (wcl_all _ _) ⟨fun h => absurd h (by decide), ?_⟩
        replace e6 := e6.row_far (k := w2.heap.size) (by omega) (wcl false (lb (az (mz A p) p0)))
        replace e7 := e7.row_far (k := w2.heap.size) (by omega) (wcl false (lb (az (mz A p) p0)))
        replace e9 := e9.row_far (k := w2.heap.size) (by omega) (wcl false (lb (az (mz A p) p0)))
        replace e10 := e10.row (wcl false (lb (az (mz A p) p0)))
        replace e11 := e11.row_far (k := w2.heap.size) (by omega) (wcl false (lb (az (mz A p) p0)))
        replace e12 := e12.row_far (k := w2.heap.size) (by omega) (wcl false (lb (az (mz A p) p0)))
        replace e13 := e13.row_far (k := w2.heap.size) (by omega) (wcl false (lb (az (mz A p) p0)))
        replace eB := below_row (g := w2.heap.size) eB (by omega) (wcl false (lb (az (mz A p) p0)))
        refine wpAnyT_store (i := 13) #[true, true, true, true, true, true, true, true, true, true, true, true, true, true, false, false] (by kernel_rfl) rfl (by kernel_rfl) rfl rfl 32 _ _ rfl (w2.heap.size + 1) (wcl false (lb (az (mz A q) q0))) rfl rfl 32 _ e11 sz32 rfl (wcl_all _ _) ⟨fun h => absurd h (by decide), ?_⟩
        replace e6 := e6.row_far (k := (w2.heap.size + 1)) (by omega) (wcl false (lb (az (mz A q) q0)))
        replace e7 := e7.row_far (k := (w2.heap.size + 1)) (by omega) (wcl false (lb (az (mz A q) q0)))
        replace e9 := e9.row_far (k := (w2.heap.size + 1)) (by omega) (wcl false (lb (az (mz A q) q0)))
        replace e10 := e10.row_far (k := (w2.heap.size + 1)) (by omega) (wcl false (lb (az (mz A q) q0)))
        replace e11 := e11.row (wcl false (lb (az (mz A q) q0)))
        replace e12 := e12.row_far (k := (w2.heap.size + 1)) (by omega) (wcl false (lb (az (mz A q) q0)))
        replace e13 := e13.row_far (k := (w2.heap.size + 1)) (by omega) (wcl false (lb (az (mz A q) q0)))
        replace eB := below_row (g := (w2.heap.size + 1)) eB (by omega) (wcl false (lb (az (mz A q) q0)))
        refine wpAnyT_store (i := 14) #[true, true, true, true, true, true, true, true, true, true, true, true, true, true, true, false] (by kernel_rfl) rfl (by kernel_rfl) rfl rfl 32 _ _ rfl (w2.heap.size + 1 + 1) (wcl false (lb p)) rfl rfl 32 _ e12 sz32 rfl (wcl_all _ _) ⟨fun h => absurd h (by decide), ?_⟩
        replace e6 := e6.row_far (k := (w2.heap.size + 1 + 1)) (by omega) (wcl false (lb p))
        replace e7 := e7.row_far (k := (w2.heap.size + 1 + 1)) (by omega) (wcl false (lb p))
        replace e9 := e9.row_far (k := (w2.heap.size + 1 + 1)) (by omega) (wcl false (lb p))
        replace e10 := e10.row_far (k := (w2.heap.size + 1 + 1)) (by omega) (wcl false (lb p))
        replace e11 := e11.row_far (k := (w2.heap.size + 1 + 1)) (by omega) (wcl false (lb p))
        replace e12 := e12.row (wcl false (lb p))
        replace e13 := e13.row_far (k := (w2.heap.size + 1 + 1)) (by omega) (wcl false (lb p))
        replace eB := below_row (g := (w2.heap.size + 1 + 1)) eB (by omega) (wcl false (lb p))
        refine wpAnyT_store (i := 15) #[true, true, true, true, true, true, true, true, true, true, true, true, true, true, true, true] (by kernel_rfl) rfl (by kernel_rfl) rfl rfl 32 _ _ rfl (w2.heap.size + 1 + 1 + 1) (wcl false (lb q)) rfl rfl 32 _ e13 sz32 rfl (wcl_all _ _) ⟨fun h => absurd h (by decide), ?_⟩
        replace e6 := e6.row_far (k := (w2.heap.size + 1 + 1 + 1)) (by omega) (wcl false (lb q))
        replace e7 := e7.row_far (k := (w2.heap.size + 1 + 1 + 1)) (by omega) (wcl false (lb q))
        replace e9 := e9.row_far (k := (w2.heap.size + 1 + 1 + 1)) (by omega) (wcl false (lb q))
        replace e10 := e10.row_far (k := (w2.heap.size + 1 + 1 + 1)) (by omega) (wcl false (lb q))
        replace e11 := e11.row_far (k := (w2.heap.size + 1 + 1 + 1)) (by omega) (wcl false (lb q))
        replace e12 := e12.row_far (k := (w2.heap.size + 1 + 1 + 1)) (by omega) (wcl false (lb q))
        replace e13 := e13.row (wcl false (lb q))
        replace eB := below_row (g := (w2.heap.size + 1 + 1 + 1)) eB (by omega) (wcl false (lb q))
        refine wpAnyT_done (by kernel_rfl) ?_ _
        go_wp2
        go_roundw
        case rel =>
          refine ⟨j + 1, az (mz A p) p0, az (mz A q) q0, p, q, cover A p q p0 q0, by go_num, by omega, ⟨az_lt _ _, az_lt _ _, lp, lq⟩, fun ho => ?_, fun ho => ?_, e6, e7, e9, e10, e11, e12, e13, eB⟩
          · have := HS.out; rw [ho] at this; rw [show k + 1 - (j + 1) = k - j by omega]; exact this
          · have := HS.out; rw [ho] at this; exact this.symm
        case measure => simp [intOf] <;> omega
      · obtain rfl : j = k + 1 := by omega
        have hs0 := HR0.out
        rw [Nat.sub_self, crun] at hs0
        have HS := Lib.hid hs0
        clear hs0 hjk hj
        go_wp2
        refine wp_region_till (fun w' => Blk w' w2.heap.size 32 (wcl false (lb p)) ∧ Blk w' (w2.heap.size + 1) 32 (wcl false (lb q))) 5 5 #[false, false, false, false, false] rfl rfl rfl ?_
        have hS := And.intro (d10.drewN 1) (d11.drewN 1)
        refine wpAnyT_take (i := 0) #[true, false, false, false, false] (by kernel_rfl) 52 rfl rfl (by kernel_rfl) (by kernel_rfl) (by kernel_rfl) (by kernel_rfl) (by kernel_rfl) (fun _ _ _ h => h) (yields_row 32 _ rfl rfl (w2.heap.size) rfl 32 _ _ (fun w h => h.1) Try.underlying32 rfl sz32) hS ?_
        try simp only [List.setIfInBounds_toArray, List.set_cons_zero, List.set_cons_succ]
        refine wpAnyT_take (i := 1) #[true, true, false, false, false] (by kernel_rfl) 53 rfl rfl (by kernel_rfl) (by kernel_rfl) (by kernel_rfl) (by kernel_rfl) (by kernel_rfl) (fun _ _ _ h => h) (yields_row 32 _ rfl rfl (w2.heap.size + 1) rfl 32 _ _ (fun w h => h.2) Try.underlying32 rfl sz32) hS ?_
        try simp only [List.setIfInBounds_toArray, List.set_cons_zero, List.set_cons_succ]
        clear hS
        replace d6 := d6.drewN 1
        replace d7 := d7.drewN 1
        replace d10 := d10.drewN 1
        replace d11 := d11.drewN 1
        replace dB := below_drewN dB 1
        refine wpAnyT_store (i := 2) #[true, true, true, false, false] (by kernel_rfl) rfl (by kernel_rfl) rfl rfl 32 _ _ rfl w.heap.size (wcl false (lb p)) rfl rfl 32 _ d6 sz32 rfl (wcl_all _ _) ⟨fun _ => ⟨d10.row_far (by omega) _, d11.row_far (by omega) _⟩, ?_⟩
        replace d6 := d6.row (wcl false (lb p))
        replace d7 := d7.row_far (k := w.heap.size) (by omega) (wcl false (lb p))
        replace d10 := d10.row_far (k := w.heap.size) (by omega) (wcl false (lb p))
        replace d11 := d11.row_far (k := w.heap.size) (by omega) (wcl false (lb p))
        replace dB := below_row (g := w.heap.size) dB (by omega) (wcl false (lb p))
        refine wpAnyT_store (i := 3) #[true, true, true, true, false] (by kernel_rfl) rfl (by kernel_rfl) rfl rfl 32 _ _ rfl (w.heap.size + 1) (wcl false (lb q)) rfl rfl 32 _ d7 sz32 rfl (wcl_all _ _) ⟨fun _ => ⟨d10.row_far (by omega) _, d11.row_far (by omega) _⟩, ?_⟩
        replace d6 := d6.row_far (k := (w.heap.size + 1)) (by omega) (wcl false (lb q))
        replace d7 := d7.row (wcl false (lb q))
        replace d10 := d10.row_far (k := (w.heap.size + 1)) (by omega) (wcl false (lb q))
        replace d11 := d11.row_far (k := (w.heap.size + 1)) (by omega) (wcl false (lb q))
        replace dB := below_row (g := (w.heap.size + 1)) dB (by omega) (wcl false (lb q))
        refine wpAnyT_take (i := 4) #[true, true, true, true, true] (by kernel_rfl) 8 rfl rfl (by kernel_rfl) (by kernel_rfl) (by kernel_rfl) (by kernel_rfl) (by kernel_rfl) (fun _ _ _ h => h) (.inl ⟨rfl, fun _ _ => rfl⟩) ⟨d10, d11⟩ ?_
        try simp only [List.setIfInBounds_toArray, List.set_cons_zero, List.set_cons_succ]
        refine wpAnyT_done (by kernel_rfl) ?_ _
        go_wp2
        refine bodyPost_ret (v := cvalue R) ((res_row_row_tmp Try.results60 rfl d6 rfl d7 Try.underlying32 rfl sz32 Try.underlying32 rfl sz32).trans ?_) rfl ⟨rfl, dB⟩
        rw [← HS.out]; rfl
end Go.Proofs.Ytjgikfejfglllaa
