/- The calculator's sum of numbers of one sign. -/
import Derived.Test.YtjgikfejfglllaaChg
import Derived.Test.YtjgikfejfglllaaW1
set_option linter.unusedVariables false
set_option linter.unusedSimpArgs false
namespace Go.Proofs.Ytjgikfejfglllaa
open Go.RowKit


set_option maxHeartbeats 1000000 in
theorem calcAdd_same (g t : Nat) (cs : Array Value) (ov : Bool) (n : Bool) (M N : Nat) (hM : M < pw 6) (hN : N < pw 6) (w : World) (hG : Blk w g t cs) (h0 : cs[0]? = some (.bool ov)) :
    Calls Try.prog 113 #[.pointer (some ⟨g, 0, none⟩), wdv n M, wdv n N] w fun e w' => e = .returned (wdv (sg n ((M + N) % pw 6)) ((M + N) % pw 6)) ∧ Chg w w' g ∧ Blk w' g t (cs.setIfInBounds 0 (.bool (ov || decide (cy M N 6 ≠ 0)))) := by
  have hlt := hG.lt
  have hS : (M + N) % pw 6 < pw 6 := Nat.mod_lt _ (pw_pos 6)
  have hSV : szv (M + N) = szv ((M + N) % pw 6) := congrArg Value.agg (cl_congr fun k hk => (lb_mod _ hk).symm)
  obtain ⟨S, hSe⟩ : ∃ S, S = (M + N) % pw 6 := ⟨_, rfl⟩
  obtain ⟨f, hf⟩ : ∃ f, f = decide (cy M N 6 ≠ 0) := ⟨_, rfl⟩
  rw [← hSe] at hS hSV ⊢
  rw [← hf]
  have HSV := Lib.hid hSV
  have HF := Lib.hid hf
  clear hSe hf hSV
  unfold wdv wcl
  go_enter Try.func113, Try.ntmps113
  go_wp2_with fail
  refine (calls_args (args' := #[szv M, szv N]) rfl (plus_any M N _)).mono ?_
  rintro e w1 ⟨rfl, hb1⟩
  rw [HSV.out, ← HF.out]
  have hG1 : Blk w1 g t cs := (((hG.alloc _).alloc _).alloc _).later hb1
  have hR1 : Blk w1 (w.heap.size + 1 + 1) 32 (wcl false fun _ => 0) := (Blk.newAt (by simp) 32 (wcl false fun _ => 0)).later hb1
  have hA1 : Blk w1 w.heap.size 32 (wcl (n) (lb M)) := (((Blk.newAt (by simp) 32 (wcl (n) (lb M))).alloc _).alloc _).later hb1
  have hN1 : Blk w1 (w.heap.size + 1) 32 (wcl (n) (lb N)) := ((Blk.newAt (by simp) 32 (wcl (n) (lb N))).alloc _).later hb1
  have hB1 := below_then (below_alloc (below_alloc (below_alloc (Below.refl w.heap.size w) _) _) _) hb1
  obtain ⟨a0, a1, a2, a3, a4, a5, a6⟩ := hA1.seven
  obtain ⟨b0, b1, b2, b3, b4, b5, b6⟩ := hN1.seven
  have hz := hb1.size
  simp only [World.size_alloc] at hz
  have z0 : w.heap.size < w1.heap.size := by omega
  have z1 : w.heap.size + 1 < w1.heap.size := by omega
  have z2 : w.heap.size + 1 + 1 < w1.heap.size := by omega
  have zg : g < w1.heap.size := by omega
  have zn0 : ¬ w.heap.size = g := by omega
  have zn1 : ¬ w.heap.size + 1 = g := by omega
  have cg := calc_cell hG1 h0
  have fg := hG1.frozen 0
  clear hb1 hz
  unfold szv cl
  cases ov
  all_goals
    go_wp2_with fail
    refine (calls_args (args' := #[.bool n, szv S]) rfl (wide_sg _ _ hS _)).mono ?_
    rintro e w2 ⟨rfl, hb2⟩
    have hC2 : Chg w w2 g := (((Chg.of_below hB1 g).set 0 _).alloc _).trans (Chg.of_below hb2 g)
    have hG2 := ((hG1.set_ 0 _).alloc _).later hb2
    have hR2 := ((hR1.far (p := ⟨g, 0, none⟩) (by simp <;> omega) _).alloc _).later hb2
    go_wp2_with (refine wpList_store_row rfl 32 _ _ rfl (w.heap.size + 1 + 1) _ rfl rfl 32 _ hR2 sz32 rfl (wcl_all _ _) ?_)
    refine bodyPost_ret (v := wdv (sg n S) S) (res_row Try.results113 rfl (hR2.row _) Try.underlying32 rfl sz32) rfl ⟨rfl, hC2.rowNew (by omega) _, ?_⟩
    exact hG2.row_far (by omega) _
end Go.Proofs.Ytjgikfejfglllaa
