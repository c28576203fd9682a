/- The calculator's product. -/
import Derived.Test.YtjgikfejfglllaaChg
import Derived.Test.YtjgikfejfglllaaM1
set_option linter.unusedVariables false
set_option linter.unusedSimpArgs false
namespace Go.Proofs.Ytjgikfejfglllaa
open Go.RowKit


set_option maxHeartbeats 1000000 in
theorem calcMul_wd (g t : Nat) (cs : Array Value) (ov : Bool) (n1 n2 : Bool) (M N : Nat) (hM : M < pw 6) (hN : N < pw 6) (w : World) (hG : Blk w g t cs) (h0 : cs[0]? = some (.bool ov)) :
    Calls Try.prog 114 #[.pointer (some ⟨g, 0, none⟩), wdv n1 M, wdv n2 N] w fun e w' => e = .returned (wdv (sg (n1 != n2) (if M * N < pw 6 then M * N else 0)) (if M * N < pw 6 then M * N else 0)) ∧ Chg w w' g ∧ Blk w' g t (cs.setIfInBounds 0 (.bool (ov || decide (¬ M * N < pw 6)))) := by
  have hlt := hG.lt
  have hS : (if M * N < pw 6 then M * N else 0) < pw 6 := by
    split
    · assumption
    · exact pw_pos 6
  obtain ⟨S, hSe⟩ : ∃ S, S = (if M * N < pw 6 then M * N else 0) := ⟨_, rfl⟩
  obtain ⟨f, hf⟩ : ∃ f, f = decide (¬ M * N < pw 6) := ⟨_, rfl⟩
  rw [← hSe] at hS ⊢
  rw [← hf]
  have HS := Lib.hid hSe
  have HF := Lib.hid hf
  clear hSe hf
  unfold wdv wcl
  go_enter Try.func114, Try.ntmps114
  go_wp2_with fail
  refine (calls_args (args' := #[szv M, szv N]) rfl (times_any M N hM hN _)).mono ?_
  rintro e w1 ⟨rfl, hb1⟩
  rw [← HS.out, ← HF.out]
  have hG1 : Blk w1 g t cs := (((hG.alloc _).alloc _).alloc _).later hb1
  have hR1 : Blk w1 (w.heap.size + 1 + 1) 32 (wcl false fun _ => 0) := (Blk.newAt (by simp) 32 (wcl false fun _ => 0)).later hb1
  have hA1 : Blk w1 w.heap.size 32 (wcl n1 (lb M)) := (((Blk.newAt (by simp) 32 (wcl n1 (lb M))).alloc _).alloc _).later hb1
  have hN1 : Blk w1 (w.heap.size + 1) 32 (wcl n2 (lb N)) := ((Blk.newAt (by simp) 32 (wcl n2 (lb N))).alloc _).later hb1
  have hB1 := below_then (below_alloc (below_alloc (below_alloc (Below.refl w.heap.size w) _) _) _) hb1
  obtain ⟨a0, a1, a2, a3, a4, a5, a6⟩ := hA1.seven
  obtain ⟨b0, b1, b2, b3, b4, b5, b6⟩ := hN1.seven
  have hz := hb1.size
  simp only [World.size_alloc] at hz
  have z0 : w.heap.size < w1.heap.size := by omega
  have z1 : w.heap.size + 1 < w1.heap.size := by omega
  have z2 : w.heap.size + 1 + 1 < w1.heap.size := by omega
  have zg : g < w1.heap.size := by omega
  have zn0 : ¬ w.heap.size = g := by omega
  have zn1 : ¬ w.heap.size + 1 = g := by omega
  have cg := calc_cell hG1 h0
  have fg := hG1.frozen 0
  clear hb1 hz
  unfold szv cl
  cases ov
  all_goals
    go_wp2_with fail
    refine (calls_args (args' := #[.bool (n1 != n2), szv S]) rfl (wide_sg _ _ hS _)).mono ?_
    rintro e w2 ⟨rfl, hb2⟩
    have hC2 : Chg w w2 g := (((Chg.of_below hB1 g).set 0 _).alloc _).trans (Chg.of_below hb2 g)
    have hG2 := ((hG1.set_ 0 _).alloc _).later hb2
    have hR2 := ((hR1.far (p := ⟨g, 0, none⟩) (by simp <;> omega) _).alloc _).later hb2
    go_wp2_with (refine wpList_store_row rfl 32 _ _ rfl (w.heap.size + 1 + 1) _ rfl rfl 32 _ hR2 sz32 rfl (wcl_all _ _) ?_)
    refine bodyPost_ret (v := wdv (sg (n1 != n2) S) S) (res_row Try.results114 rfl (hR2.row _) Try.underlying32 rfl sz32) rfl ⟨rfl, hC2.rowNew (by omega) _, ?_⟩
    exact hG2.row_far (by omega) _
end Go.Proofs.Ytjgikfejfglllaa
