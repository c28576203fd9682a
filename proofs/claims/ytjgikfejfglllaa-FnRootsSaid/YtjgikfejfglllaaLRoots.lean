/- The law FnRoots of the program loop.example/g01242 is proved: for every string of bytes the law returns true and leaves the bytes as they were. CONDITIONS: none beyond the statement's own. -/
import Derived.Test.YtjgikfejfglllaaRows
import Derived.WalkKit
import Derived.ProofKit
import Derived.OpenShut
import Derived.Test.YtjgikfejfglllaaFin2
import Derived.Test.YtjgikfejfglllaaF4
namespace Go.Proofs.Ytjgikfejfglllaa.fnRoots
open Go.ChangeShapes Go.WideShapes Go.ChangeAt Go.RowKit
set_option linter.unusedVariables false

theorem own : ownKnob Try.prog.godebug = none := by kernel_rfl
theorem walk (v : Value) (n : Nat) (w : World) (h : Byt w v n) : Calls Try.prog 6 #[v] w fun e w' => e = .returned (.bool true) ∧ Below w.heap.size w w' := by
  by_cases hn : 3000 < n
  · exact lawRoots_long v n hn w h
  · exact lawRoots_short v n (by omega) w h

set_option maxRecDepth 100000 in
theorem lifted (os : Os) (started : os.Started) (H : Type) (enc : TypeId × Value → H) :
    ReturnsInHanded {} Try.checked os 6 .any (Rows.fnRootsSpec.pre6 enc Try.prog Try.f6 Rows.fnRootsRow.domain false) (Rows.fnRootsSpec.post enc Try.prog Try.f6 false true false false) := by
  refine returnsInHanded_of_change (C := Try.checked) own started (by kernel_rfl) Try.func6
    (ChangeSpec.witness6 (enc := enc) (C := Try.checked) false ⟨#[], #[.slice none 0 0], []⟩ 8 (by kernel_rfl) (by kernel_rfl) (by kernel_rfl) (by kernel_rfl)) ?_
  intro W base args ds gs before hval0 hW hcnd _
  have hval : ∀ (j : Nat) t v, Try.f6.params[j]? = some t → args[j]? = some v → Value.okWide Try.prog W .any base t v := hval0
  have hW' := hW
  obtain ⟨p, q, hA0, hV, rfl, hfz, hnd⟩ := hW
  have hA : DataW.TrodAll enc Try.prog W 0 (fun _ => true) true Try.f6.params.toList args.toList ds p := hA0
  rw [Try.params6] at hA hval
  obtain ⟨v0, vs0, d0, ds0, p0, q0, hargs, rfl, rfl, h0, r0⟩ := trodAll_cons hA
  obtain ⟨rfl, rfl, rfl⟩ := trodAll_nil r0
  obtain rfl : args = #[v0] := by cases args; simp_all
  obtain ⟨rfl, rfl⟩ := trodVars_none hV
  obtain ⟨a0, len, cap, rfl⟩ := okWide_slice Try.underlying39 (hval 0 39 v0 rfl rfl)
  obtain ⟨fuel, hf⟩ := h0
  clear hA0 hval0
  simp only [List.append_nil] at hW'
  rcases open_ints Try.underlying39 Try.underlying5 cells5 hf with ⟨hcs, hx⟩ | ⟨a, len', cap', zs, hcs, _, hl, hm, hz, hx, hcell, hwz⟩
  · simp [Value.cells] at hcs
    obtain ⟨rfl, rfl, rfl⟩ := hcs
    simp only [Prod.mk.injEq] at hx
    obtain ⟨rfl, rfl⟩ := hx
    refine (walk _ 0 W ⟨none, 0, rfl, fun k hk => absurd hk (by omega)⟩).mono fun e W' ⟨he, hg⟩ => ?_
    subst he
    exact ⟨_, rfl, post_of_belowA hW' (fun _ _ _ => (trodAll_cons_mk (shut_bool Try.underlying4 _) trodAll_mk0)) (fun sp _ => (trodAll_cons_mk (shut_slice_nil Try.underlying39) trodAll_mk0)) (fun _ _ => rfl) hg (ok_one (by kernel_rfl) rfl (okWide_bool_mk Try.underlying4 _))⟩
  · simp [Value.cells] at hcs
    obtain ⟨rfl, rfl, rfl⟩ := hcs
    simp only [Prod.mk.injEq] at hx
    obtain ⟨rfl, rfl⟩ := hx
    simp only [if_true] at hz
    have hlt : 0 < zs.length → a.block < W.heap.size := fun h => by
      have hq : (MemPlace.cell a.block a.off).block < W.heap.size := by simpa using hW'.lt (.cell a.block a.off) (MemPlace.mem_row.2 ⟨0, h, by simp⟩)
      exact hq
    refine (walk _ len W (byt_of W a len cap zs (by omega) hcell hwz hlt)).mono fun e W' ⟨he, hg⟩ => ?_
    subst he
    refine ⟨_, rfl, post_of_belowA hW' (fun _ _ _ => (trodAll_cons_mk (shut_bool Try.underlying4 _) trodAll_mk0)) (fun sp hsp => ?_) (fun _ _ => rfl) hg (ok_one (by kernel_rfl) rfl (okWide_bool_mk Try.underlying4 _))⟩
    have hb := bytes_rd (enc := enc) W' sp a len cap zs hl hm hz (fun i hi => by rw [hg.cell (by rw [block_add]; exact hlt (by omega))]; exact hcell i hi) hwz hsp
    have := trodAll_cons_mk hb trodAll_mk0
    rw [List.append_nil] at this
    exact this

theorem over : Rows.fnRootsRow.holds Try.pinned (OpenSpec.ofChange Rows.fnRootsSpec) :=
  OpenClaim.holds_of_wide 6 Try.f6 rfl rfl rfl rfl rfl rfl rfl ⟨rfl, rfl, rfl, rfl, rfl⟩ rfl rfl rfl rfl rfl (by kernel_rfl) Try.func6 (by kernel_rfl)
    (of_decide_eq_true (by kernel_rfl)) (by unfold Func.isWrapper; first | (rw [if_pos (by decide +kernel)]; kernel_rfl) | (rw [if_neg (by decide +kernel)]; exact ⟨rfl, rfl⟩))
    (fun os started H enc _ => lifted os started H enc)

theorem proved : Rows.FnRootsSaid :=
  over
#print axioms proved
end Go.Proofs.Ytjgikfejfglllaa.fnRoots
