/- The law FnExactPairMoves of the program loop.example/g01242 is proved: for every pair and every list of terms the program's answer is the reference's, arguments and answers do not lie one over another, and the law returns true. CONDITIONS: none beyond the statement's own. -/
import Derived.Test.YtcfaammnkbkfcaaRows
import Derived.WalkKit
import Derived.ProofKit
import Derived.OpenShut
import Derived.Lib.SmallJoins
import Derived.Test.YtcfaammnkbkfcaaN23
import Derived.Test.YtcfaammnkbkfcaaN26
namespace Go.Proofs.Ytcfaammnkbkfcaa.fnExactPairMoves
open Go.ChangeShapes Go.WideShapes Go.ChangeAt Go.RowKit Go.Joins
set_option linter.unusedVariables false

theorem own : ownKnob Try.prog.godebug = none := by kernel_rfl
theorem cells41 : Try.prog.cellsOf 41 = 4 := by kernel_rfl
theorem walk (a b c d : Int) (v : Value) (l : List Int) (h64 : ∀ j, j < l.length → I64 (l.getD j 0)) (hm : l.length ≤ 9223372036854775807) (w : World) (h : RdO w v l) :
    Calls Try.prog 6 #[.agg #[.int .i64 a, .int .i64 b, .int .i64 c, .int .i64 d], v] w fun e w' => e = .returned (.bool true) ∧ Below w.heap.size w w' := by
  by_cases hn : 1048576 < l.length
  · exact lawPM_long a b c d v l hn hm w h
  · exact lawPM_short a b c d v l (by omega) h64 w h

set_option maxRecDepth 100000 in
theorem lifted (os : Os) (started : os.Started) (H : Type) (enc : TypeId × Value → H) :
    ReturnsInHanded {} Try.checked os 6 .any (Rows.fnExactPairMovesSpec.pre6 enc Try.prog Try.f6 Rows.fnExactPairMovesRow.domain false) (Rows.fnExactPairMovesSpec.post enc Try.prog Try.f6 false true false false) := by
  refine returnsInHanded_of_change (C := Try.checked) own started (by kernel_rfl) Try.func6
    (ChangeSpec.witness6 (enc := enc) (C := Try.checked) false ⟨#[], #[.agg #[.int .i64 0, .int .i64 0, .int .i64 0, .int .i64 0], .slice none 0 0], []⟩ 8 (by kernel_rfl) (by kernel_rfl) (by kernel_rfl) (by kernel_rfl)) ?_
  intro W base args ds gs before hval0 hW hcnd _
  have hval : ∀ (j : Nat) t v, Try.f6.params[j]? = some t → args[j]? = some v → Value.okWide Try.prog W .any base t v := hval0
  have hW' := hW
  obtain ⟨p, q, hA0, hV, rfl, hfz, hnd⟩ := hW
  have hA : DataW.TrodAll enc Try.prog W 0 (fun _ => true) true Try.f6.params.toList args.toList ds p := hA0
  rw [Try.params6] at hA hval
  obtain ⟨v0, vs0, d0, ds0, p0, q0, hargs, rfl, rfl, h0, r0⟩ := trodAll_cons hA
  obtain ⟨v1, vs1, d1, ds1, p1, q1, rfl, rfl, rfl, h1, r1⟩ := trodAll_cons r0
  obtain ⟨rfl, rfl, rfl⟩ := trodAll_nil r1
  obtain rfl : args = #[v0, v1] := by cases args; simp_all
  obtain ⟨rfl, rfl⟩ := trodVars_none hV
  obtain ⟨c0, c1, c2, c3, y0, y1, y2, y3, m, rfl, rfl, rfl, hy0, hy1, hy2, hy3⟩ := open_agg4 Try.underlying41 (by kernel_rfl) cells41 (hval 0 41 v0 rfl rfl) h0
  obtain ⟨a, e0, rfl, wa⟩ := DataW.trod_int Try.underlying2 hy0
  obtain ⟨b, e1, rfl, wb⟩ := DataW.trod_int Try.underlying2 hy1
  obtain ⟨c, e2, rfl, wc⟩ := DataW.trod_int Try.underlying2 hy2
  obtain ⟨d, e3, rfl, wd⟩ := DataW.trod_int Try.underlying2 hy3
  simp at e0 e1 e2 e3
  subst e0 e1 e2 e3
  obtain ⟨a0, len, cap, rfl⟩ := okWide_slice Try.underlying42 (hval 1 42 v1 rfl rfl)
  obtain ⟨fuel, hf⟩ := h1
  clear hA0 hval0
  simp only [List.append_nil] at hW'
  have structReads : ∀ (W' : World) (sp : Nat → Bool), DataW.Trod enc Try.prog W' 0 sp true 41 (.agg #[.int .i64 a, .int .i64 b, .int .i64 c, .int .i64 d]) (.agg [.lit (.int .i64 a), .lit (.int .i64 b), .lit (.int .i64 c), .lit (.int .i64 d)]) [] := fun W' sp =>
    shut_agg4 (y0 := (.lit (.int .i64 a), [])) (y1 := (.lit (.int .i64 b), [])) (y2 := (.lit (.int .i64 c), [])) (y3 := (.lit (.int .i64 d), [])) Try.underlying41 (by kernel_rfl) cells41 ⟨1, by simp [DataW.trod, Try.underlying2, wa]⟩ ⟨1, by simp [DataW.trod, Try.underlying2, wb]⟩ ⟨1, by simp [DataW.trod, Try.underlying2, wc]⟩ ⟨1, by simp [DataW.trod, Try.underlying2, wd]⟩
  rcases open_ints Try.underlying42 Try.underlying2 cells2 hf with ⟨hcs, hx⟩ | ⟨a1, len', cap', zs, hcs, _, hl, hm, hz, hx, hcell, hwz⟩
  · simp [Value.cells] at hcs
    obtain ⟨rfl, rfl, rfl⟩ := hcs
    simp only [Prod.mk.injEq] at hx
    obtain ⟨rfl, rfl⟩ := hx
    refine (walk a b c d _ [] (fun j hj => absurd hj (by simp)) (by simp) W ⟨none, 0, rfl, fun k hk => absurd hk (by simp)⟩).mono fun e W' ⟨he, hg⟩ => ?_
    subst he
    exact ⟨_, rfl, post_of_belowA hW' (fun _ _ _ => (trodAll_cons_mk (shut_bool Try.underlying4 _) trodAll_mk0)) (fun sp _ => (trodAll_cons_mk (structReads _ sp) (trodAll_cons_mk (shut_slice_nil Try.underlying42) trodAll_mk0))) (fun _ _ => rfl) hg (ok_one (by kernel_rfl) rfl (okWide_bool_mk Try.underlying4 _))⟩
  · simp [Value.cells] at hcs
    obtain ⟨rfl, rfl, rfl⟩ := hcs
    simp only [Prod.mk.injEq] at hx
    obtain ⟨rfl, rfl⟩ := hx
    simp only [if_true] at hz
    have hlt : 0 < zs.length → a1.block < W.heap.size := fun h => by
      have hq : (MemPlace.cell a1.block a1.off).block < W.heap.size := by simpa using hW'.lt (.cell a1.block a1.off) (by simp only [List.nil_append]; exact MemPlace.mem_row.2 ⟨0, h, by simp⟩)
      exact hq
    have hmx : (zs.take len).length ≤ 9223372036854775807 := by
      have : maxLen ≤ 9223372036854775807 := by decide
      simp only [List.length_take]
      omega
    refine (walk a b c d _ (zs.take len) (i64_of zs len hwz) hmx W (rdo_of W a1 len cap zs (by omega) hcell hlt)).mono fun e W' ⟨he, hg⟩ => ?_
    subst he
    refine ⟨_, rfl, post_of_belowA hW' (fun _ _ _ => (trodAll_cons_mk (shut_bool Try.underlying4 _) trodAll_mk0)) (fun sp hsp => ?_) (fun _ _ => rfl) hg (ok_one (by kernel_rfl) rfl (okWide_bool_mk Try.underlying4 _))⟩
    have hb := ints_rd (enc := enc) W' sp a1 len cap zs hl hm hz (fun i hi => by rw [hg.cell (by rw [block_add]; exact hlt (by omega))]; exact hcell i hi) hwz (by simpa using hsp)
    have := trodAll_cons_mk (structReads W' sp) (trodAll_cons_mk hb trodAll_mk0)
    rw [List.append_nil] at this
    exact this

theorem over : Rows.fnExactPairMovesRow.holds Try.pinned (OpenSpec.ofChange Rows.fnExactPairMovesSpec) :=
  OpenClaim.holds_of_wide 6 Try.f6 rfl rfl rfl rfl rfl rfl rfl ⟨rfl, rfl, rfl, rfl, rfl⟩ rfl rfl rfl rfl rfl (by kernel_rfl) Try.func6 (by kernel_rfl)
    (of_decide_eq_true (by kernel_rfl)) (by unfold Func.isWrapper; first | (rw [if_pos (by decide +kernel)]; kernel_rfl) | (rw [if_neg (by decide +kernel)]; exact ⟨rfl, rfl⟩))
    (fun os started H enc _ => lifted os started H enc)

theorem proved : Rows.FnExactPairMovesSaid :=
  over
#print axioms proved
end Go.Proofs.Ytcfaammnkbkfcaa.fnExactPairMoves
