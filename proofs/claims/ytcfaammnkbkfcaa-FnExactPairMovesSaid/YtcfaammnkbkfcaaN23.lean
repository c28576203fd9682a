/- Old memory is as it was: what a row of numbers asks at its end, off 'Below'. -/
import Derived.Test.YtcfaammnkbkfcaaRows
import Derived.WalkKit
import Derived.ProofKit
import Derived.OpenShut
import Derived.Below
import Derived.Test.YtcfaammnkbkfcaaN22
set_option linter.unusedVariables false
set_option linter.unusedSimpArgs false
namespace Go.Proofs.Ytcfaammnkbkfcaa
open Go.ChangeShapes Go.WideShapes Go.ChangeAt Go.RowKit
section
variable {H : Type} {enc : TypeId × Value → H} {P : Program}
theorem post_of_below {f : Func} {s : ChangeSpec} {apart fresh handsOn again : Bool} {W W' : World} {args : Array Value} {v : Value} {ds gs : List (DataW H)} {before : List MemPlace}
    (hW : DataW.Whole enc P f.params.toList s.vars apart W args.toList ds gs before)
    (hres : ∀ (b : Nat) (sp : Nat → Bool) (hd : Bool), DataW.TrodAll enc P W' b sp hd f.resultTypes.toList (v.resultList f.resultTypes.size) (s.fn H (ds ++ gs)).results [])
    (hargs : ∀ sp : Nat → Bool, (∀ p ∈ before, sp p.block = true) → DataW.TrodAll enc P W' 0 sp true f.params.toList args.toList (s.fn H (ds ++ gs)).args [])
    (hvars : ∀ sp : Nat → Bool, (∀ p ∈ before, sp p.block = true) → DataW.TrodVars enc P W' sp s.vars (s.fn H (ds ++ gs)).vars [])
    (hps : before = []) (hk : W.keptBut W' (· ∈ before))
    (hok : ∀ (j : Nat) (t : TypeId) (r : Value), f.resultTypes[j]? = some t → (v.resultList f.resultTypes.size)[j]? = some r → Value.okWide P W' .any 0 t r) :
    s.post enc P f apart fresh handsOn again W args v W' := by
  subst hps
  refine ⟨ds, gs, [], [], [], [], hW, hres _ _ _, hargs _ (fun p hp => nomatch hp), hvars _ (fun p hp => nomatch hp), World.keptBut_mono (fun p hp => nomatch hp) hk, fun _ => ?_⟩
  refine ⟨hok, _, _, ([] ++ []) ++ [], ⟨[] ++ [], [], trodAll_append (hargs _ (fun _ _ => rfl)) (hres _ _ _), hvars _ (fun _ _ => rfl), rfl, ?_, ?_⟩, ?_⟩
  · intro b off hp
    simp at hp
  · intro ha
    simp
  · intro p hp _
    simp at hp
theorem bounds {a : Int} (h : (Lit.int .i64 a).wf = true) : -9223372036854775808 ≤ a ∧ a ≤ 9223372036854775807 := by
  have h1 : IntKind.i64.min = -9223372036854775808 := by decide
  have h2 : IntKind.i64.max = 9223372036854775807 := by decide
  simp only [Lit.wf, Bool.and_eq_true, decide_eq_true_eq] at h
  rw [h1, h2] at h
  exact h
end
section
variable {H : Type} {enc : TypeId × Value → H} {P : Program}
theorem post_of_belowA {f : Func} {s : ChangeSpec} {apart fresh handsOn again : Bool} {W W' : World} {args : Array Value} {v : Value} {ds gs : List (DataW H)} {before : List MemPlace}
    (hW : DataW.Whole enc P f.params.toList s.vars apart W args.toList ds gs before)
    (hres : ∀ (b : Nat) (sp : Nat → Bool) (hd : Bool), DataW.TrodAll enc P W' b sp hd f.resultTypes.toList (v.resultList f.resultTypes.size) (s.fn H (ds ++ gs)).results [])
    (hargs : ∀ sp : Nat → Bool, (∀ p ∈ before, sp p.block = true) → DataW.TrodAll enc P W' 0 sp true f.params.toList args.toList (s.fn H (ds ++ gs)).args before)
    (hvars : ∀ sp : Nat → Bool, (∀ p ∈ before, sp p.block = true) → DataW.TrodVars enc P W' sp s.vars (s.fn H (ds ++ gs)).vars [])
    (hb : Below W.heap.size W W')
    (hok : ∀ (j : Nat) (t : TypeId) (r : Value), f.resultTypes[j]? = some t → (v.resultList f.resultTypes.size)[j]? = some r → Value.okWide P W' .any 0 t r) :
    s.post enc P f apart fresh handsOn again W args v W' := by
  have hlt : ∀ p ∈ before, p.block < W.heap.size := fun p hp => by simpa using hW.lt p hp
  have hold : ∀ p ∈ before, (fun b => decide (b < W.heap.size)) p.block = true := fun p hp => by simpa using hW.lt p hp
  refine ⟨ds, gs, before, [], before, [], hW, hres _ _ _, hargs _ hold, hvars _ hold, World.keptBut_mono (fun p hp => ⟨hp, ?_⟩) (hb.frame (· ∈ before)), fun _ => ?_⟩
  · exact Or.inr (Or.inl hp)
  · obtain ⟨_, _, _, _, _, hz, hn⟩ := hW
    refine ⟨hok, _, _, ([] ++ before) ++ [], ⟨[] ++ before, [], trodAll_append (hargs _ (fun _ _ => rfl)) (hres _ _ _), hvars _ (fun _ _ => rfl), rfl, ?_, ?_⟩, ?_⟩
    · intro b off hp
      have hp' : MemPlace.cell b off ∈ before := by simpa using hp
      rw [hb.frozen (hlt _ hp')]
      exact hz b off hp'
    · intro ha
      have := hn ha
      simpa using this
    · intro p hp _
      simpa using hp
end
theorem cells2 : Try.prog.cellsOf 2 = 1 := by kernel_rfl
/-- A slice of numbers, read in a world in which its cells hold them. -/
theorem ints_rd {H : Type} {enc : TypeId × Value → H} (W' : World) (sp : Nat → Bool) (a : Addr) (len cap : Nat) (z : List Int) (hl : len ≤ cap) (hm : cap ≤ maxLen) (hz : z.length = cap) (hcell : ∀ i, i < z.length → W'.cell? (a.add i) = some (.int .i64 (z.getD i 0))) (hwz : ∀ n ∈ z, (Lit.int .i64 n).wf = true) (hsp' : ∀ p ∈ MemPlace.row a z.length, sp p.block = true) :
    DataW.Trod enc Try.prog W' 0 sp true 42 (.slice (some a) len cap) (.slice (lits .i64 (z.take len)) (lits .i64 (z.drop len))) (MemPlace.row a z.length) := by
  by_cases hz0 : z.length = 0
  · have hc0 : cap = 0 := by omega
    have hl0 : len = 0 := by omega
    subst hc0; subst hl0
    have t0 := shut_ints (enc := enc) (w := W') (base := 0) (spare := sp) (held := true) (a := a) (len := 0) (cap := 0) (zs := z) 0 Try.underlying42 Try.underlying2 cells2 (Nat.zero_le _) (Nat.le_refl _) hm (by simp [hz0]) hcell hwz
    exact ⟨2, by simpa [Value.cells] using t0⟩
  · have hspb : sp a.block = true := hsp' (.cell a.block a.off) (MemPlace.mem_row.2 ⟨0, by omega, by simp⟩)
    have t0 := shut_ints (enc := enc) (w := W') (base := 0) (spare := sp) (held := true) (a := a) (len := len) (cap := cap) (zs := z) 0 Try.underlying42 Try.underlying2 cells2 (Nat.zero_le _) hl hm (by simp [hspb, hz]) hcell hwz
    exact ⟨2, by simpa [Value.cells] using t0⟩
theorem rdo_of (W : World) (a : Addr) (len cap : Nat) (z : List Int) (hl : len ≤ z.length) (hcell : ∀ i, i < z.length → W.cell? (a.add i) = some (.int .i64 (z.getD i 0))) (hlt : 0 < z.length → a.block < W.heap.size) :
    RdO W (.slice (some a) len cap) (z.take len) := by
  have hlen : (z.take len).length = len := by simp [hl]
  refine ⟨some a, cap, by rw [hlen], fun k hk => ?_⟩
  rw [hlen] at hk
  obtain ⟨b, off, spot⟩ := a
  have hspot : spot = none := by simpa [Addr.add] using World.cell?_spot (hcell 0 (by omega))
  subst hspot
  refine ⟨b, off, rfl, hlt (by omega), ?_⟩
  have := hcell k (by omega)
  rw [add_plain] at this
  rw [this]
  simp [hk]
theorem i64_of (z : List Int) (len : Nat) (hwz : ∀ n ∈ z, (Lit.int .i64 n).wf = true) : ∀ j, j < (z.take len).length → I64 ((z.take len).getD j 0) := by
  intro j hj
  have hmem : (z.take len).getD j 0 ∈ z := by
    rw [List.getD_eq_getElem?_getD, List.getElem?_eq_getElem hj]
    exact List.mem_of_mem_take (List.getElem_mem _)
  exact bounds (hwz _ hmem)
end Go.Proofs.Ytcfaammnkbkfcaa
