/- PairTerms, PairMoves: the reference. -/
import Derived.Test.YtcfaammnkbkfcaaN19
import Derived.Test.YtcfaammnkbkfcaaN20
set_option linter.unusedVariables false
set_option linter.unusedSimpArgs false
namespace Go.Proofs.Ytcfaammnkbkfcaa
open Go.RowKit


def am {α : Type} (ok : Bool) (gl : List Int) (l : List α) : List α := if cod (!ok) gl = 0 then l else []
set_option maxHeartbeats 2000000 in
theorem answer_any (B g : Nat) (ml : List (Int × Int)) (gl : List Int) (ok : Bool) (hgl : gl.length ≤ 1000000) (h64 : ∀ j, j < gl.length → I64 (gl.getD j 0)) (w : World) (hB : B ≤ w.heap.size) (hS : St w 178 B g ml gl ok) :
    Calls Try.prog 100 #[.pointer (some ⟨g, 0, none⟩)] w fun e w' => ∃ qm qg, e = .returned (.tuple #[qm, qg, .int .i64 (cod (!ok) gl)]) ∧ w'.ownsRow B 62 2 qm (am ok gl ml).length (mz (am ok gl ml)) ∧ w'.ownsRow B 2 1 qg (am ok gl gl).length (iz (am ok gl gl)) ∧ Below w.heap.size w w' := by
  have hend := end_any 178 B g ml gl ok hgl h64 w hS
  obtain ⟨mv, gv, hb, hm, hg⟩ := hS
  unfold am
  obtain ⟨kd, hkd⟩ : ∃ k, k = cod (!ok) gl := ⟨_, rfl⟩
  rw [← hkd] at hend ⊢
  clear hkd h64
  by_cases h0 : kd = 0
  · subst h0
    rw [if_pos rfl, if_pos rfl]
    obtain ⟨A, c, rfl⟩ := own_slice hm
    obtain ⟨A', c', rfl⟩ := own_slice hg
    have c0 : w.cell? ⟨g, 0, none⟩ = some (.slice A ml.length c) := hb.cell 0
    have c1 : w.cell? ⟨g, 1, none⟩ = some (.slice A' gl.length c') := hb.cell 1
    have HM := Lib.hid hm
    have HG := Lib.hid hg
    clear hm hg hb
    go_enter Try.func100, Try.ntmps100
    go_wp2_with (go_at_call 144; refine hend.mono ?_; rintro e w' ⟨rfl, rfl⟩)
    go_quiet (fail)
    go_wp2
    go_ret3
    exact ⟨_, _, rfl, HM.out.kept (row := none) ⟨rfl, rfl, rfl, Nat.le_refl _, fun _ _ _ => rfl⟩ (by cases A <;> simp [Value.ownBlock]), HG.out.kept (row := none) ⟨rfl, rfl, rfl, Nat.le_refl _, fun _ _ _ => rfl⟩ (by cases A' <;> simp [Value.ownBlock]), below_drewN (Below.refl _ _) _⟩
  · have hb0 : (kd != 0) = true := bne_iff_ne.2 h0
    rw [if_neg h0, if_neg h0]
    clear h0 hm hg hb
    go_enter Try.func100, Try.ntmps100
    go_wp2_with (go_at_call 144; refine hend.mono ?_; rintro e w' ⟨rfl, rfl⟩)
    go_ret3
    exact ⟨_, _, rfl, own_later (own_empty (Blk.new _ _ _) hB) (below_alloc (Below.refl _ _) _), own_empty (Blk.newAt (by simp) _ _) (by omega), below_alloc (below_alloc (Below.refl _ _) _) _⟩
theorem pcode_good {a b c d : Int} {ts : List Int} (hv : vtm ts = true) (hp : pok [a, b, c, d] = true) :
    pcode a b c d ts = cod (stopS (fin a b c d ts stopS)) (fin a b c d ts stopS).gl ∧ pterms a b c d ts = am (fin a b c d ts stopS).ok (fin a b c d ts stopS).gl (fin a b c d ts stopS).gl ∧ pmoves a b c d ts = am (fin a b c d ts stopS).ok (fin a b c d ts stopS).gl (fin a b c d ts stopS).ml := by
  have h := runs_alike (ts := ts) 9000 (ps0 a b c d)
  have h1 : pcode a b c d ts = cod (stopS (fin a b c d ts stopS)) (fin a b c d ts stopS).gl := by
    unfold pcode
    rw [if_pos hv, if_pos hp]
    exact h.1
  refine ⟨h1, ?_, ?_⟩
  · unfold pterms am
    rw [h1]
    change (if cod (stopS (fin a b c d ts stopS)) (fin a b c d ts stopS).gl = 0 then _ else _) = (if cod (stopS (fin a b c d ts stopS)) (fin a b c d ts stopS).gl = 0 then _ else _)
    rcases h.2 with e | e
    · unfold fin; rw [e]
    · change cod (stopS (fin a b c d ts stopS)) (fin a b c d ts stopS).gl = 3 at e
      rw [e, if_neg (by decide), if_neg (by decide)]
  · unfold pmoves am
    rw [h1]
    change (if cod (stopS (fin a b c d ts stopS)) (fin a b c d ts stopS).gl = 0 then _ else _) = (if cod (stopS (fin a b c d ts stopS)) (fin a b c d ts stopS).gl = 0 then _ else _)
    rcases h.2 with e | e
    · unfold fin; rw [e]
    · change cod (stopS (fin a b c d ts stopS)) (fin a b c d ts stopS).gl = 3 at e
      rw [e, if_neg (by decide), if_neg (by decide)]

set_option maxHeartbeats 4000000 in
theorem refPairTerms_any (a b c d : Int) (v : Value) (ts : List Int) (hlen : ts.length ≤ 1048576) (h64 : ∀ j, j < ts.length → I64 (ts.getD j 0)) (w : World) (hr : Rd w v ts) :
    Calls Try.prog 23 #[.agg #[.int .i64 a, .int .i64 b, .int .i64 c, .int .i64 d], v] w fun e w' => (∃ q, e = .returned (.tuple #[q, .int .i64 (pcode a b c d ts)]) ∧ w'.ownsRow w.heap.size 2 1 q (pterms a b c d ts).length (iz (pterms a b c d ts))) ∧ Below w.heap.size w w' := by
  have hb := below_alloc (Below.refl w.heap.size w) (.cells #[.int .i64 a, .int .i64 b, .int .i64 c, .int .i64 d] 45)
  have dp : Blk (w.alloc (.cells #[.int .i64 a, .int .i64 b, .int .i64 c, .int .i64 d] 45)) w.heap.size 45 #[.int .i64 a, .int .i64 b, .int .i64 c, .int .i64 d] := Blk.new _ _ _
  have hgv := given_any w.heap.size a b c d v ts hlen h64 _ dp (hr.later hb)
  by_cases hg : vtm ts = true ∧ pok [a, b, c, d] = true
  · obtain ⟨hv, hp⟩ := hg
    have hg0 : gcode a b c d ts = 0 := by unfold gcode; rw [if_pos hv, if_pos hp]
    rw [hg0] at hgv
    obtain ⟨hl40, h9⟩ := vtm_at hv
    obtain ⟨e1, e2, e3⟩ := pcode_good (a := a) (b := b) (c := c) (d := d) hv hp
    have hr1 := hr.later hb
    obtain ⟨A, cc, rfl, _⟩ := hr
    have hs := specRun a b c d ts A cc hl40 h9 (pok_at hp (j := 0) (by simp)) (pok_at hp (j := 1) (by simp)) (pok_at hp (j := 2) (by simp)) (pok_at hp (j := 3) (by simp)) _ (Rd.tm hr1)
    rw [e1, e2]
    obtain ⟨F, hF⟩ : ∃ F, F = fin a b c d ts stopS := ⟨_, rfl⟩
    rw [← hF] at hs ⊢
    obtain ⟨n, hn⟩ : ∃ n, n = ts.length := ⟨_, rfl⟩
    rw [← hn] at hs hgv ⊢
    clear e1 e2 e3 hF h9 hl40 h64 hr1 hg0 hv hp hlen hn dp
    go_enter Try.func23, Try.ntmps23
    go_wp2_with fail
    refine hgv.mono ?_
    rintro e w1 ⟨rfl, rfl⟩
    clear hgv
    go_wp2_with fail
    refine (by exact hs : Calls Try.prog 101 _ _ _).mono ?_
    rintro e w2 ⟨g, rfl, hg1, hI, hS, hb2⟩
    have h9m := hI.m9
    have hgm := hI.gm
    have hS2 : w.heap.size + 1 ≤ w2.heap.size := by have := hb2.size; simpa using this
    have hans := answer_any _ g F.ml F.gl F.ok (by omega) hI.g64 w2 hb2.size hS
    have hB2 := below_then hb hb2
    clear hs hS hb2 hI hg1
    go_wp2_with fail
    refine hans.mono ?_
    rintro e w3 ⟨qm, qg, rfl, o1, o2, hb3⟩
    have hB3 : Below w.heap.size w w3 := below_thenB hB2 hb3 (by omega)
    obtain ⟨A1, c1, rfl⟩ := own_slice o1
    obtain ⟨A2, c2, rfl⟩ := own_slice o2
    have o1 := own_mono o1 (base' := w.heap.size) (by simp)
    have o2 := own_mono o2 (base' := w.heap.size) (by simp)
    clear hans hB2 hb3 hb
    go_wp2
    go_ret2
    exact ⟨⟨_, rfl, o2⟩, hB3⟩
  · have hg0 : gcode a b c d ts ≠ 0 ∧ pcode a b c d ts = gcode a b c d ts := by
      unfold gcode pcode
      by_cases hv : vtm ts = true
      · have hp : ¬ pok [a, b, c, d] = true := fun h => hg ⟨hv, h⟩
        rw [if_pos hv, if_pos hv, if_neg hp, if_neg hp]
        exact ⟨by decide, rfl⟩
      · rw [if_neg hv, if_neg hv]
        exact ⟨by decide, rfl⟩
    have hl : pterms a b c d ts = [] := by unfold pterms; rw [if_neg (by rw [hg0.2]; exact hg0.1)]
    rw [hl, hg0.2]
    obtain ⟨kd, hkd⟩ : ∃ k, k = gcode a b c d ts := ⟨_, rfl⟩
    rw [← hkd] at hgv hg0 ⊢
    have hb0 : (kd != 0) = true := bne_iff_ne.2 hg0.1
    clear hg0 hl hkd hg h64 hlen hr dp
    go_enter Try.func23, Try.ntmps23
    go_wp2_with (go_at_call 99; refine hgv.mono ?_; rintro e w1 ⟨rfl, hw1⟩)
    subst hw1
    go_ret2
    exact ⟨⟨_, rfl, own_empty (Blk.newAt (by simp) _ _) (by simp)⟩, below_alloc hb _⟩

set_option maxHeartbeats 4000000 in
theorem refPairMoves_any (a b c d : Int) (v : Value) (ts : List Int) (hlen : ts.length ≤ 1048576) (h64 : ∀ j, j < ts.length → I64 (ts.getD j 0)) (w : World) (hr : Rd w v ts) :
    Calls Try.prog 30 #[.agg #[.int .i64 a, .int .i64 b, .int .i64 c, .int .i64 d], v] w fun e w' => (∃ q, e = .returned (.tuple #[q, .int .i64 (pcode a b c d ts)]) ∧ w'.ownsRow w.heap.size 62 2 q (pmoves a b c d ts).length (mz (pmoves a b c d ts))) ∧ Below w.heap.size w w' := by
  have hb := below_alloc (Below.refl w.heap.size w) (.cells #[.int .i64 a, .int .i64 b, .int .i64 c, .int .i64 d] 45)
  have dp : Blk (w.alloc (.cells #[.int .i64 a, .int .i64 b, .int .i64 c, .int .i64 d] 45)) w.heap.size 45 #[.int .i64 a, .int .i64 b, .int .i64 c, .int .i64 d] := Blk.new _ _ _
  have hgv := given_any w.heap.size a b c d v ts hlen h64 _ dp (hr.later hb)
  by_cases hg : vtm ts = true ∧ pok [a, b, c, d] = true
  · obtain ⟨hv, hp⟩ := hg
    have hg0 : gcode a b c d ts = 0 := by unfold gcode; rw [if_pos hv, if_pos hp]
    rw [hg0] at hgv
    obtain ⟨hl40, h9⟩ := vtm_at hv
    obtain ⟨e1, e2, e3⟩ := pcode_good (a := a) (b := b) (c := c) (d := d) hv hp
    have hr1 := hr.later hb
    obtain ⟨A, cc, rfl, _⟩ := hr
    have hs := specRun a b c d ts A cc hl40 h9 (pok_at hp (j := 0) (by simp)) (pok_at hp (j := 1) (by simp)) (pok_at hp (j := 2) (by simp)) (pok_at hp (j := 3) (by simp)) _ (Rd.tm hr1)
    rw [e1, e3]
    obtain ⟨F, hF⟩ : ∃ F, F = fin a b c d ts stopS := ⟨_, rfl⟩
    rw [← hF] at hs ⊢
    obtain ⟨n, hn⟩ : ∃ n, n = ts.length := ⟨_, rfl⟩
    rw [← hn] at hs hgv ⊢
    clear e1 e2 e3 hF h9 hl40 h64 hr1 hg0 hv hp hlen hn dp
    go_enter Try.func30, Try.ntmps30
    go_wp2_with fail
    refine hgv.mono ?_
    rintro e w1 ⟨rfl, rfl⟩
    clear hgv
    go_wp2_with fail
    refine (by exact hs : Calls Try.prog 101 _ _ _).mono ?_
    rintro e w2 ⟨g, rfl, hg1, hI, hS, hb2⟩
    have h9m := hI.m9
    have hgm := hI.gm
    have hS2 : w.heap.size + 1 ≤ w2.heap.size := by have := hb2.size; simpa using this
    have hans := answer_any _ g F.ml F.gl F.ok (by omega) hI.g64 w2 hb2.size hS
    have hB2 := below_then hb hb2
    clear hs hS hb2 hI hg1
    go_wp2_with fail
    refine hans.mono ?_
    rintro e w3 ⟨qm, qg, rfl, o1, o2, hb3⟩
    have hB3 : Below w.heap.size w w3 := below_thenB hB2 hb3 (by omega)
    obtain ⟨A1, c1, rfl⟩ := own_slice o1
    obtain ⟨A2, c2, rfl⟩ := own_slice o2
    have o1 := own_mono o1 (base' := w.heap.size) (by simp)
    have o2 := own_mono o2 (base' := w.heap.size) (by simp)
    clear hans hB2 hb3 hb
    go_wp2
    go_ret2
    exact ⟨⟨_, rfl, o1⟩, hB3⟩
  · have hg0 : gcode a b c d ts ≠ 0 ∧ pcode a b c d ts = gcode a b c d ts := by
      unfold gcode pcode
      by_cases hv : vtm ts = true
      · have hp : ¬ pok [a, b, c, d] = true := fun h => hg ⟨hv, h⟩
        rw [if_pos hv, if_pos hv, if_neg hp, if_neg hp]
        exact ⟨by decide, rfl⟩
      · rw [if_neg hv, if_neg hv]
        exact ⟨by decide, rfl⟩
    have hl : pmoves a b c d ts = [] := by unfold pmoves; rw [if_neg (by rw [hg0.2]; exact hg0.1)]
    rw [hl, hg0.2]
    obtain ⟨kd, hkd⟩ : ∃ k, k = gcode a b c d ts := ⟨_, rfl⟩
    rw [← hkd] at hgv hg0 ⊢
    have hb0 : (kd != 0) = true := bne_iff_ne.2 hg0.1
    clear hg0 hl hkd hg h64 hlen hr dp
    go_enter Try.func30, Try.ntmps30
    go_wp2_with (go_at_call 99; refine hgv.mono ?_; rintro e w1 ⟨rfl, hw1⟩)
    subst hw1
    go_ret2
    exact ⟨⟨_, rfl, own_empty (Blk.newAt (by simp) _ _) (by simp)⟩, below_alloc hb _⟩
end Go.Proofs.Ytcfaammnkbkfcaa
