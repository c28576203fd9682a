/- The law of PairMoves: a walk. -/
import Derived.Test.YtcfaammnkbkfcaaN25
set_option linter.unusedVariables false
set_option linter.unusedSimpArgs false
namespace Go.Proofs.Ytcfaammnkbkfcaa
open Go.RowKit


theorem run_inv {stop : Ps → Bool} {ts : List Int} (hst : ∀ s, ¬ stop s = true → s.ok = true) : ∀ (n : Nat) (s : Ps), Inv ts s → Inv ts (run stop ts n s)
  | 0, s, h => h
  | n + 1, s, h => by
    by_cases hs : stop s = true
    · rw [run_stop hs]; exact h
    · cases hp : stp ts s with
      | none => rw [run_none hp]; exact h
      | some s' => rw [run_some hs hp]; exact run_inv hst n s' (h.step (hst s hs) hp).1
theorem pmoves_len (a b c d : Int) (ts : List Int) : (pmoves a b c d ts).length ≤ 1048576 := by
  unfold pmoves
  split
  · rename_i h
    unfold pcode at h
    split at h
    · rename_i hv
      split at h
      · rename_i hp
        have h0 := pok_at hp (j := 0) (by simp)
        have h1 := pok_at hp (j := 1) (by simp)
        have h2 := pok_at hp (j := 2) (by simp)
        have h3 := pok_at hp (j := 3) (by simp)
        simp at h0 h1 h2 h3
        have hI : Inv ts (ps0 a b c d) := Inv.start (vtm_at hv).1 (by omega) (by omega) (by omega) (by omega)
        have := (run_inv (stop := stopI) (fun s hs => stop_ok (by simpa using hs)) 9000 _ hI).m9
        unfold fin
        omega
      · cases h
    · cases h
  · simp
set_option maxHeartbeats 1000000 in
theorem lawPM_long (a b c d : Int) (v : Value) (l : List Int) (hl : 1048576 < l.length) (hl2 : l.length ≤ 9223372036854775807) (w : World) (h : RdO w v l) :
    Calls Try.prog 6 #[.agg #[.int .i64 a, .int .i64 b, .int .i64 c, .int .i64 d], v] w fun e w' => e = .returned (.bool true) ∧ Below w.heap.size w w' := by
  obtain ⟨A, cc, rfl, _⟩ := h
  obtain ⟨n, hn⟩ : ∃ n, n = l.length := ⟨_, rfl⟩
  rw [← hn] at hl hl2 ⊢
  clear hn
  go_enter Try.func6, Try.ntmps6
  go_wp2
  go_ret
  exact ⟨rfl, below_alloc (Below.refl _ _) _⟩
set_option maxHeartbeats 8000000 in
set_option maxRecDepth 100000 in
theorem lawPM_short (a b c d : Int) (v : Value) (l : List Int) (hl : l.length ≤ 1048576) (h64 : ∀ j, j < l.length → I64 (l.getD j 0)) (w : World) (h : RdO w v l) :
    Calls Try.prog 6 #[.agg #[.int .i64 a, .int .i64 b, .int .i64 c, .int .i64 d], v] w fun e w' => e = .returned (.bool true) ∧ Below w.heap.size w w' := by
  have hpl := pmoves_len a b c d l
  obtain ⟨P, hP⟩ : ∃ P, P = pmoves a b c d l := ⟨_, rfl⟩
  obtain ⟨K, hK⟩ : ∃ P, P = pcode a b c d l := ⟨_, rfl⟩
  have hspec := fun v w hr => refPairMoves_any a b c d v l hl h64 w hr
  have himpl := fun v w hr => pairMoves_any a b c d v l hl w hr
  have hto := fun w hr => toIntsO_any v l hl w hr
  rw [← hP] at hpl
  simp only [← hP, ← hK] at hspec himpl
  have HS := Lib.hid hspec
  have HI := Lib.hid himpl
  have HTO := Lib.hid hto
  have HX := Lib.hid h
  have b1 : (K != K) = false := by simp
  clear hspec himpl hto h64 hP hK
  obtain ⟨A, cc, rfl, _⟩ := h
  obtain ⟨n, hn⟩ : ∃ n, n = l.length := ⟨_, rfl⟩
  have HN := Lib.hid hn
  have HL := Lib.hid hl
  rw [← hn] at hl
  rw [← hn] at HX HTO ⊢
  clear hn
  have dB := below_alloc (Below.refl w.heap.size w) (.cells #[.int .i64 a, .int .i64 b, .int .i64 c, .int .i64 d] 41)
  have d0 : Blk (w.alloc (.cells #[.int .i64 a, .int .i64 b, .int .i64 c, .int .i64 d] 41)) w.heap.size 41 #[.int .i64 a, .int .i64 b, .int .i64 c, .int .i64 d] := Blk.new _ _ _
  have hBx : w.heap.size ≤ (w.alloc (.cells #[.int .i64 a, .int .i64 b, .int .i64 c, .int .i64 d] 41)).heap.size := by simp
  obtain ⟨bs, hbs⟩ : ∃ b, b = w.heap.size := ⟨_, rfl⟩
  have hx : ∀ w', Below bs w w' → RdO w' (.slice A n cc) l := fun w' hb => HX.out.below (by rw [← hbs]; exact hb)
  have HXX := Lib.hid hx
  clear hx
  go_enter Try.func6, Try.ntmps6
  go_wp2_with fail
  refine (toPair_any a b c d _).mono ?_
  rintro e w1 ⟨rfl, hb⟩
  rw [← hbs] at d0 dB hBx; (try rw [← hbs])
  replace d0 := d0.later hb
  replace dB := below_thenB dB hb hBx
  replace hBx := Nat.le_trans hBx hb.size
  clear hb
  have HBS := Lib.hid hbs
  clear hbs
  go_wp2_with fail
  refine (HTO.out _ (HXX.out _ dB)).mono ?_
  rintro e w2 ⟨x1, rfl, oA, hb⟩
  rw [HN.out] at oA
  replace d0 := d0.later hb
  replace dB := below_thenB dB hb hBx
  replace hBx := Nat.le_trans hBx hb.size
  clear hb
  go_wp2_with fail
  refine (HS.out _ _ (Rd.of_own oA)).mono ?_
  rintro e w3 ⟨⟨t5, rfl, o5⟩, hb⟩
  replace d0 := d0.later hb
  replace dB := below_thenB dB hb hBx
  replace hBx := Nat.le_trans hBx hb.size
  clear hb
  clear oA
  have b5 := hBx
  replace b5 := Nat.le_refl bs
  go_wp2_with fail
  refine (HTO.out _ (HXX.out _ dB)).mono ?_
  rintro e w4 ⟨t7, rfl, o7, hb⟩
  rw [HN.out] at o7; have a57 := own_apart o5 o7 (Nat.le_refl _); have b7 := hBx
  replace d0 := d0.later hb
  replace o5 := own_later o5 hb
  replace dB := below_thenB dB hb hBx
  replace hBx := Nat.le_trans hBx hb.size
  clear hb
  have q0 : w4.cell? ⟨bs, 0, none⟩ = some (.int .i64 a) := d0.cell 0
  have q1 : w4.cell? ⟨bs, 1, none⟩ = some (.int .i64 b) := d0.cell 1
  have q2 : w4.cell? ⟨bs, 2, none⟩ = some (.int .i64 c) := d0.cell 2
  have q3 : w4.cell? ⟨bs, 3, none⟩ = some (.int .i64 d) := d0.cell 3
  go_wp2_with fail
  refine (toPair_any a b c d _).mono ?_
  rintro e w5 ⟨rfl, hb⟩
  replace d0 := d0.later hb
  replace o5 := own_later o5 hb
  replace o7 := own_later o7 hb
  replace dB := below_thenB dB hb hBx
  replace hBx := Nat.le_trans hBx hb.size
  clear hb
  clear q0 q1 q2 q3
  go_wp2_with fail
  refine (HI.out _ _ (Rd.of_own o7)).mono ?_
  rintro e w6 ⟨⟨t8, rfl, o8⟩, hb⟩
  have a58 := own_apart o5 o8 (Nat.le_refl _); have a78 := own_apart o7 o8 (Nat.le_refl _); have b8 := hBx
  replace d0 := d0.later hb
  replace o5 := own_later o5 hb
  replace o7 := own_later o7 hb
  replace dB := below_thenB dB hb hBx
  replace hBx := Nat.le_trans hBx hb.size
  clear hb
  go_wp2_with fail
  refine (eqMoves_yes _ _ P hpl _ (RdM.of_own o8) (RdM.of_own o5)).mono ?_
  rintro e w7 ⟨rfl, hb⟩
  replace d0 := d0.later hb
  replace o5 := own_later o5 hb
  replace o7 := own_later o7 hb
  replace o8 := own_later o8 hb
  replace dB := below_thenB dB hb hBx
  replace hBx := Nat.le_trans hBx hb.size
  clear hb
  go_wp2_with fail
  refine (HTO.out _ (HXX.out _ dB)).mono ?_
  rintro e w8 ⟨tA, rfl, oA, hb⟩
  rw [HN.out] at oA
  replace d0 := d0.later hb
  replace o5 := own_later o5 hb
  replace o7 := own_later o7 hb
  replace o8 := own_later o8 hb
  replace dB := below_thenB dB hb hBx
  replace hBx := Nat.le_trans hBx hb.size
  clear hb
  go_wp2_with fail
  refine (eqInts_yes _ _ l HL.out _ (Rd.of_own o7) (Rd.of_own oA)).mono ?_
  rintro e w9 ⟨rfl, hdr⟩
  have hb := hdr.below; clear hdr oA
  replace d0 := d0.later hb
  replace o5 := own_later o5 hb
  replace o7 := own_later o7 hb
  replace o8 := own_later o8 hb
  replace dB := below_thenB dB hb hBx
  replace hBx := Nat.le_trans hBx hb.size
  clear hb
  have a87 : t8.ownBlock = none ∨ t8.ownBlock ≠ t7.ownBlock := a78.elim (fun h => by cases h8 : t8.ownBlock <;> simp [h]) (fun h => .inr (Ne.symm h))
  have hgr0 := o7
  go_wp2_with fail
  refine (calls_args (args := #[t7, .int .i64 1]) rfl (markInts_any _ t7 l 1 (by decide) HL.out _ o7)).mono ?_
  rintro e w10 ⟨rfl, hm, hgr⟩
  replace d0 := d0.grown hgr (own_blk_ne o7 d0 (by decide))
  replace o5 := o5.kept hgr a57
  replace o8 := o8.kept hgr a87
  replace dB := dB.grown hgr hBx (fun k hk => Nat.le_trans b7 (own_base o7 k hk))
  replace hBx := Nat.le_trans hBx hgr.size
  replace o7 := hm
  clear hm hgr hgr0
  go_wp2_with fail
  refine (eqMoves_yes _ _ P hpl _ (RdM.of_own o8) (RdM.of_own o5)).mono ?_
  rintro e w11 ⟨rfl, hb⟩
  replace d0 := d0.later hb
  replace o5 := own_later o5 hb
  replace o7 := own_later o7 hb
  replace o8 := own_later o8 hb
  replace dB := below_thenB dB hb hBx
  replace hBx := Nat.le_trans hBx hb.size
  clear hb
  have a85 : t5.ownBlock = none ∨ t5.ownBlock ≠ t8.ownBlock := a58
  have hgr0 := o8
  go_wp2_with fail
  refine (calls_args (args := #[t8, .int .i64 1]) rfl (markMoves_any _ t8 P 1 (by decide) hpl _ o8)).mono ?_
  rintro e w12 ⟨rfl, hm, hgr⟩
  replace d0 := d0.grown hgr (own_blk_ne o8 d0 (by decide))
  replace o5 := o5.kept hgr a58
  replace o7 := o7.kept hgr a78
  replace dB := dB.grown hgr hBx (fun k hk => Nat.le_trans b8 (own_base o8 k hk))
  replace hBx := Nat.le_trans hBx hgr.size
  replace o8 := hm
  clear hm hgr hgr0
  go_wp2_with fail
  refine (calls_args (args := #[t8, .int .i64 1]) rfl (heldMoves_any t8 1 P.length (by decide) hpl _ (RdM.of_own (l := mkM 1 P.length) (by rw [mkM_len]; exact o8)))).mono ?_
  rintro e wh ⟨rfl, rfl⟩
  clear o7 a57 a78 a87
  have q0 : w12.cell? ⟨bs, 0, none⟩ = some (.int .i64 a) := d0.cell 0
  have q1 : w12.cell? ⟨bs, 1, none⟩ = some (.int .i64 b) := d0.cell 1
  have q2 : w12.cell? ⟨bs, 2, none⟩ = some (.int .i64 c) := d0.cell 2
  have q3 : w12.cell? ⟨bs, 3, none⟩ = some (.int .i64 d) := d0.cell 3
  go_wp2_with fail
  refine (toPair_any a b c d _).mono ?_
  rintro e w13 ⟨rfl, hb⟩
  replace d0 := d0.later hb
  replace o5 := own_later o5 hb
  replace o8 := own_later o8 hb
  replace dB := below_thenB dB hb hBx
  replace hBx := Nat.le_trans hBx hb.size
  clear hb
  clear q0 q1 q2 q3
  go_wp2_with fail
  refine (HTO.out _ (HXX.out _ dB)).mono ?_
  rintro e w14 ⟨tB, rfl, oB, hb⟩
  rw [HN.out] at oB
  replace d0 := d0.later hb
  replace o5 := own_later o5 hb
  replace o8 := own_later o8 hb
  replace dB := below_thenB dB hb hBx
  replace hBx := Nat.le_trans hBx hb.size
  clear hb
  go_wp2_with fail
  refine (HI.out _ _ (Rd.of_own oB)).mono ?_
  rintro e w15 ⟨⟨t13, rfl, o13⟩, hb⟩
  replace d0 := d0.later hb
  replace o5 := own_later o5 hb
  replace o8 := own_later o8 hb
  replace dB := below_thenB dB hb hBx
  replace hBx := Nat.le_trans hBx hb.size
  clear hb
  clear oB
  go_wp2_with fail
  refine (eqMoves_yes _ _ P hpl _ (RdM.of_own o13) (RdM.of_own o5)).mono ?_
  rintro e w16 ⟨rfl, hb⟩
  replace d0 := d0.later hb
  replace o5 := own_later o5 hb
  replace o8 := own_later o8 hb
  replace dB := below_thenB dB hb hBx
  replace hBx := Nat.le_trans hBx hb.size
  clear hb
  clear o13
  go_wp2_with fail
  refine (calls_args (args := #[t8, .int .i64 1]) rfl (heldMoves_any t8 1 P.length (by decide) hpl _ (RdM.of_own (l := mkM 1 P.length) (by rw [mkM_len]; exact o8)))).mono ?_
  rintro e wh ⟨rfl, rfl⟩
  go_wp2
  go_ret
  exact ⟨rfl, by rw [← HBS.out]; exact dB⟩
end Go.Proofs.Ytcfaammnkbkfcaa
