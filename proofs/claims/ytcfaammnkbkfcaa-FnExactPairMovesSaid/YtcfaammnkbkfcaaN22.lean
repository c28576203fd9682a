/- The law of PairTerms: a walk. -/
import Derived.Test.YtcfaammnkbkfcaaN21
set_option linter.unusedVariables false
set_option linter.unusedSimpArgs false
namespace Go.Proofs.Ytcfaammnkbkfcaa
open Go.RowKit


/-- A slice that may begin within a row reads as a list of numbers. -/
def RdO (w : World) (v : Value) (l : List Int) : Prop := ∃ A c, v = .slice A l.length c ∧ ∀ k, k < l.length → ∃ b off, A = some ⟨b, off, none⟩ ∧ b < w.heap.size ∧ w.cell? ⟨b, off + k, none⟩ = some (.int .i64 (l.getD k 0))
theorem RdO.below {w w' : World} {v : Value} {l : List Int} (h : RdO w v l) (hb : Below w.heap.size w w') : RdO w' v l := by
  obtain ⟨A, c, hv, hr⟩ := h
  refine ⟨A, c, hv, fun k hk => ?_⟩
  obtain ⟨b, off, hA, hlt, hx⟩ := hr k hk
  exact ⟨b, off, hA, Nat.lt_of_lt_of_le hlt hb.size, (hb.cell (p := ⟨b, off + k, none⟩) hlt).trans hx⟩
set_option maxHeartbeats 2000000 in
theorem toIntsO_any (v : Value) (l : List Int) (hlen : l.length ≤ 1048576) (w : World) (hr : RdO w v l) :
    Calls Try.prog 25 #[v] w fun e w' => ∃ q, e = .returned q ∧ w'.ownsRow w.heap.size 2 1 q l.length (iz l) ∧ Below w.heap.size w w' := by
  obtain ⟨A, c, rfl, hr⟩ := hr
  obtain ⟨n, hn⟩ : ∃ n, n = l.length := ⟨_, rfl⟩
  rw [← hn] at hlen ⊢
  have hk := hr
  rw [← hn] at hk
  have HK := Lib.hid hk
  have HN := Lib.hid hn
  obtain ⟨i0, hi, hz0, hz1, hz2⟩ := info_parts info2
  clear hk hr hn
  go_enter Try.func25, Try.ntmps25
  go_upto_region 2 with (at_make; refine wpList_make_full _ rfl _ _ 42 rfl w.heap.size 2 i0 (.int .i64 0) 1 Try.underlying42 hi hz0 hz1 _ _ _ _ n rfl rfl rfl rfl (by rw [hz2]; omega) (by simp only [maxLen]; omega) (Nat.le_refl _) ?_; intro w1 hown hgr)
  rw [iz_zero] at hown
  have hB : Below w.heap.size w w1 := ⟨hgr.os, hgr.tape, hgr.output, hgr.size, fun i hi => hgr.block i hi (by simp)⟩
  clear hgr hi hz0 hz1 hz2
  obtain ⟨G, hG⟩ : ∃ G, G = w.heap.size := ⟨_, rfl⟩
  rw [← hG] at hown hB ⊢
  have HG := Lib.hid hG
  clear hG
  go_wp2_with fail
  go_loopw [4] (fun i wr => ∃ (k : Nat) (xs : List Int), k ≤ n ∧ i = .int .i64 k ∧ xs.length = n ∧ (∀ j, j < k → xs.getD j 0 = l.getD j 0) ∧ wr.ownsRow G 2 1 (.slice (some ⟨G, 0, none⟩) n n) n (iz xs) ∧ Below G w wr) (fun i _ => n - (intOf i).toNat)
  case atStart => exact ⟨0, _, by omega, rfl, by simp, fun j hj => by omega, hown, hB⟩
  case round =>
    clear hown hB
    obtain ⟨k, xs, hk, rfl, hx, hall, hown, hB⟩ := hrel
    have HX := Lib.hid hx
    have HA := Lib.hid hall
    clear hx hall
    by_cases hlt : k < n
    · obtain ⟨g, off, rfl, hg, hcell⟩ := HK.out k hlt
      obtain ⟨x, hx⟩ : ∃ x, x = l.getD k 0 := ⟨_, rfl⟩
      rw [← hx] at hcell
      have HXX := Lib.hid hx
      clear hx
      have hcell2 := (hB.cell (p := ⟨g, off + k, none⟩) (by rw [HG.out]; exact hg)).trans hcell
      have hco := (hown.cellAt k (by omega)).trans (iz_at xs k (by rw [HX.out]; exact hlt))
      have hfo := hown.frozenAt k
      have hst := (hown.stored k (.int .i64 x)).1
      rw [iz_set] at hst
      have hb2 := below_set hB (a := ⟨G, k, none⟩) (Nat.le_refl _) (.int .i64 x)
      clear hown hB hcell hg
      go_wp2_with fail
      go_roundw
      case rel => exact ⟨k + 1, xs.set k x, by omega, by go_num, by rw [List.length_set]; exact HX.out, fun j hj => by
        by_cases e : j = k
        · subst e; rw [← HXX.out]; simp [HX.out, hlt]
        · rw [← HA.out j (by omega)]; simp [List.getElem?_set, Ne.symm e], hst, hb2⟩
      case measure => simp [intOf] <;> omega
    · obtain rfl : k = n := by omega
      have he : xs = l := ext_getD (by rw [HX.out, HN.out]) (fun j hj => HA.out j (by rw [← HX.out]; exact hj))
      subst he
      go_wp2
      go_ret
      exact ⟨_, rfl, by rw [← HG.out]; exact hown, by rw [← HG.out]; exact hB⟩

set_option maxHeartbeats 1000000 in
theorem toPair_any (a b c d : Int) (w : World) : Calls Try.prog 24 #[.agg #[.int .i64 a, .int .i64 b, .int .i64 c, .int .i64 d]] w fun e w' => e = .returned (.agg #[.int .i64 a, .int .i64 b, .int .i64 c, .int .i64 d]) ∧ Below w.heap.size w w' := by
  go_enter Try.func24, Try.ntmps24
  go_wp2
  refine bodyPost_ret (v := .agg #[.int .i64 a, .int .i64 b, .int .i64 c, .int .i64 d]) (by simp [results, Try.results24, go_sem]) rfl ⟨rfl, ?_⟩
  exact below_alloc (below_alloc (below_alloc (Below.refl _ _) _) _) _
theorem eqInts_yes (v u : Value) (l : List Int) (hl : l.length ≤ 1048576) (w : World) (hr : Rd w v l) (hu : Rd w u l) : Calls Try.prog 27 #[v, u] w fun e w' => e = .returned (.bool true) ∧ Drw w w' := by
  have := eqInts_any v u l l hl hl w hr hu
  rwa [decide_eq_true rfl] at this
theorem own_apart {w w' : World} {base base' n n' : Nat} {e e' : TypeId} {size size' : Nat} {v v' : Value} {xs xs' : List Value} (h : w.ownsRow base e size v n xs) (h' : w'.ownsRow base' e' size' v' n' xs') (hb : w.heap.size ≤ base') : v.ownBlock = none ∨ v.ownBlock ≠ v'.ownBlock := by
  cases hv : v.ownBlock with
  | none => exact .inl rfl
  | some k =>
    right
    intro e
    have h1 := (h.lt k hv).2
    have h2 := own_base h' k e.symm
    omega
theorem cod_zero {ov : Bool} {gl : List Int} (h : cod ov gl = 0) : vtm gl = true := by
  unfold cod at h
  split at h
  · cases h
  · split at h
    · cases h
    · split at h
      · assumption
      · cases h
theorem pterms_len (a b c d : Int) (ts : List Int) : (pterms a b c d ts).length ≤ 1048576 := by
  unfold pterms
  split
  · rename_i h
    unfold pcode at h
    split at h
    · split at h
      · have := (vtm_at (cod_zero h)).1
        omega
      · cases h
    · cases h
  · simp
set_option maxHeartbeats 1000000 in
theorem lawPT_long (a b c d : Int) (v : Value) (l : List Int) (hl : 1048576 < l.length) (hl2 : l.length ≤ 9223372036854775807) (w : World) (h : RdO w v l) :
    Calls Try.prog 5 #[.agg #[.int .i64 a, .int .i64 b, .int .i64 c, .int .i64 d], v] w fun e w' => e = .returned (.bool true) ∧ Below w.heap.size w w' := by
  obtain ⟨A, cc, rfl, _⟩ := h
  obtain ⟨n, hn⟩ : ∃ n, n = l.length := ⟨_, rfl⟩
  rw [← hn] at hl hl2 ⊢
  clear hn
  go_enter Try.func5, Try.ntmps5
  go_wp2
  go_ret
  exact ⟨rfl, below_alloc (Below.refl _ _) _⟩
set_option maxHeartbeats 8000000 in
set_option maxRecDepth 100000 in
theorem lawPT_short (a b c d : Int) (v : Value) (l : List Int) (hl : l.length ≤ 1048576) (h64 : ∀ j, j < l.length → I64 (l.getD j 0)) (w : World) (h : RdO w v l) :
    Calls Try.prog 5 #[.agg #[.int .i64 a, .int .i64 b, .int .i64 c, .int .i64 d], v] w fun e w' => e = .returned (.bool true) ∧ Below w.heap.size w w' := by
  have hpl := pterms_len a b c d l
  obtain ⟨P, hP⟩ : ∃ P, P = pterms a b c d l := ⟨_, rfl⟩
  obtain ⟨K, hK⟩ : ∃ P, P = pcode a b c d l := ⟨_, rfl⟩
  have hspec := fun v w hr => refPairTerms_any a b c d v l hl h64 w hr
  have himpl := fun v w hr => pairTerms_any a b c d v l hl w hr
  have hto := fun w hr => toIntsO_any v l hl w hr
  rw [← hP] at hpl
  simp only [← hP, ← hK] at hspec himpl
  have HS := Lib.hid hspec
  have HI := Lib.hid himpl
  have HTO := Lib.hid hto
  have HX := Lib.hid h
  have b1 : (K != K) = false := by simp
  clear hspec himpl hto h64 hP hK
  obtain ⟨A, cc, rfl, _⟩ := h
  obtain ⟨n, hn⟩ : ∃ n, n = l.length := ⟨_, rfl⟩
  have HN := Lib.hid hn
  have HL := Lib.hid hl
  rw [← hn] at hl
  rw [← hn] at HX HTO ⊢
  clear hn
  have dB := below_alloc (Below.refl w.heap.size w) (.cells #[.int .i64 a, .int .i64 b, .int .i64 c, .int .i64 d] 41)
  have d0 : Blk (w.alloc (.cells #[.int .i64 a, .int .i64 b, .int .i64 c, .int .i64 d] 41)) w.heap.size 41 #[.int .i64 a, .int .i64 b, .int .i64 c, .int .i64 d] := Blk.new _ _ _
  have hBx : w.heap.size ≤ (w.alloc (.cells #[.int .i64 a, .int .i64 b, .int .i64 c, .int .i64 d] 41)).heap.size := by simp
  obtain ⟨bs, hbs⟩ : ∃ b, b = w.heap.size := ⟨_, rfl⟩
  have hx : ∀ w', Below bs w w' → RdO w' (.slice A n cc) l := fun w' hb => HX.out.below (by rw [← hbs]; exact hb)
  have HXX := Lib.hid hx
  clear hx
  go_enter Try.func5, Try.ntmps5
  go_wp2_with fail
  refine (toPair_any a b c d _).mono ?_
  rintro e w1 ⟨rfl, hb⟩
  rw [← hbs] at d0 dB hBx; (try rw [← hbs])
  replace d0 := d0.later hb
  replace dB := below_thenB dB hb hBx
  replace hBx := Nat.le_trans hBx hb.size
  clear hb
  have HBS := Lib.hid hbs
  clear hbs
  go_wp2_with fail
  refine (HTO.out _ (HXX.out _ dB)).mono ?_
  rintro e w2 ⟨x1, rfl, oA, hb⟩
  rw [HN.out] at oA
  replace d0 := d0.later hb
  replace dB := below_thenB dB hb hBx
  replace hBx := Nat.le_trans hBx hb.size
  clear hb
  go_wp2_with fail
  refine (HS.out _ _ (Rd.of_own oA)).mono ?_
  rintro e w3 ⟨⟨t5, rfl, o5⟩, hb⟩
  replace d0 := d0.later hb
  replace dB := below_thenB dB hb hBx
  replace hBx := Nat.le_trans hBx hb.size
  clear hb
  clear oA
  have b5 := hBx
  replace b5 := Nat.le_refl bs
  go_wp2_with fail
  refine (HTO.out _ (HXX.out _ dB)).mono ?_
  rintro e w4 ⟨t7, rfl, o7, hb⟩
  rw [HN.out] at o7; have a57 := own_apart o5 o7 (Nat.le_refl _); have b7 := hBx
  replace d0 := d0.later hb
  replace o5 := own_later o5 hb
  replace dB := below_thenB dB hb hBx
  replace hBx := Nat.le_trans hBx hb.size
  clear hb
  have q0 : w4.cell? ⟨bs, 0, none⟩ = some (.int .i64 a) := d0.cell 0
  have q1 : w4.cell? ⟨bs, 1, none⟩ = some (.int .i64 b) := d0.cell 1
  have q2 : w4.cell? ⟨bs, 2, none⟩ = some (.int .i64 c) := d0.cell 2
  have q3 : w4.cell? ⟨bs, 3, none⟩ = some (.int .i64 d) := d0.cell 3
  go_wp2_with fail
  refine (toPair_any a b c d _).mono ?_
  rintro e w5 ⟨rfl, hb⟩
  replace d0 := d0.later hb
  replace o5 := own_later o5 hb
  replace o7 := own_later o7 hb
  replace dB := below_thenB dB hb hBx
  replace hBx := Nat.le_trans hBx hb.size
  clear hb
  clear q0 q1 q2 q3
  go_wp2_with fail
  refine (HI.out _ _ (Rd.of_own o7)).mono ?_
  rintro e w6 ⟨⟨t8, rfl, o8⟩, hb⟩
  have a58 := own_apart o5 o8 (Nat.le_refl _); have a78 := own_apart o7 o8 (Nat.le_refl _); have b8 := hBx
  replace d0 := d0.later hb
  replace o5 := own_later o5 hb
  replace o7 := own_later o7 hb
  replace dB := below_thenB dB hb hBx
  replace hBx := Nat.le_trans hBx hb.size
  clear hb
  go_wp2_with fail
  refine (eqInts_yes _ _ P hpl _ (Rd.of_own o8) (Rd.of_own o5)).mono ?_
  rintro e w7 ⟨rfl, hdr⟩
  have hb := hdr.below; clear hdr
  replace d0 := d0.later hb
  replace o5 := own_later o5 hb
  replace o7 := own_later o7 hb
  replace o8 := own_later o8 hb
  replace dB := below_thenB dB hb hBx
  replace hBx := Nat.le_trans hBx hb.size
  clear hb
  go_wp2_with fail
  refine (HTO.out _ (HXX.out _ dB)).mono ?_
  rintro e w8 ⟨tA, rfl, oA, hb⟩
  rw [HN.out] at oA
  replace d0 := d0.later hb
  replace o5 := own_later o5 hb
  replace o7 := own_later o7 hb
  replace o8 := own_later o8 hb
  replace dB := below_thenB dB hb hBx
  replace hBx := Nat.le_trans hBx hb.size
  clear hb
  go_wp2_with fail
  refine (eqInts_yes _ _ l HL.out _ (Rd.of_own o7) (Rd.of_own oA)).mono ?_
  rintro e w9 ⟨rfl, hdr⟩
  have hb := hdr.below; clear hdr oA
  replace d0 := d0.later hb
  replace o5 := own_later o5 hb
  replace o7 := own_later o7 hb
  replace o8 := own_later o8 hb
  replace dB := below_thenB dB hb hBx
  replace hBx := Nat.le_trans hBx hb.size
  clear hb
  have a87 : t8.ownBlock = none ∨ t8.ownBlock ≠ t7.ownBlock := a78.elim (fun h => by cases h8 : t8.ownBlock <;> simp [h]) (fun h => .inr (Ne.symm h))
  have hgr0 := o7
  go_wp2_with fail
  refine (calls_args (args := #[t7, .int .i64 1]) rfl (markInts_any _ t7 l 1 (by decide) HL.out _ o7)).mono ?_
  rintro e w10 ⟨rfl, hm, hgr⟩
  replace d0 := d0.grown hgr (own_blk_ne o7 d0 (by decide))
  replace o5 := o5.kept hgr a57
  replace o8 := o8.kept hgr a87
  replace dB := dB.grown hgr hBx (fun k hk => Nat.le_trans b7 (own_base o7 k hk))
  replace hBx := Nat.le_trans hBx hgr.size
  replace o7 := hm
  clear hm hgr hgr0
  go_wp2_with fail
  refine (eqInts_yes _ _ P hpl _ (Rd.of_own o8) (Rd.of_own o5)).mono ?_
  rintro e w11 ⟨rfl, hdr⟩
  have hb := hdr.below; clear hdr
  replace d0 := d0.later hb
  replace o5 := own_later o5 hb
  replace o7 := own_later o7 hb
  replace o8 := own_later o8 hb
  replace dB := below_thenB dB hb hBx
  replace hBx := Nat.le_trans hBx hb.size
  clear hb
  have a85 : t5.ownBlock = none ∨ t5.ownBlock ≠ t8.ownBlock := a58
  have hgr0 := o8
  go_wp2_with fail
  refine (calls_args (args := #[t8, .int .i64 1]) rfl (markInts_any _ t8 P 1 (by decide) hpl _ o8)).mono ?_
  rintro e w12 ⟨rfl, hm, hgr⟩
  replace d0 := d0.grown hgr (own_blk_ne o8 d0 (by decide))
  replace o5 := o5.kept hgr a58
  replace o7 := o7.kept hgr a78
  replace dB := dB.grown hgr hBx (fun k hk => Nat.le_trans b8 (own_base o8 k hk))
  replace hBx := Nat.le_trans hBx hgr.size
  replace o8 := hm
  clear hm hgr hgr0
  go_wp2_with fail
  refine (calls_args (args := #[t8, .int .i64 1]) rfl (heldInts_any t8 1 P.length (by decide) hpl _ (Rd.of_own (l := mk 1 P.length) (by rw [mk_len]; exact o8)))).mono ?_
  rintro e wh ⟨rfl, rfl⟩
  clear o7 a57 a78 a87
  have q0 : w12.cell? ⟨bs, 0, none⟩ = some (.int .i64 a) := d0.cell 0
  have q1 : w12.cell? ⟨bs, 1, none⟩ = some (.int .i64 b) := d0.cell 1
  have q2 : w12.cell? ⟨bs, 2, none⟩ = some (.int .i64 c) := d0.cell 2
  have q3 : w12.cell? ⟨bs, 3, none⟩ = some (.int .i64 d) := d0.cell 3
  go_wp2_with fail
  refine (toPair_any a b c d _).mono ?_
  rintro e w13 ⟨rfl, hb⟩
  replace d0 := d0.later hb
  replace o5 := own_later o5 hb
  replace o8 := own_later o8 hb
  replace dB := below_thenB dB hb hBx
  replace hBx := Nat.le_trans hBx hb.size
  clear hb
  clear q0 q1 q2 q3
  go_wp2_with fail
  refine (HTO.out _ (HXX.out _ dB)).mono ?_
  rintro e w14 ⟨tB, rfl, oB, hb⟩
  rw [HN.out] at oB
  replace d0 := d0.later hb
  replace o5 := own_later o5 hb
  replace o8 := own_later o8 hb
  replace dB := below_thenB dB hb hBx
  replace hBx := Nat.le_trans hBx hb.size
  clear hb
  go_wp2_with fail
  refine (HI.out _ _ (Rd.of_own oB)).mono ?_
  rintro e w15 ⟨⟨t13, rfl, o13⟩, hb⟩
  replace d0 := d0.later hb
  replace o5 := own_later o5 hb
  replace o8 := own_later o8 hb
  replace dB := below_thenB dB hb hBx
  replace hBx := Nat.le_trans hBx hb.size
  clear hb
  clear oB
  go_wp2_with fail
  refine (eqInts_yes _ _ P hpl _ (Rd.of_own o13) (Rd.of_own o5)).mono ?_
  rintro e w16 ⟨rfl, hdr⟩
  have hb := hdr.below; clear hdr
  replace d0 := d0.later hb
  replace o5 := own_later o5 hb
  replace o8 := own_later o8 hb
  replace dB := below_thenB dB hb hBx
  replace hBx := Nat.le_trans hBx hb.size
  clear hb
  clear o13
  go_wp2_with fail
  refine (calls_args (args := #[t8, .int .i64 1]) rfl (heldInts_any t8 1 P.length (by decide) hpl _ (Rd.of_own (l := mk 1 P.length) (by rw [mk_len]; exact o8)))).mono ?_
  rintro e wh ⟨rfl, rfl⟩
  go_wp2
  go_ret
  exact ⟨rfl, by rw [← HBS.out]; exact dB⟩
end Go.Proofs.Ytcfaammnkbkfcaa
