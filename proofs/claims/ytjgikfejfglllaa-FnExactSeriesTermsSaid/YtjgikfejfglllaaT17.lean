/- The terms of a series: the program's. -/
import Derived.Test.YtjgikfejfglllaaT14
import Derived.Test.YtjgikfejfglllaaT10
import Derived.Test.YtjgikfejfglllaaT7
import Derived.Test.YtjgikfejfglllaaR2
import Derived.Test.YtjgikfejfglllaaT5
import Derived.Test.YtjgikfejfglllaaM1
import Derived.Maps.AppendAt
import Derived.Deep.AppendLies
import Derived.Deep.RegionHeld3
import Derived.Deep.DeepCutAuto
import Derived.Maps.RangeWalk
set_option linter.unusedVariables false
set_option linter.unusedSimpArgs false
namespace Go.Proofs.Ytjgikfejfglllaa
open Go.RowKit


theorem info136 : (Try.prog.info? 136).map (fun i => (i.zero, i.size, i.bytes)) = some (some (.agg (cl fun _ => 0)), 6, 24) := by kernel_rfl
theorem one_limb {a : Nat} (h : a < 4294967296) : #[Value.int .u32 a, .int .u32 0, .int .u32 0, .int .u32 0, .int .u32 0, .int .u32 0] = cl (lb a) := by
  obtain ⟨h0, h1⟩ := lb_small h
  simp [cl, h0, h1]
theorem own_ne {w : World} {base n : Nat} {e : TypeId} {size : Nat} {v : Value} {xs : List Value} (h : w.ownsRow base e size v n xs) {k : Nat} (hk : w.heap.size ≤ k) : v.ownBlock ≠ some k := by
  intro e
  have := (h.lt k e).2
  omega
theorem Blk.grown {w w' : World} {g t : Nat} {cs : Array Value} {row : Option Nat} (h : Blk w g t cs) (hb : w.grownBy w' row) (hg : row ≠ some g) : Blk w' g t cs := (hb.block g h.lt (fun e => hg e.symm)).trans h

theorem own_later {w w' : World} {base n : Nat} {e : TypeId} {size : Nat} {v : Value} {xs : List Value} (h : w.ownsRow base e size v n xs) (hb : Below w.heap.size w w') : w'.ownsRow base e size v n xs :=
  h.kept (row := none) ⟨hb.os, hb.tape, hb.output, hb.size, fun i hi _ => hb.block i hi⟩ (by
    cases hv : v.ownBlock with
    | none => exact .inl rfl
    | some k => exact .inr (by simp))
theorem own_row {w : World} {base n : Nat} {e : TypeId} {size : Nat} {v : Value} {xs : List Value} (h : w.ownsRow base e size v n xs) {g : Nat} (hg : v.ownBlock ≠ some g) (cs : Array Value) : (w.setRow g cs).ownsRow base e size v n xs :=
  h.kept (row := some g) ⟨rfl, rfl, rfl, by rw [size_setRow]; exact Nat.le_refl _, fun i hi hne => setRow_far w g i cs (fun e => hne (by rw [e]))⟩ (.inr hg)
theorem own_empty {w : World} {base g : Nat} {e : TypeId} {size : Nat} (h : Blk w g e #[]) (hb : base ≤ g) : w.ownsRow base e size (.slice (some ⟨g, 0, none⟩) 0 0) 0 [] :=
  ⟨by simp, .inr ⟨g, 0, #[], rfl, hb, h, Nat.le_refl _, by simp [maxLen], by simp, by simp⟩⟩

set_option maxHeartbeats 4000000 in
set_option maxRecDepth 100000 in
theorem parts_any (a b c d : Nat) (t : Bool) (n : Nat) (h1 : 2 ≤ b) (h2 : b ≤ 1000) (h3 : 1 ≤ a) (h4 : 2 * a ≤ b) (hn : n ≤ 64) (w : World) :
    Calls Try.prog 57 #[.agg (serC a b c d t), .int .i64 n] w fun e w' => ∃ v, e = .returned v ∧ slen v = stn a b (2 ^ (n + 10)) ∧ (∃ A cp, v = .slice A (slen v) cp) ∧ Below w.heap.size w w' := by
  have hst := stn_places a b hn
  obtain ⟨U0, hU0⟩ : ∃ U0, U0 = 2 ^ (n + 10) := ⟨_, rfl⟩
  have hUb : U0 < 2 ^ 75 := by rw [hU0]; exact Nat.pow_lt_pow_right (by omega) (by omega)
  have hup : ∀ w, Calls Try.prog 107 #[szv 1, .int .i64 ((n : Int) + 10)] w fun e w' => e = .returned (szv U0) ∧ Below w.heap.size w w' := fun w => by
    have := up_any 1 (n + 10) (by omega) w
    rw [Nat.one_mul, ← hU0, show ((n + 10 : Nat) : Int) = (n : Int) + 10 by simp] at this
    exact this
  have ea : ((a : Nat) : Int) % 4294967296 = (a : Int) := by omega
  have eb : ((b : Nat) : Int) % 4294967296 = (b : Int) := by omega
  obtain ⟨i0, hi, hz0, hz1, hz2⟩ := info_parts info136
  have HI := Lib.hid hi
  have HZ0 := Lib.hid hz0
  have HZ1 := Lib.hid hz1
  have HZ2 := Lib.hid hz2
  rw [← hU0] at hst ⊢
  have HU0 := Lib.hid hU0
  have HUb := Lib.hid hUb
  clear hU0 hUb hi hz0 hz1 hz2
  unfold serC
  go_enter Try.func57, Try.ntmps57
  go_wp2_with fail
  refine (one_any _).mono ?_
  rintro e w1 ⟨rfl, hb⟩
  have ns : Blk w1 (w.heap.size) 26 (serC a b c d t) := ((((Blk.newAt rfl 26 (serC a b c d t)).alloc _).alloc _)).later hb
  have ne0 : Blk w1 (w.heap.size + 1) 136 (#[]) := (((Blk.newAt (by simp [World.setRow]) 136 (#[])).alloc _)).later hb
  have nm : Blk w1 (w.heap.size + 1 + 1) 136 (#[Value.int .u32 a, .int .u32 0, .int .u32 0, .int .u32 0, .int .u32 0, .int .u32 0]) := ((Blk.newAt (by simp [World.setRow]) 136 (#[Value.int .u32 a, .int .u32 0, .int .u32 0, .int .u32 0, .int .u32 0, .int .u32 0]))).later hb
  have nB : Below w.heap.size w w1 := below_then (below_alloc (below_alloc (below_alloc (Below.refl w.heap.size w) _) _) _) hb
  have yw1_0 := hb.size
  try simp only [World.size_alloc, size_setRow] at yw1_0
  clear hb
  have ds := ns
  have zs_0 := ds.lt
  have de0 := ne0
  have ze0_0 := de0.lt
  have dm := nm
  have zm_0 := dm.lt
  have dB := nB
  clear ns ne0 nm nB
  rw [one_limb (by omega)] at dm
  go_wp2_with fail
  refine (hup _).mono ?_
  rintro e w2 ⟨rfl, hb⟩
  have ns : Blk w2 (w.heap.size) 26 (serC a b c d t) := (ds).later hb
  have ne0 : Blk w2 (w.heap.size + 1) 136 (#[]) := (de0).later hb
  have nm : Blk w2 (w.heap.size + 1 + 1) 136 (cl (lb a)) := (dm).later hb
  have nB : Below w.heap.size w w2 := below_then dB hb
  have yw2_1 := hb.size
  try simp only [World.size_alloc, size_setRow] at yw2_1
  clear hb ds de0 dm dB
  have ds := ns
  have zs_1 := ds.lt
  have de0 := ne0
  have ze0_1 := de0.lt
  have dm := nm
  have zm_1 := dm.lt
  have dB := nB
  clear ns ne0 nm nB
  go_wp2_with (first
    | ((with_reducible change wpList _ _ _ (Oper.mk none (Op.store 136 (Operand.tmp 7) _) _ _ _ _ :: _) _ _); refine wpList_store_row rfl 136 _ _ rfl (w2.heap.size) (cl (lb U0)) rfl rfl 136 _ ((Blk.newAt rfl 136 (cl fun _ => 0))) sz136 rfl (cl_all _) ?_))
  try go_frame
  go_loopg [5, 7] (stn a b U0) (fun q v p wr => ∃ (nn U ub : Nat) (xs : List Value), nn + stn a b U = stn a b U0 ∧ q = stn a b U ∧ U ≤ U0 ∧ p = .pointer (some ⟨ub, 0, none⟩) ∧ wr.ownsRow w.heap.size 136 6 v nn xs ∧ v.ownBlock ≠ some (w.heap.size) ∧ v.ownBlock ≠ some (w.heap.size + 1 + 1) ∧ v.ownBlock ≠ some ub ∧ w.heap.size + 1 + 1 < ub ∧ Blk wr (w.heap.size) 26 (serC a b c d t) ∧ Blk wr (w.heap.size + 1 + 1) 136 (cl (lb a)) ∧ Blk wr ub 136 (cl (lb U)) ∧ Below w.heap.size w wr)
  case atStart =>
    refine ⟨0, U0, w2.heap.size, [], by omega, rfl, Nat.le_refl _, rfl, own_empty (g := w.heap.size + 1) ((de0.alloc _).row_far (by omega) _) (by omega), ?_, ?_, ?_, by omega, ((ds.alloc _).row_far (by omega) _), ((dm.alloc _).row_far (by omega) _), ((Blk.newAt rfl 136 (cl fun _ => 0)).row (cl (lb U0))), (below_row (below_alloc dB _) (by omega) _)⟩
    all_goals (simp [Value.ownBlock]; try omega)
  case round =>
    clear ds dm de0 dB
    obtain ⟨nn, U, ub, xs, hk, hq, hU, rfl, hown, os, om, ou, hmu, ds, dm, du, dB⟩ := hrel
    obtain ⟨vA, vc, hv⟩ := own_slice hown
    rw [hv] at hown os om ou ⊢
    clear hv
    have hUp : U < pw 6 := Nat.lt_of_le_of_lt (Nat.le_trans hU (Nat.le_of_lt HUb.out)) (by decide)
    have hz := zero_limbs hUp
    have e := eqArr 136 Try.underlying136
    have HK := Lib.hid hk
    have HQ := Lib.hid hq
    have HOS := Lib.hid os
    have HOM := Lib.hid om
    have HOU := Lib.hid ou
    obtain ⟨cu0, cu1, cu2, cu3, cu4, cu5⟩ := du.six
    have ys := ds.lt
    have ym := dm.lt
    have yu := du.lt
    clear hk hq os om ou
    by_cases hU1 : U = 0
    · rw [decide_eq_true hU1] at hz
      have HU1 := Lib.hid hU1
      clear hU1
      go_wp2
      go_ret
      have h1 := HK.out
      rw [HU1.out, stn_zero, Nat.add_zero] at h1
      exact ⟨_, rfl, h1, ⟨_, _, rfl⟩, dB⟩
    · rw [decide_eq_false hU1] at hz
      have hn75 : nn ≤ 75 := by have := HK.out; omega
      have hne : ∀ k, (Value.slice vA nn vc).ownBlock = some k → w.heap.size ≤ k := fun k h => own_base hown k h
      have HNE := Lib.hid hne
      clear hne
      have hpost : ∀ (v1 : Value) (wa : World), (wr.alloc (.cells (cl (lb U)) 136)).grownBy wa (Value.slice vA nn vc).ownBlock → (v1.ownBlock = (Value.slice vA nn vc).ownBlock ∨ v1.ownBlock = some (wr.heap.size + 1)) →
          Blk wa w.heap.size 26 (serC a b c d t) ∧ Blk wa (w.heap.size + 1 + 1) 136 (cl (lb a)) ∧ Blk wa ub 136 (cl (lb U)) ∧ Below w.heap.size w wa ∧ (Hid (v1.ownBlock ≠ some w.heap.size) ∧ Hid (v1.ownBlock ≠ some (w.heap.size + 1 + 1)) ∧ Hid (v1.ownBlock ≠ some ub)) ∧ wr.heap.size < wa.heap.size := by
        intro v1 wa hg1 hat
        have hsz := hg1.size
        simp only [World.size_alloc] at hsz
        have hnot : ∀ g, g < wr.heap.size → (Value.slice vA nn vc).ownBlock ≠ some g → v1.ownBlock ≠ some g := fun g hg hne h => by
          rcases hat with h2 | h2
          · exact hne (h2 ▸ h)
          · rw [h2] at h
            have : wr.heap.size + 1 = g := by simpa using h
            omega
        exact ⟨(ds.alloc _).grown hg1 HOS.out, (dm.alloc _).grown hg1 HOM.out, (du.alloc _).grown hg1 HOU.out, (below_alloc dB _).grown hg1 (by have := dB.size; simp only [World.size_alloc]; omega) HNE.out, ⟨Lib.hid (hnot _ ys HOS.out), Lib.hid (hnot _ ym HOM.out), Lib.hid (hnot _ yu HOU.out)⟩, by omega⟩
      have HPOST := Lib.hid hpost
      clear hpost
      go_upto_region 6 with (at_builtin; refine wpList_append_own_at _ rfl _ _ 81 rfl w.heap.size 136 i0 (.agg (cl fun _ => 0)) 6 24 Try.underlying81 HI.out HZ0.out HZ1.out HZ2.out rfl (by decide) _ _ _ rfl (hown.alloc _) ⟨wr.heap.size, 0, none⟩ 1 1 (cl (lb U)).toList rfl rfl (World.news_of_block (cs := cl (lb U)) (t := 136) (fr := (0, 0)) (heap_alloc_new wr _)) (by simp [cl, Value.oneCell']) (by simp only [maxLen]; omega) (by omega) (by have := dB.size; simp only [World.size_alloc]; omega) ?_; intro v1 wa hown1 hg1 _ hat; obtain ⟨es, em, eu, eB, ⟨NS, NM, NU⟩, hsz⟩ := HPOST.out v1 wa hg1 (hat.imp (fun h => h) (fun h => by rw [h, World.size_alloc])); obtain ⟨cv0, cv1, cv2, cv3, cv4, cv5⟩ := eu.six; obtain ⟨cm0, cm1, cm2, cm3, cm4, cm5⟩ := em.six)
      clear hg1 hat hown ds dm du dB cu0 cu1 cu2 cu3 cu4 cu5
      have ds := es
      have dm := em
      have du := eu
      have dB := eB
      clear es em eu eB
      have zs := ds.lt
      have zm := dm.lt
      have zu := du.lt
      have hUa : U * a < pw 6 := by
        have := HUb.out
        have h8 : U * a ≤ 2 ^ 75 * 500 := Nat.mul_le_mul (by omega) (by omega)
        exact Nat.lt_of_le_of_lt h8 (by decide)
      have hap : a < pw 6 := Nat.lt_of_le_of_lt (show a ≤ 1000 by omega) (by decide)
      have hmul : ∀ w, Calls Try.prog 108 #[szv U, szv a] w fun e w' => e = .returned (.tuple #[szv (U * a), .bool false]) ∧ Below w.heap.size w w' := fun w => by
        have := times_any U a hUp hap w
        rw [if_pos hUa, decide_eq_false (not_not_intro hUa)] at this
        exact this
      go_wp2_with fail
      refine (calls_args (args' := #[szv U, szv a]) rfl (hmul _)).mono ?_
      rintro e w3 ⟨rfl, hb⟩
      have ohb := hb
      have ns : Blk w3 (w.heap.size) 26 (serC a b c d t) := (ds).later hb
      have nm : Blk w3 (w.heap.size + 1 + 1) 136 (cl (lb a)) := (dm).later hb
      have nu : Blk w3 (ub) 136 (cl (lb U)) := (du).later hb
      have nB : Below w.heap.size w w3 := below_then dB hb
      have yw3_2 := hb.size
      try simp only [World.size_alloc, size_setRow] at yw3_2
      clear hb ds dm du dB
      have ds := ns
      have zs_2 := ds.lt
      have dm := nm
      have zm_2 := dm.lt
      have du := nu
      have zu_2 := du.lt
      have dB := nB
      clear ns nm nu nB
      replace hown1 := own_later hown1 ohb
      have cs1 : (((w3.alloc (.cells (#[.int .u32 0, .int .u32 0, .int .u32 0, .int .u32 0, .int .u32 0, .int .u32 0]) 136)).setRow (w3.heap.size) (cl (lb (U * a))))).cell? ⟨w.heap.size, 1, none⟩ = some (.int .i64 b) := ((ds.alloc _).row_far (by omega) _).cell 1
      go_wp2_with (first
        | ((with_reducible change wpList _ _ _ (Oper.mk none (Op.store 136 (Operand.tmp 8) _) _ _ _ _ :: _) _ _); refine wpList_store_row rfl 136 _ _ rfl (w3.heap.size) (cl (lb (U * a))) rfl rfl 136 _ ((Blk.newAt rfl 136 (#[.int .u32 0, .int .u32 0, .int .u32 0, .int .u32 0, .int .u32 0, .int .u32 0]))) sz136 rfl (cl_all _) ?_)
        | ((with_reducible change wpList _ _ _ (Oper.mk (some 33) (Op.load 136 _) _ _ _ _ :: _) _ _); refine wpList_load_row rfl 136 _ rfl (w3.heap.size) rfl 136 _ _ _ (((Blk.newAt rfl 136 (#[.int .u32 0, .int .u32 0, .int .u32 0, .int .u32 0, .int .u32 0, .int .u32 0])).row (cl (lb (U * a))))) Try.underlying136 rfl sz136 ?_))
      refine (bySmall_any (U * a) b hUa (by omega) (by omega) _).mono ?_
      rintro e w4 ⟨rfl, hb⟩
      replace hown1 := own_later (own_row (hown1.alloc _) (own_ne hown1 (Nat.le_refl _)) _) hb
      have ns : Blk w4 (w.heap.size) 26 (serC a b c d t) := (((ds.alloc _).row_far (by omega) _)).later hb
      have nm : Blk w4 (w.heap.size + 1 + 1) 136 (cl (lb a)) := (((dm.alloc _).row_far (by omega) _)).later hb
      have nu : Blk w4 (ub) 136 (cl (lb U)) := (((du.alloc _).row_far (by omega) _)).later hb
      have nx : Blk w4 (w3.heap.size) 136 (cl (lb (U * a))) := (((Blk.newAt rfl 136 (#[.int .u32 0, .int .u32 0, .int .u32 0, .int .u32 0, .int .u32 0, .int .u32 0])).row (cl (lb (U * a))))).later hb
      have nB : Below w.heap.size w w4 := below_then (below_row (below_alloc dB _) (by omega) _) hb
      have yw4_3 := hb.size
      try simp only [World.size_alloc, size_setRow] at yw4_3
      clear hb ds dm du dB
      have ds := ns
      have zs_3 := ds.lt
      have dm := nm
      have zm_3 := dm.lt
      have du := nu
      have zu_3 := du.lt
      have dx := nx
      have zx_3 := dx.lt
      have dB := nB
      clear ns nm nu nx nB
      go_wp2_with (first
        | ((with_reducible change wpList _ _ _ (Oper.mk none (Op.store 136 (Operand.tmp 7) _) _ _ _ _ :: _) _ _); refine wpList_store_row rfl 136 _ _ rfl (ub) (cl (lb (U * a / b))) rfl rfl 136 _ (du) sz136 rfl (cl_all _) ?_)
        | ((with_reducible change wpList _ _ _ (Oper.mk (some 40) (Op.load 136 _) _ _ _ _ :: _) _ _); refine wpList_load_row rfl 136 _ rfl (ub) rfl 136 _ _ _ ((du.row (cl (lb (U * a / b))))) Try.underlying136 rfl sz136 ?_)
        | ((with_reducible change wpList _ _ _ (Oper.mk none (Op.store 136 (Operand.tmp 7) _) _ _ _ _ :: _) _ _); refine wpList_store_row rfl 136 _ _ rfl (w4.heap.size) (cl (lb (U * a / b))) rfl rfl 136 _ ((Blk.newAt (by simp [World.setRow]) 136 (cl fun _ => 0))) sz136 rfl (cl_all _) ?_))
      try go_frame
      have NV := own_ne hown1 (Nat.le_refl _)
      have h8 := Lib.hid (stn_step (u := U) h4 (by omega) (by omega))
      have h10 := scn_half (u := U) h4 (by omega)
      go_roundg (stn a b (U * a / b))
      case measure =>
        have h9 := HQ.out
        have h8 := h8.out
        omega
      case rel =>
        have h9 := HK.out
        have h8 := h8.out
        exact ⟨nn + 1, U * a / b, w4.heap.size, _, by omega, rfl, by omega, rfl, own_row ((own_row hown1 NU.out _).alloc _) NV _, NS.out, NM.out, NV, by omega, (((ds.row_far (by omega) _).alloc _).row_far (by omega) _), (((dm.row_far (by omega) _).alloc _).row_far (by omega) _), ((Blk.newAt (by simp [World.setRow]) 136 (cl fun _ => 0)).row (cl (lb (U * a / b)))), (below_row (below_alloc (below_row dB (by omega) _) _) (by omega) _)⟩
end Go.Proofs.Ytjgikfejfglllaa
