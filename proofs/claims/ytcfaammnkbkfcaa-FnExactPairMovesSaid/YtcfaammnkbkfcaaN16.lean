/- A run. -/
import Derived.Test.YtcfaammnkbkfcaaN15
set_option linter.unusedVariables false
set_option linter.unusedSimpArgs false
namespace Go.Proofs.Ytcfaammnkbkfcaa
open Go.RowKit


theorem Blk.of_eq {w w1 : World} {g g1 t : Nat} {cs : Array Value} (h : Blk w g t cs) (hw : w1 = w) (hg : g1 = g) : Blk w1 g1 t cs := by subst hw hg; exact h
set_option maxHeartbeats 8000000 in
set_option maxRecDepth 100000 in
theorem run_bad1 (a b c d : Int) (v : Value) (ts : List Int) (hlen : ts.length ≤ 1048576) (hv : vtm ts = false) (w : World) (hr : Rd w v ts) :
    Calls Try.prog 102 #[.agg #[.int .i64 a, .int .i64 b, .int .i64 c, .int .i64 d], v] w fun e w' => e = .returned (.tuple #[.pointer none, .int .i64 1]) ∧ Below w.heap.size w w' := by
  have hvt := fun w hr => validTerms_any v ts hlen w hr
  rw [hv] at hvt
  have hb := below_alloc (Below.refl w.heap.size w) (.cells #[.int .i64 a, .int .i64 b, .int .i64 c, .int .i64 d] 45)
  have hr1 := hr.later hb
  go_enter Try.func102, Try.ntmps102
  go_wp2_with fail
  refine (hvt _ (by exact hr1)).mono ?_
  rintro e w' ⟨rfl, rfl⟩
  go_wp2
  go_ret2
  exact ⟨rfl, hb⟩
theorem cell4 {w : World} {g : Nat} {a b c d : Int} (h : Blk w g 2 #[.int .i64 a, .int .i64 b, .int .i64 c, .int .i64 d]) {k : Nat} (hk : k < 4) : w.cell? ⟨g, k, none⟩ = some (.int .i64 ([a, b, c, d].getD k 0)) := by
  rw [h.cell]
  match k, hk with
  | 0, _ => rfl
  | 1, _ => rfl
  | 2, _ => rfl
  | 3, _ => rfl
set_option maxHeartbeats 8000000 in
set_option maxRecDepth 100000 in
theorem run_good (a b c d : Int) (ts : List Int) (A : Option Addr) (cc : Nat) (hlen : ts.length ≤ 1048576) (hv : vtm ts = true) (w : World) (hr : Rd w (.slice A ts.length cc) ts) :
    Calls Try.prog 102 #[.agg #[.int .i64 a, .int .i64 b, .int .i64 c, .int .i64 d], .slice A ts.length cc] w fun e w' =>
      (pok [a, b, c, d] = false ∧ e = .returned (.tuple #[.pointer none, .int .i64 2]) ∧ Below w.heap.size w w') ∨
      (pok [a, b, c, d] = true ∧ ∃ g, e = .returned (.tuple #[.pointer (some ⟨g, 0, none⟩), .int .i64 (cod (stopI (fin a b c d ts stopI)) (fin a b c d ts stopI).gl)]) ∧ w.heap.size ≤ g ∧ St w' 138 w.heap.size g (fin a b c d ts stopI).ml (fin a b c d ts stopI).gl (stopI (fin a b c d ts stopI)) ∧ Below w.heap.size w w') := by
  have hvt := fun w hr => validTerms_any (.slice A ts.length cc) ts hlen w hr
  rw [hv] at hvt
  obtain ⟨hl40, h9⟩ := vtm_at hv
  have hT := hr.tm
  have dB := below_alloc (Below.refl w.heap.size w) (.cells #[.int .i64 a, .int .i64 b, .int .i64 c, .int .i64 d] 45)
  have hr1 := hr.later dB
  have dp : Blk (w.alloc (.cells #[.int .i64 a, .int .i64 b, .int .i64 c, .int .i64 d] 45)) w.heap.size 45 #[.int .i64 a, .int .i64 b, .int .i64 c, .int .i64 d] := Blk.new _ _ _
  have H9 := Lib.hid h9
  have HV := Lib.hid hv
  clear h9 hv hr
  obtain ⟨n, hn⟩ : ∃ n, n = ts.length := ⟨_, rfl⟩
  rw [← hn] at hvt hr1 hl40 ⊢
  have HN := Lib.hid hn
  clear hn
  obtain ⟨bs, hbs⟩ : ∃ b, b = w.heap.size := ⟨_, rfl⟩
  rw [← hbs] at dp dB hT ⊢
  go_enter Try.func102, Try.ntmps102
  go_wp2_with fail
  refine (hvt _ (by exact hr1)).mono ?_
  rintro e w' ⟨rfl, hw⟩
  clear hvt hr1
  rw [hw] at dp dB
  clear hw
  (try rw [← hbs])
  have hBx : bs ≤ w'.heap.size := by have := dp.lt; omega
  have c0 : w'.cell? ⟨bs, 0, none⟩ = some (.int .i64 a) := dp.cell 0
  have c1 : w'.cell? ⟨bs, 1, none⟩ = some (.int .i64 b) := dp.cell 1
  have c2 : w'.cell? ⟨bs, 2, none⟩ = some (.int .i64 c) := dp.cell 2
  have c3 : w'.cell? ⟨bs, 3, none⟩ = some (.int .i64 d) := dp.cell 3
  clear hbs
  go_wp2_with fail
  have dx : Blk (w'.alloc (.cells #[.int .i64 a, .int .i64 b, .int .i64 c, .int .i64 d] 2)) w'.heap.size 2 #[.int .i64 a, .int .i64 b, .int .i64 c, .int .i64 d] := Blk.new _ _ _
  obtain ⟨gx, hgx⟩ : ∃ g, g = w'.heap.size := ⟨_, rfl⟩
  replace dp := dp.alloc (.cells #[.int .i64 a, .int .i64 b, .int .i64 c, .int .i64 d] 2)
  replace dB := dB.alloc hBx (.cells #[.int .i64 a, .int .i64 b, .int .i64 c, .int .i64 d] 2)
  obtain ⟨w1, hw1⟩ : ∃ w1, w1 = w'.alloc (.cells #[.int .i64 a, .int .i64 b, .int .i64 c, .int .i64 d] 2) := ⟨_, rfl⟩
  have hBx1 : bs ≤ w1.heap.size := by rw [hw1]; simp only [World.size_alloc]; omega
  rw [← hw1] at dp dB
  rw [← hgx, ← hw1] at dx
  rw [← hgx]
  (try rw [← hw1])
  clear hw1 hgx c0 c1 c2 c3 hBx
  have hc4 := fun k hk => cell4 dx (k := k) hk
  have HC4 := Lib.hid hc4
  clear hc4 dx
  obtain ⟨F, hF⟩ : ∃ F, F = fin a b c d ts stopI := ⟨_, rfl⟩
  have HF := Lib.hid hF
  clear hF
  go_loop [23] (fun i => ∃ k : Nat, k ≤ 4 ∧ i = .int .i64 k ∧ ∀ j, j < k → wi ([a, b, c, d].getD j 0) (-1000000000) 1000000000 = true) (fun i => 4 - (intOf i).toNat)
  case atStart => exact ⟨0, by omega, rfl, fun j hj => by omega⟩
  case round =>
    obtain ⟨k, hk, rfl, hall⟩ := hrel
    have HA := Lib.hid hall
    clear hall
    by_cases hlt : k < 4
    · have hcell := HC4.out k hlt
      obtain ⟨x, hx⟩ : ∃ x, x = [a, b, c, d].getD k 0 := ⟨_, rfl⟩
      rw [← hx] at hcell
      have HX := Lib.hid hx
      clear hx
      have hwi := fun w => within_any x (-1000000000) 1000000000 w
      by_cases hb : wi x (-1000000000) 1000000000 = true
      · rw [hb] at hwi
        have HB := Lib.hid hb
        clear hb
        go_wp2_with (go_at_call 118; refine (hwi _).mono ?_; rintro e w' ⟨rfl, rfl⟩)
        go_round
        case rel => exact ⟨k + 1, by omega, by go_num, fun j hj => by
          by_cases e : j = k
          · rw [e, ← HX.out]; exact HB.out
          · exact HA.out j (by omega)⟩
        case measure => simp [intOf] <;> omega
      · have hno : pok [a, b, c, d] = false := pok_no (j := k) hlt (by rw [← HX.out]; exact hb)
        have hb : wi x (-1000000000) 1000000000 = false := by simpa using hb
        rw [hb] at hwi
        clear hb
        go_wp2_with (go_at_call 118; refine (hwi _).mono ?_; rintro e w' ⟨rfl, rfl⟩)
        go_ret2
        exact .inl ⟨hno, rfl, dB⟩
    · obtain rfl : k = 4 := by omega
      have hyes : pok [a, b, c, d] = true := decide_eq_true HA.out
      have HY := Lib.hid hyes
      clear hyes HA HC4 hlt hk
      go_wp2_with fail
      obtain ⟨W, hW⟩ : ∃ W, W = (w1.alloc (.cells #[.slice none 0 0, .slice none 0 0, .bool false] 138)).alloc (.cells #[.int .i64 0] 3) := ⟨_, rfl⟩
      have hP : PSt W bs bs w1.heap.size (w1.heap.size + 1) (ps0 a b c d) := by
        rw [hW]
        refine ⟨(dp.alloc _).alloc _, Blk.newAt (by simp) 3 _, .slice none 0 0, .slice none 0 0, (Blk.new w1 138 _).alloc _, ⟨rfl, .inl ⟨rfl, rfl⟩⟩, ⟨rfl, .inl ⟨rfl, rfl⟩⟩⟩
      have hB2 : Below bs w W := by
        rw [hW]
        exact (dB.alloc hBx1 _).alloc (by simp only [World.size_alloc]; omega) _
      rw [← hW]
      obtain ⟨g, hg⟩ : ∃ g, g = w1.heap.size := ⟨_, rfl⟩
      obtain ⟨gc, hgc⟩ : ∃ g, g = w1.heap.size + 1 := ⟨_, rfl⟩
      rw [← hgc, ← hg] at hP ⊢
      have hg1 : bs ≤ g := by omega
      have hgc1 : bs ≤ gc := by omega
      have h4 : ∀ {j}, j < 4 → ([a, b, c, d].getD j 0).natAbs ≤ 1000000000 := fun hj => pok_at HY.out hj
      have q0 := h4 (j := 0) (by decide)
      have q1 := h4 (j := 1) (by decide)
      have q2 := h4 (j := 2) (by decide)
      have q3 := h4 (j := 3) (by decide)
      simp at q0 q1 q2 q3
      have hI : Inv ts (ps0 a b c d) := Inv.start (by rw [← HN.out]; exact hl40) (by omega) (by omega) (by omega) (by omega)
      have hmu : mu ts.length (ps0 a b c d) ≤ 8991 := by
        have h1 := rho_le (hI.ha rfl) (hI.hc rfl)
        have h2 := HN.out
        show (ts.length + 1 - 0) * 201 + rho a c ≤ 8991
        have h3 : rho a c ≤ 150 := h1
        omega
      clear hW dp dB hg hgc h4 q0 q1 q2 q3 hBx1
      have HT := Lib.hid hT
      have HI := Lib.hid hI
      have HP := Lib.hid hP
      have HMU := Lib.hid hmu
      clear hT hI hP hmu
      go_loopg [] 9000 (fun q wr => ∃ N s, q = N ∧ run stopI ts N s = F ∧ Inv ts s ∧ stopI s = false ∧ mu ts.length s + 2 ≤ N ∧ PSt wr bs bs g gc s ∧ Below bs w wr)
      case atStart => exact ⟨9000, ps0 a b c d, rfl, HF.out.symm, HI.out, rfl, by have := HMU.out; omega, HP.out, hB2⟩
      case round =>
        obtain ⟨N, s, hq, hrun, hI, hst, hmu, hP, dB⟩ := hrel
        obtain ⟨N, rfl⟩ : ∃ m, N = m + 1 := ⟨N - 1, by omega⟩
        have HQ := Lib.hid hq
        clear hq
        have hstep := calls_args (by rw [HN.out]) (stepI_any bs bs g gc ts cc A s hst hI (by rw [← HN.out]; exact hl40) H9.out wr (Nat.le_refl _) hg1 hgc1 (HT.out.below dB) hP) (args := #[.pointer (some ⟨bs, 0, none⟩), .pointer (some ⟨g, 0, none⟩), .slice A n cc, .pointer (some ⟨gc, 0, none⟩)])
        clear hP
        go_wp2_with fail
        refine hstep.mono ?_
        rintro e w2 ⟨hcase, b2⟩
        clear hstep
        replace dB := dB.trans b2
        rcases hcase with ⟨s', hs', rfl, hP'⟩ | ⟨hs', rfl, hP'⟩
        · obtain ⟨hI', hdr⟩ := hI.step (stop_ok hst) hs'
          rw [run_some (by rw [hst]; simp) hs'] at hrun
          cases hst' : stopI s' with
          | true =>
            obtain ⟨N, rfl⟩ : ∃ m, N = m + 1 := ⟨N - 1, by omega⟩
            rw [run_stop hst'] at hrun
            subst hrun
            have hm9 := hI'.m9
            have hgm := hI'.gm
            have HP' := Lib.hid hP'
            clear hP' hI' hdr hI hs' hmu hst b2
            simp only [Bool.not_true]
            have hP' := HP'.out
            go_wp2_with fail
            refine (code_any 138 bs g s'.ml s'.gl (stopI s') (by omega) _ hP'.m).mono ?_
            rintro e w3 ⟨rfl, hw3⟩
            subst hw3
            go_wp2
            go_ret2
            have e := HF.out
            subst e
            exact .inr ⟨HY.out, g, by rw [hst']; rfl, hg1, hP'.m, dB⟩
          | false =>
            have hdr := hdr (stop_ok hst')
            simp only [Bool.not_false]
            go_wp2_with fail
            go_roundg N
            case rel => exact ⟨N, s', rfl, hrun, hI', hst', by omega, hP', dB⟩
            case measure => have := HQ.out; omega
        · rw [run_none hs'] at hrun
          subst hrun
          have hm9 := hI.m9
          have hgm := hI.gm
          clear hI hs' hmu hst b2
          go_wp2_with fail
          refine (code_any 138 bs g s.ml s.gl (stopI s) (by omega) _ hP'.m).mono ?_
          rintro e w3 ⟨rfl, hw3⟩
          subst hw3
          go_wp2
          go_ret2
          have e := HF.out
          subst e
          exact .inr ⟨HY.out, g, rfl, hg1, hP'.m, dB⟩
end Go.Proofs.Ytcfaammnkbkfcaa
