/- The laws' helpers: ints. -/
import Derived.Test.YtcfaammnkbkfcaaN17
import Derived.OwnWalk
set_option linter.unusedVariables false
set_option linter.unusedSimpArgs false
namespace Go.Proofs.Ytcfaammnkbkfcaa
open Go.RowKit


theorem iz_set (l : List Int) (k : Nat) (x : Int) : (iz l).set k (.int .i64 x) = iz (l.set k x) := by simp [iz, List.map_set]
theorem iz_at (l : List Int) (k : Nat) (hk : k < l.length) : (iz l)[k]? = some (.int .i64 (l.getD k 0)) := by simp [iz, hk]
theorem iz_zero (n : Nat) : (madeCells (Value.int .i64 0).cells (n * 1)).toList = iz (List.replicate n 0) := by
  rw [Nat.mul_one]
  show (madeCells #[Value.int .i64 0] n).toList = _
  rw [toList_madeCells_one]
  simp [iz]
theorem ext_getD {l m : List Int} (h1 : l.length = m.length) (h : ∀ j, j < l.length → l.getD j 0 = m.getD j 0) : l = m := by
  apply List.ext_getElem h1
  intro j hj hj'
  have := h j hj
  simpa [hj, hj'] using this
theorem own_ptr {w : World} {base n : Nat} {e : TypeId} {size : Nat} {v : Value} {xs : List Value} (h : w.ownsRow base e size v n xs) (hn : 0 < n) : ∃ g c, v = .slice (some ⟨g, 0, none⟩) n c ∧ base ≤ g := by
  rcases h.2 with ⟨_, rfl⟩ | ⟨g, cap, cur, rfl, hb, _⟩
  · omega
  · exact ⟨g, cap, rfl, hb⟩
set_option maxHeartbeats 2000000 in
theorem toInts_any (v : Value) (l : List Int) (hlen : l.length ≤ 1048576) (w : World) (hr : Rd w v l) :
    Calls Try.prog 25 #[v] w fun e w' => ∃ q, e = .returned q ∧ w'.ownsRow w.heap.size 2 1 q l.length (iz l) ∧ Below w.heap.size w w' := by
  obtain ⟨A, c, rfl, hc, hr⟩ := hr
  obtain ⟨n, hn⟩ : ∃ n, n = l.length := ⟨_, rfl⟩
  rw [← hn] at hlen ⊢
  have hk : ∀ k, k < n → ∃ g, A = some ⟨g, 0, none⟩ ∧ g < w.heap.size ∧ w.cell? ⟨g, k, none⟩ = some (.int .i64 (l.getD k 0)) := fun k hk => by
    obtain ⟨g, hA, hg, hx⟩ := hr (by intro e; subst e; simp at hn; omega)
    refine ⟨g, hA, hg, ?_⟩
    rw [hx k _ (List.getElem?_eq_getElem (by rw [← hn]; exact hk))]
    simp [← hn, hk]
  have HK := Lib.hid hk
  have HN := Lib.hid hn
  obtain ⟨i0, hi, hz0, hz1, hz2⟩ := info_parts info2
  clear hk hr hn hc
  go_enter Try.func25, Try.ntmps25
  go_upto_region 2 with (at_make; refine wpList_make_full _ rfl _ _ 42 rfl w.heap.size 2 i0 (.int .i64 0) 1 Try.underlying42 hi hz0 hz1 _ _ _ _ n rfl rfl rfl rfl (by rw [hz2]; omega) (by simp only [maxLen]; omega) (Nat.le_refl _) ?_; intro w1 hown hgr)
  rw [iz_zero] at hown
  have hB : Below w.heap.size w w1 := ⟨hgr.os, hgr.tape, hgr.output, hgr.size, fun i hi => hgr.block i hi (by simp)⟩
  clear hgr hi hz0 hz1 hz2
  obtain ⟨G, hG⟩ : ∃ G, G = w.heap.size := ⟨_, rfl⟩
  rw [← hG] at hown hB ⊢
  have HG := Lib.hid hG
  clear hG
  go_wp2_with fail
  go_loopw [4] (fun i wr => ∃ (k : Nat) (xs : List Int), k ≤ n ∧ i = .int .i64 k ∧ xs.length = n ∧ (∀ j, j < k → xs.getD j 0 = l.getD j 0) ∧ wr.ownsRow G 2 1 (.slice (some ⟨G, 0, none⟩) n n) n (iz xs) ∧ Below G w wr) (fun i _ => n - (intOf i).toNat)
  case atStart => exact ⟨0, _, by omega, rfl, by simp, fun j hj => by omega, hown, hB⟩
  case round =>
    clear hown hB
    obtain ⟨k, xs, hk, rfl, hx, hall, hown, hB⟩ := hrel
    have HX := Lib.hid hx
    have HA := Lib.hid hall
    clear hx hall
    by_cases hlt : k < n
    · obtain ⟨g, rfl, hg, hcell⟩ := HK.out k hlt
      obtain ⟨x, hx⟩ : ∃ x, x = l.getD k 0 := ⟨_, rfl⟩
      rw [← hx] at hcell
      have HXX := Lib.hid hx
      clear hx
      have hcell2 := (hB.cell (p := ⟨g, k, none⟩) (by rw [HG.out]; exact hg)).trans hcell
      have hco := (hown.cellAt k (by omega)).trans (iz_at xs k (by rw [HX.out]; exact hlt))
      have hfo := hown.frozenAt k
      have hst := (hown.stored k (.int .i64 x)).1
      rw [iz_set] at hst
      have hb2 := below_set hB (a := ⟨G, k, none⟩) (Nat.le_refl _) (.int .i64 x)
      clear hown hB hcell hg
      go_wp2_with fail
      go_roundw
      case rel => exact ⟨k + 1, xs.set k x, by omega, by go_num, by rw [List.length_set]; exact HX.out, fun j hj => by
        by_cases e : j = k
        · subst e; rw [← HXX.out]; simp [HX.out, hlt]
        · rw [← HA.out j (by omega)]; simp [List.getElem?_set, Ne.symm e], hst, hb2⟩
      case measure => simp [intOf] <;> omega
    · obtain rfl : k = n := by omega
      have he : xs = l := ext_getD (by rw [HX.out, HN.out]) (fun j hj => HA.out j (by rw [← HX.out]; exact hj))
      subst he
      go_wp2
      go_ret
      exact ⟨_, rfl, by rw [← HG.out]; exact hown, by rw [← HG.out]; exact hB⟩
set_option maxHeartbeats 2000000 in
theorem eqInts_any (v u : Value) (l m : List Int) (hl : l.length ≤ 1048576) (hm : m.length ≤ 1048576) (w : World) (hr : Rd w v l) (hu : Rd w u m) :
    Calls Try.prog 27 #[v, u] w fun e w' => e = .returned (.bool (decide (l = m))) ∧ Drw w w' := by
  obtain ⟨A, c, rfl, hc, hr⟩ := hr
  obtain ⟨A', c', rfl, hc', hu⟩ := hu
  obtain ⟨V, hV⟩ : ∃ V, V = decide (l = m) := ⟨_, rfl⟩
  rw [← hV]
  have HV := Lib.hid hV
  clear hV
  by_cases hn : l.length = m.length
  · obtain ⟨n, hnn⟩ : ∃ n, n = l.length := ⟨_, rfl⟩
    have hmn : m.length = n := by omega
    have hl' : n ≤ 1048576 := by omega
    rw [hmn, ← hnn]
    have hk := fun k (hk : k < n) => Rd.at hr (k := k) (by omega)
    have hk' := fun k (hk : k < n) => Rd.at hu (k := k) (by omega)
    have HK := Lib.hid hk
    have HK' := Lib.hid hk'
    have HN := Lib.hid hnn
    have HN' := Lib.hid hn
    clear hr hu hk hk' hc hc' hnn hn hmn hl hm
    go_enter Try.func27, Try.ntmps27
    go_wp2_with fail
    go_loopw [5] (fun i wr => ∃ k : Nat, k ≤ n ∧ i = .int .i64 k ∧ (∀ j, j < k → l.getD j 0 = m.getD j 0) ∧ Drw w wr) (fun i _ => n - (intOf i).toNat)
    case atStart => exact ⟨0, by omega, rfl, fun j hj => by omega, Drw.refl _⟩
    case round =>
      obtain ⟨k, hk, rfl, hall, hd⟩ := hrel
      have HA := Lib.hid hall
      have HD := Lib.hid hd
      clear hall hd
      by_cases hlt : k < n
      · obtain ⟨g, rfl, hc1⟩ := HK.out k hlt
        obtain ⟨g', rfl, hc2⟩ := HK'.out k hlt
        have hc1 := (HD.out.cell _).trans hc1
        have hc2 := (HD.out.cell _).trans hc2
        obtain ⟨x, hx⟩ : ∃ x, x = l.getD k 0 := ⟨_, rfl⟩
        obtain ⟨y, hy⟩ : ∃ x, x = m.getD k 0 := ⟨_, rfl⟩
        rw [← hx] at hc1
        rw [← hy] at hc2
        have HX := Lib.hid hx
        have HY := Lib.hid hy
        clear hx hy
        by_cases he : x = y
        · subst he
          have b1 : (x != x) = false := by simp
          go_wp2
          go_quiet (fail)
          go_wp2
          go_roundw
          case rel => exact ⟨k + 1, by omega, by go_num, fun j hj => by
            by_cases e : j = k
            · subst e; rw [← HX.out, ← HY.out]
            · exact HA.out j (by omega), HD.out.step _⟩
          case measure => simp [intOf] <;> omega
        · have hno : V = false := by
            rw [HV.out]
            refine decide_eq_false fun h => he ?_
            rw [HX.out, HY.out, h]
          subst hno
          have b1 : (x != y) = true := bne_iff_ne.2 he
          clear he
          go_wp2
          go_quiet (fail)
          go_wp2
          go_ret
          exact ⟨rfl, HD.out.step _⟩
      · obtain rfl : k = n := by omega
        have hyes : V = true := by
          rw [HV.out]
          exact decide_eq_true (ext_getD HN'.out (fun j hj => HA.out j (by rw [HN.out]; exact hj)))
        subst hyes
        go_wp2
        go_ret
        exact ⟨rfl, HD.out⟩
  · have hno : V = false := by
      rw [HV.out]
      exact decide_eq_false fun h => hn (by rw [h])
    subst hno
    obtain ⟨n1, h1⟩ : ∃ n, n = l.length := ⟨_, rfl⟩
    obtain ⟨n2, h2⟩ : ∃ n, n = m.length := ⟨_, rfl⟩
    have g1 : n1 ≤ 1048576 := by omega
    have g2 : n2 ≤ 1048576 := by omega
    have g3 : n1 ≠ n2 := by omega
    rw [← h1, ← h2]
    have b1 : ((n1 : Int) != (n2 : Int)) = true := bne_iff_ne.2 (by omega)
    clear hr hu hn h1 h2 hc hc' hl hm
    go_enter Try.func27, Try.ntmps27
    go_wp2
    go_ret
    exact ⟨rfl, Drw.refl _⟩
/-- Marks. -/
def mk (k : Int) (n : Nat) : List Int := (List.range n).map (fun (i : Nat) => k + (i : Int))
theorem mk_len (k : Int) (n : Nat) : (mk k n).length = n := by simp [mk]
theorem mk_at (k : Int) (n j : Nat) (hj : j < n) : (mk k n).getD j 0 = k + j := by simp [mk, hj]
set_option maxHeartbeats 2000000 in
theorem markInts_any (base : Nat) (v : Value) (l : List Int) (k0 : Nat) (hk0 : k0 ≤ 1000000000) (hlen : l.length ≤ 1048576) (w : World) (hr : w.ownsRow base 2 1 v l.length (iz l)) :
    Calls Try.prog 28 #[v, .int .i64 k0] w fun e w' => e = .returned (.int .i64 ((k0 + l.length : Nat) : Int)) ∧ w'.ownsRow base 2 1 v l.length (iz (mk k0 l.length)) ∧ w.grownBy w' v.ownBlock := by
  obtain ⟨n, hn⟩ : ∃ n, n = l.length := ⟨_, rfl⟩
  rw [← hn] at hlen hr ⊢
  have HN := Lib.hid hn
  clear hn
  by_cases h0 : n = 0
  · subst h0
    obtain ⟨A, c, rfl⟩ := own_slice hr
    go_enter Try.func28, Try.ntmps28
    go_wp2_with fail
    go_loop [1, 5] (fun q i => q = .int .i64 k0 ∧ i = .int .i64 0) (fun q i => 0)
    case atStart => exact ⟨rfl, rfl⟩
    case round =>
      obtain ⟨rfl, rfl⟩ := hrel
      go_wp2
      go_ret
      have hl : l = [] := List.eq_nil_of_length_eq_zero HN.out.symm
      subst hl
      exact ⟨rfl, (show mk (↑k0) 0 = [] from rfl) ▸ hr, ⟨rfl, rfl, rfl, Nat.le_refl _, fun _ _ _ => rfl⟩⟩
  · obtain ⟨g, cp, rfl, hg⟩ := own_ptr hr (by omega)
    have hgr0 : w.grownBy w (some g) := ⟨rfl, rfl, rfl, Nat.le_refl _, fun _ _ _ => rfl⟩
    go_enter Try.func28, Try.ntmps28
    go_wp2_with fail
    go_loopw [1, 5] (fun q i wr => ∃ (k : Nat) (xs : List Int), k ≤ n ∧ q = .int .i64 ((k0 + k : Nat) : Int) ∧ i = .int .i64 k ∧ xs.length = n ∧ (∀ j, j < k → xs.getD j 0 = (k0 : Int) + j) ∧ wr.ownsRow base 2 1 (.slice (some ⟨g, 0, none⟩) n cp) n (iz xs) ∧ w.grownBy wr (some g)) (fun q i _ => n - (intOf i).toNat)
    case atStart => exact ⟨0, l, by omega, by simp, rfl, HN.out.symm, fun j hj => by omega, hr, hgr0⟩
    case round =>
      clear hr hgr0
      obtain ⟨k, xs, hk, rfl, rfl, hx, hall, hown, hgr⟩ := hrel
      have HX := Lib.hid hx
      have HA := Lib.hid hall
      have HGR := Lib.hid hgr
      clear hx hall hgr
      by_cases hlt : k < n
      · have hco := (hown.cellAt k (by omega)).trans (iz_at xs k (by rw [HX.out]; exact hlt))
        have hfo := hown.frozenAt k
        obtain ⟨hst, hgs⟩ := hown.stored k (.int .i64 ((k0 + k : Nat) : Int))
        rw [iz_set] at hst
        have hgr2 := HGR.out.trans hgs
        have HG2 := Lib.hid hgr2
        clear hown hgr2 hgs HGR
        go_wp2_with fail
        go_roundw
        case rel => exact ⟨k + 1, xs.set k ((k0 + k : Nat) : Int), by omega, by go_num, by go_num, by rw [List.length_set]; exact HX.out, fun j hj => by
          by_cases e : j = k
          · subst e; simp [HX.out, hlt]
          · rw [← HA.out j (by omega)]; simp [List.getElem?_set, Ne.symm e], by simpa using hst, by simpa using HG2.out⟩
        case measure => simp [intOf] <;> omega
      · obtain rfl : k = n := by omega
        have he : xs = mk k0 k := ext_getD (by rw [HX.out, mk_len]) (fun j hj => by rw [HA.out j (by rw [← HX.out]; exact hj), mk_at _ _ _ (by rw [← HX.out]; exact hj)])
        subst he
        go_wp2
        go_ret
        exact ⟨rfl, hown, HGR.out⟩
set_option maxHeartbeats 2000000 in
theorem heldInts_any (v : Value) (k0 n : Nat) (hk0 : k0 ≤ 1000000000) (hlen : n ≤ 1048576) (w : World) (hr : Rd w v (mk k0 n)) :
    Calls Try.prog 29 #[v, .int .i64 k0] w fun e w' => e = .returned (.int .i64 ((k0 + n : Nat) : Int)) ∧ w = w' := by
  obtain ⟨A, c, rfl, hc, hr⟩ := hr
  have hk := fun k (hk : k < n) => Rd.at hr (k := k) (by rw [mk_len]; exact hk)
  rw [mk_len] at *
  have HK := Lib.hid hk
  clear hr hk hc
  go_enter Try.func29, Try.ntmps29
  go_wp2_with fail
  go_loop [1, 5] (fun q i => ∃ k : Nat, k ≤ n ∧ q = .int .i64 ((k0 + k : Nat) : Int) ∧ i = .int .i64 k) (fun q i => n - (intOf i).toNat)
  case atStart => exact ⟨0, by omega, by simp, rfl⟩
  case round =>
    obtain ⟨k, hk, rfl, rfl⟩ := hrel
    by_cases hlt : k < n
    · obtain ⟨g, rfl, hcell⟩ := HK.out k hlt
      rw [mk_at _ _ _ hlt] at hcell
      have b1 : (((k0 : Int) + (k : Int)) != ((k0 + k : Nat) : Int)) = false := by simp
      have e1 : ((k0 + k : Nat) : Int) = (k0 : Int) + (k : Int) := by simp
      have b2 : (((k0 : Int) + (k : Int)) != ((k0 : Int) + (k : Int))) = false := by simp
      clear HK
      go_wp2
      go_round
      case rel => exact ⟨k + 1, by omega, by go_num, by go_num⟩
      case measure => simp [intOf] <;> omega
    · obtain rfl : k = n := by omega
      go_wp2
      go_ret
      exact ⟨rfl, rfl⟩
end Go.Proofs.Ytcfaammnkbkfcaa
