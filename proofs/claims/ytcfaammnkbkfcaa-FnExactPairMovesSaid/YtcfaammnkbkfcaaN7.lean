/- Floors that are alike: the reference. -/
import Derived.Test.YtcfaammnkbkfcaaN6
set_option linter.unusedVariables false
set_option linter.unusedSimpArgs false
namespace Go.Proofs.Ytcfaammnkbkfcaa
open Go.RowKit


def sgOk (ds : List Int) (j : Nat) : Prop := ds.getD j 0 ≠ 0 ∧ (0 < ds.getD j 0 ↔ 0 < ds.getD 0 0)
theorem sgOk_of {ns ds : List Int} {j : Nat} (h0 : ds.getD 0 0 ≠ 0) (h : alkOk ns ds j) : sgOk ds j := by
  refine ⟨h.1, ?_⟩
  have h1 := h.1
  have h2 := h.2.1
  omega
theorem alk_len {ns ds : List Int} (n : Nat) (hn : n = ds.length) (h : alk ns ds = true) : ∀ j, j < n → alkOk ns ds j := by
  subst hn
  exact of_decide_eq_true h
set_option maxHeartbeats 4000000 in
theorem alike_any (v u : Value) (ns ds : List Int) (h1 : 1 ≤ ds.length) (hlen : ds.length ≤ 1000) (he : ns.length = ds.length)
    (hb : ∀ j, j < ns.length → -4000000000000000000 ≤ ns.getD j 0 ∧ ns.getD j 0 ≤ 4000000000000000000) (w : World) (hr : Rd w v ns) (hu : Rd w u ds) :
    Calls Try.prog 145 #[v, u] w fun e w' => e = .returned (.tuple #[.int .i64 (alkV ns ds), .bool (alk ns ds)]) ∧ Drw w w' := by
  obtain ⟨A, c, rfl, hc, hr⟩ := hr
  obtain ⟨A', c', rfl, hc', hu⟩ := hu
  obtain ⟨n, hn⟩ : ∃ n, n = ds.length := ⟨_, rfl⟩
  rw [he] at hb ⊢
  rw [← hn] at hlen h1 hb ⊢
  have hk := fun k (hk : k < n) => Rd.at hr (k := k) (by rw [he, ← hn]; exact hk)
  have hk' := fun k (hk : k < n) => Rd.at hu (k := k) (by rw [← hn]; exact hk)
  have HK := Lib.hid hk
  have HK' := Lib.hid hk'
  have HB := Lib.hid hb
  have HN := Lib.hid hn
  clear hr hu hk hk' hc hc' hb he
  obtain ⟨V, hV⟩ : ∃ V, V = alk ns ds := ⟨_, rfl⟩
  obtain ⟨q, hq⟩ : ∃ q, q = alkV ns ds := ⟨_, rfl⟩
  rw [← hV, ← hq]
  have HV := Lib.hid hV
  have HQ := Lib.hid hq
  clear hV hq hn
  have HQ0 : V = false → q = 0 := fun hno => by rw [HQ.out]; unfold alkV; rw [← HV.out, hno]; rfl
  obtain ⟨g, rfl, hcn⟩ := HK.out 0 (by omega)
  obtain ⟨g', rfl, hcd⟩ := HK'.out 0 (by omega)
  obtain ⟨x0, hx0⟩ : ∃ x, x = ns.getD 0 0 := ⟨_, rfl⟩
  obtain ⟨y0, hy0⟩ : ∃ x, x = ds.getD 0 0 := ⟨_, rfl⟩
  rw [← hx0] at hcn
  rw [← hy0] at hcd
  have HX0 := Lib.hid hx0
  have HY0 := Lib.hid hy0
  have n0 : (0 : Int) < n := by omega
  have n0' : 0 < n := by omega
  clear hx0 hy0
  have HCN := Lib.hid hcn
  have HCD := Lib.hid hcd
  go_enter Try.func145, Try.ntmps145
  go_wp2
  go_loopw [6] (fun i wr => ∃ k : Nat, k ≤ n ∧ i = .int .i64 k ∧ (∀ j, j < k → sgOk ds j) ∧ Drw w wr) (fun i _ => n - (intOf i).toNat)
  case atStart => exact ⟨0, by omega, rfl, fun j hj => by omega, by repeat (first | exact Drw.refl _ | exact HD.out | exact hd | refine Drw.step ?_ _)⟩
  case round =>
    obtain ⟨k, hk, rfl, hall, hd⟩ := hrel
    have HA := Lib.hid hall
    clear hall
    have hcn := (hd.cell _).trans hcn
    have hcd := (hd.cell _).trans hcd
    by_cases hlt : k < n
    · obtain ⟨gg', ee', hcdk⟩ := HK'.out k hlt
      obtain rfl : gg' = g' := by cases ee'; rfl
      clear ee'
      have hcdk := (hd.cell _).trans hcdk
      have HD := Lib.hid hd
      clear hd
      obtain ⟨y, hy⟩ : ∃ x, x = ds.getD k 0 := ⟨_, rfl⟩
      rw [← hy] at hcdk
      by_cases hz : y = 0
      · have hno : V = false := by
          rw [HV.out]
          refine alk_no (j := k) (by rw [← HN.out]; exact hlt) fun h => ?_
          have := h.1
          rw [← hy] at this
          exact this hz
        obtain rfl := HQ0 hno
        subst hno hz
        have b1 : ((0 : Int) == 0) = true := rfl
        clear hy HQ0
        go_wp2
        go_quiet (fail)
        go_wp2
        go_ret2
        exact ⟨rfl, by repeat (first | exact Drw.refl _ | exact HD.out | exact hd | refine Drw.step ?_ _)⟩
      · have b1 : (y == 0) = false := beq_false_of_ne hz
        by_cases hs : 0 < y ↔ 0 < y0
        · have b2 : (decide (0 < y) == decide (0 < y0)) = true := by simp [hs]
          have hok : sgOk ds k := ⟨by rw [← hy]; exact hz, by rw [← hy, ← HY0.out]; exact hs⟩
          have HOK := Lib.hid hok
          clear hy hs hz hok
          go_wp2
          go_quiet (fail)
          go_wp2
          go_roundw
          case rel => exact ⟨k + 1, by omega, by go_num, fun j hj => by
            by_cases e : j = k
            · subst e; exact HOK.out
            · exact HA.out j (by omega), by repeat (first | exact Drw.refl _ | exact HD.out | exact hd | refine Drw.step ?_ _)⟩
          case measure => simp [intOf] <;> omega
        · have hno : V = false := by
            cases hV : V with
            | false => rfl
            | true =>
              exfalso
              have ha := alk_len n HN.out (HV.out.symm.trans hV)
              have := (sgOk_of (ha 0 (by omega)).1 (ha k hlt)).2
              rw [← hy, ← HY0.out] at this
              exact hs this
          have b2 : (decide (0 < y) == decide (0 < y0)) = false := by
            rw [beq_eq_false_iff_ne]
            intro e
            exact hs (by simpa using e)
          obtain rfl := HQ0 hno
          subst hno
          clear hy hs hz HQ0
          go_wp2
          go_quiet (fail)
          go_wp2
          go_ret2
          exact ⟨rfl, by repeat (first | exact Drw.refl _ | exact HD.out | exact hd | refine Drw.step ?_ _)⟩
    · obtain rfl : k = n := by omega
      have HS := HA.out
      have hf0 := fun w => refFloor_any x0 y0 (by rw [HY0.out]; exact (HS 0 (by omega)).1) (by rw [HX0.out]; exact (HB.out 0 (by omega)).1) (by rw [HX0.out]; exact (HB.out 0 (by omega)).2) w
      obtain ⟨f0, hf⟩ : ∃ f, f = fl x0 y0 := ⟨_, rfl⟩
      rw [← hf] at hf0
      have HF := Lib.hid hf
      have HS := Lib.hid HS
      have HD := Lib.hid hd
      clear hf hd
      go_wp2
      go_quiet (first | (go_at_call_of 174 (Value.int IntKind.i64 x0); exact q_of hf0 _ _))
      go_wp2
      go_loopw [8] (fun i wr => ∃ m : Nat, 1 ≤ m ∧ m ≤ k ∧ i = .int .i64 m ∧ (∀ j, j < m → alkOk ns ds j) ∧ Drw w wr) (fun i _ => k - (intOf i).toNat)
      case atStart => exact ⟨1, by omega, by omega, rfl, fun j hj => by
        obtain rfl : j = 0 := by omega
        exact ⟨(HS.out 0 (by omega)).1, Iff.rfl, rfl⟩, by repeat (first | exact Drw.refl _ | exact HD.out | exact hd | refine Drw.step ?_ _)⟩
      case round =>
        obtain ⟨m, hm1, hm, rfl, hall, hd⟩ := hrel
        have HA2 := Lib.hid hall
        clear hall
        have hcn := (hd.cell _).trans HCN.out
        have hcd := (hd.cell _).trans HCD.out
        by_cases hlt : m < k
        · obtain ⟨gg, ee, hcnk⟩ := HK.out m hlt
          obtain rfl : gg = g := by cases ee; rfl
          obtain ⟨gg', ee', hcdk⟩ := HK'.out m hlt
          obtain rfl : gg' = g' := by cases ee'; rfl
          clear ee ee'
          have hcdk := (hd.cell _).trans hcdk
          have hcnk := (hd.cell _).trans hcnk
          have HD := Lib.hid hd
          clear hd
          obtain ⟨x, hx⟩ : ∃ x, x = ns.getD m 0 := ⟨_, rfl⟩
          obtain ⟨y, hy⟩ : ∃ x, x = ds.getD m 0 := ⟨_, rfl⟩
          have hfk := fun w => refFloor_any x y (by rw [hy]; exact (HS.out m hlt).1) (by rw [hx]; exact (HB.out m hlt).1) (by rw [hx]; exact (HB.out m hlt).2) w
          rw [← hx] at hcnk
          rw [← hy] at hcdk
          obtain ⟨f, hf⟩ : ∃ f, f = fl x y := ⟨_, rfl⟩
          rw [← hf] at hfk
          by_cases hff : f = f0
          · have hok : alkOk ns ds m := ⟨(HS.out m hlt).1, by
              have a := (HS.out m hlt)
              have b := (HS.out 0 (by omega)).1
              have a1 := a.1
              have a2 := a.2
              omega, by rw [← hx, ← hy, ← HX0.out, ← HY0.out, ← hf, ← HF.out]; exact hff⟩
            have HOK := Lib.hid hok
            subst hff
            have b2 : (f == f) = true := beq_self_eq_true f
            clear hok hf hx hy
            go_wp2
            go_quiet (first | (go_at_call_of 174 (Value.int IntKind.i64 x); exact q_of hfk _ _))
            go_wp2
            go_roundw
            case rel => exact ⟨m + 1, by omega, by omega, by go_num, fun j hj => by
              by_cases e : j = m
              · subst e; exact HOK.out
              · exact HA2.out j (by omega), by repeat (first | exact Drw.refl _ | exact HD.out | exact hd | refine Drw.step ?_ _)⟩
            case measure => simp [intOf] <;> omega
          · have hno : V = false := by
              rw [HV.out]
              refine alk_no (j := m) (by rw [← HN.out]; exact hlt) fun h => hff ?_
              have := h.2.2
              rw [← hx, ← hy, ← HX0.out, ← HY0.out, ← hf, ← HF.out] at this
              exact this
            obtain rfl := HQ0 hno
            subst hno
            have b2 : (f == f0) = false := beq_false_of_ne hff
            clear hf hx hy hff HQ0
            go_wp2
            go_quiet (first | (go_at_call_of 174 (Value.int IntKind.i64 x); exact q_of hfk _ _))
            go_wp2
            go_ret2
            exact ⟨rfl, by repeat (first | exact Drw.refl _ | exact HD.out | exact hd | refine Drw.step ?_ _)⟩
        · obtain rfl : m = k := by omega
          have hyes : V = true := by rw [HV.out]; exact alk_yes (by rw [← HN.out]; exact HA2.out)
          have hq0 : q = f0 := by rw [HQ.out]; unfold alkV; rw [← HV.out, hyes, if_pos rfl, ← HX0.out, ← HY0.out, ← HF.out]
          subst hyes hq0
          clear HQ0
          go_wp2
          go_ret2
          exact ⟨rfl, by repeat (first | exact Drw.refl _ | exact HD.out | exact hd | refine Drw.step ?_ _)⟩
end Go.Proofs.Ytcfaammnkbkfcaa
