/- Floors that are alike. -/
import Derived.Test.YtcfaammnkbkfcaaN5
set_option linter.unusedVariables false
set_option linter.unusedSimpArgs false
namespace Go.Proofs.Ytcfaammnkbkfcaa
open Go.RowKit


set_option maxHeartbeats 1000000 in
theorem index_any (v : Value) (x : Int) (l : List Int) (hlen : l.length ≤ 1048576) (w : World) (hr : Rd w v l) : Calls Try.prog 130 #[v, .int .i64 x] w fun e w' => (∃ r : Int, e = .returned (.int .i64 r) ∧ -1 ≤ r ∧ (0 ≤ r ↔ ∃ j, j < l.length ∧ l.getD j 0 = x)) ∧ w = w' := by
  obtain ⟨A, c, rfl, hc, hr⟩ := hr
  obtain ⟨n, hn⟩ : ∃ n, n = l.length := ⟨_, rfl⟩
  rw [← hn] at hlen ⊢
  have hk := fun k (hk : k < n) => Rd.at hr (k := k) (by rw [← hn]; exact hk)
  have HK := Lib.hid hk
  clear hn hr hk hc
  go_enter Try.func130, Try.ntmps130
  go_wp2
  go_loop [8] (fun i => ∃ k : Nat, k ≤ n ∧ i = .int .i64 k ∧ ∀ j, j < k → l.getD j 0 ≠ x) (fun i => n - (intOf i).toNat)
  case atStart => exact ⟨0, by omega, rfl, fun j hj => by omega⟩
  case round =>
    obtain ⟨k, hk, rfl, hall⟩ := hrel
    have HA := Lib.hid hall
    clear hall
    by_cases hlt : k < n
    · obtain ⟨g, rfl, hcell⟩ := HK.out k hlt
      by_cases he : x = l.getD k 0
      · rw [← he] at hcell
        have b1 : (x == x) = true := beq_self_eq_true x
        have HE := Lib.hid he
        clear he
        go_wp2
        go_ret
        exact ⟨⟨k, rfl, by omega, fun _ => ⟨k, hlt, HE.out.symm⟩, fun _ => by omega⟩, rfl⟩
      · obtain ⟨y, hy⟩ : ∃ y, y = l.getD k 0 := ⟨_, rfl⟩
        rw [← hy] at hcell he
        have HY := Lib.hid hy
        have b1 : (x == y) = false := beq_false_of_ne he
        have HE := Lib.hid he
        clear hy he
        go_wp2
        go_round
        case rel => exact ⟨k + 1, by omega, by go_num, fun j hj => by
          by_cases e : j = k
          · subst e; rw [← HY.out]; exact Ne.symm HE.out
          · exact HA.out j (by omega)⟩
        case measure => simp [intOf] <;> omega
    · obtain rfl : k = n := by omega
      go_wp2
      go_ret
      exact ⟨⟨-1, rfl, by omega, fun h => by omega, fun ⟨j, hj, he⟩ => absurd he (HA.out j hj)⟩, rfl⟩
theorem contains_any (v : Value) (x : Int) (l : List Int) (hlen : l.length ≤ 1048576) (w : World) (hr : Rd w v l) (b : Bool) (hb : b = true ↔ ∃ j, j < l.length ∧ l.getD j 0 = x) : Calls Try.prog 181 #[v, .int .i64 x] w fun e w' => e = .returned (.bool b) ∧ w = w' := by
  have hi := index_any v x l hlen w hr
  go_enter Try.func181, Try.ntmps181
  go_wp2_with (go_at_call 130; refine hi.mono ?_; rintro e w' ⟨⟨r, rfl, hr1, hr2⟩, rfl⟩; rw [← hb] at hr2; have HR := Lib.hid hr2; clear hr2 hb)
  go_ret
  refine ⟨congrArg (fun z => Ending.returned (.bool z)) ?_, rfl⟩
  cases b with
  | true => exact decide_eq_true (HR.out.2 rfl)
  | false => exact decide_eq_false fun h => by cases HR.out.1 h

/-- The divisors are of one sign and all quotients have one floor. -/
def alkOk (ns ds : List Int) (j : Nat) : Prop := ds.getD j 0 ≠ 0 ∧ (ds.getD j 0 < 0 ↔ ds.getD 0 0 < 0) ∧ fl (ns.getD j 0) (ds.getD j 0) = fl (ns.getD 0 0) (ds.getD 0 0)
instance (ns ds : List Int) (j : Nat) : Decidable (alkOk ns ds j) := by unfold alkOk; exact inferInstance
def alk (ns ds : List Int) : Bool := decide (∀ j, j < ds.length → alkOk ns ds j)
def alkV (ns ds : List Int) : Int := if alk ns ds = true then fl (ns.getD 0 0) (ds.getD 0 0) else 0
theorem alk_yes {ns ds : List Int} (h : ∀ j, j < ds.length → alkOk ns ds j) : alk ns ds = true := decide_eq_true h
theorem alk_no {ns ds : List Int} {j : Nat} (hj : j < ds.length) (h : ¬ alkOk ns ds j) : alk ns ds = false := decide_eq_false fun e => h (e j hj)

theorem q_of {P : Program} {f : FuncId} {args : Array Value} {v : Value} (h : ∀ w, Calls P f args w fun e w' => e = .returned v ∧ w = w') (W : World) (n : Nat) : Calls P f args (W.drewN n) fun e w'' => e = .returned v ∧ ∃ m, w'' = W.drewN m :=
  (h _).mono fun e w' hh => ⟨hh.1, n, hh.2.symm⟩
theorem Drw.cell {w v : World} (h : Drw w v) (p : Addr) : v.cell? p = w.cell? p := by
  obtain ⟨m, rfl⟩ := h
  rfl
theorem Drw.here (w : World) (n : Nat) : Drw w (w.drewN n) := ⟨n, rfl⟩
set_option maxHeartbeats 4000000 in
theorem gives_any (v u : Value) (ns ds : List Int) (h1 : 1 ≤ ds.length) (hlen : ds.length ≤ 1000) (he : ns.length = ds.length)
    (hb : ∀ j, j < ns.length → -4000000000000000000 ≤ ns.getD j 0 ∧ ns.getD j 0 ≤ 4000000000000000000) (w : World) (hr : Rd w v ns) (hu : Rd w u ds) :
    Calls Try.prog 163 #[v, u] w fun e w' => e = .returned (.tuple #[.int .i64 (alkV ns ds), .bool (alk ns ds)]) ∧ Drw w w' := by
  have hcon := fun w (hu : Rd w u ds) b hb => contains_any u 0 ds (by omega) w hu b hb
  have HCON := Lib.hid hcon
  have HU := Lib.hid hu
  clear hcon
  obtain ⟨A, c, rfl, hc, hr⟩ := hr
  obtain ⟨A', c', rfl, hc', hu⟩ := hu
  obtain ⟨n, hn⟩ : ∃ n, n = ds.length := ⟨_, rfl⟩
  rw [he] at hb ⊢
  rw [← hn] at hlen h1 hb ⊢
  have hk := fun k (hk : k < n) => Rd.at hr (k := k) (by rw [he, ← hn]; exact hk)
  have hk' := fun k (hk : k < n) => Rd.at hu (k := k) (by rw [← hn]; exact hk)
  have HK := Lib.hid hk
  have HK' := Lib.hid hk'
  have HB := Lib.hid hb
  have HN := Lib.hid hn
  have HCON' : ∀ b, (b = true ↔ ∃ j, j < n ∧ ds.getD j 0 = 0) → Calls Try.prog 181 #[.slice A' n c', .int .i64 0] w fun e w' => e = .returned (.bool b) ∧ w = w' := by
    intro b hb
    have := HCON.out w HU.out b (by rw [← hn]; exact hb)
    rwa [← hn] at this
  clear hr hu hk hk' hc hc' hb he HU HCON
  obtain ⟨V, hV⟩ : ∃ V, V = alk ns ds := ⟨_, rfl⟩
  obtain ⟨q, hq⟩ : ∃ q, q = alkV ns ds := ⟨_, rfl⟩
  rw [← hV, ← hq]
  have HV := Lib.hid hV
  have HQ := Lib.hid hq
  clear hV hq hn
  by_cases hz : ∃ j, j < n ∧ ds.getD j 0 = 0
  · have hC := HCON' true ⟨fun _ => hz, fun _ => rfl⟩
    obtain ⟨j, hj, hz⟩ := hz
    have hno : V = false := by rw [HV.out]; exact alk_no (j := j) (by rw [← HN.out]; exact hj) fun h => h.1 hz
    have hq0 : q = 0 := by rw [HQ.out]; unfold alkV; rw [← HV.out, hno]; rfl
    subst hno hq0
    clear HCON' hz
    go_enter Try.func163, Try.ntmps163
    go_wp2_with (go_at_call 181; refine hC.mono ?_; rintro e w' ⟨rfl, rfl⟩)
    go_ret2
    exact ⟨rfl, by repeat (first | exact Drw.refl _ | exact HD.out | exact hd | refine Drw.step ?_ _)⟩
  · have hC := HCON' false ⟨fun h => absurd h (by simp), fun h => absurd h hz⟩
    have HZ : ∀ j, j < n → ds.getD j 0 ≠ 0 := fun j hj e => hz ⟨j, hj, e⟩
    have HZ := Lib.hid HZ
    clear HCON' hz
    obtain ⟨g, rfl, hcn⟩ := HK.out 0 (by omega)
    obtain ⟨g', rfl, hcd⟩ := HK'.out 0 (by omega)
    obtain ⟨x0, hx0⟩ : ∃ x, x = ns.getD 0 0 := ⟨_, rfl⟩
    obtain ⟨y0, hy0⟩ : ∃ x, x = ds.getD 0 0 := ⟨_, rfl⟩
    have hf0 := fun w => floor_any x0 y0 (by rw [hy0]; exact HZ.out 0 (by omega)) (by rw [hx0]; exact (HB.out 0 (by omega)).1) (by rw [hx0]; exact (HB.out 0 (by omega)).2) w
    rw [← hx0] at hcn
    rw [← hy0] at hcd
    obtain ⟨f0, hf⟩ : ∃ f, f = fl x0 y0 := ⟨_, rfl⟩
    rw [← hf] at hf0
    have HX0 := Lib.hid hx0
    have HY0 := Lib.hid hy0
    have HF := Lib.hid hf
    have n0 : (0 : Int) < n := by omega
    have n0' : 0 < n := by omega
    clear hx0 hy0 hf
    go_enter Try.func163, Try.ntmps163
    go_wp2_with (go_at_call 181; refine hC.mono ?_; rintro e w' ⟨rfl, rfl⟩)
    go_quiet (first | (go_at_call_of 139 (Value.int IntKind.i64 x0); exact q_of hf0 _ _))
    go_wp2
    go_loopw [19] (fun i wr => ∃ k : Nat, k ≤ n ∧ i = .int .i64 k ∧ (∀ j, j < k → alkOk ns ds j) ∧ Drw w wr) (fun i _ => n - (intOf i).toNat)
    case atStart => exact ⟨0, by omega, rfl, fun j hj => by omega, ⟨_, rfl⟩⟩
    case round =>
      obtain ⟨k, hk, rfl, hall, hd⟩ := hrel
      have HA := Lib.hid hall
      clear hall
      by_cases hlt : k < n
      · obtain ⟨gg, ee, hcnk⟩ := HK.out k hlt
        obtain rfl : gg = g := by cases ee; rfl
        obtain ⟨gg', ee', hcdk⟩ := HK'.out k hlt
        obtain rfl : gg' = g' := by cases ee'; rfl
        clear ee ee'
        have hcnk := (hd.cell _).trans hcnk
        have hcdk := (hd.cell _).trans hcdk
        have hcn := (hd.cell _).trans hcn
        have hcd := (hd.cell _).trans hcd
        have HD := Lib.hid hd
        clear hd
        obtain ⟨x, hx⟩ : ∃ x, x = ns.getD k 0 := ⟨_, rfl⟩
        obtain ⟨y, hy⟩ : ∃ x, x = ds.getD k 0 := ⟨_, rfl⟩
        have hfk := fun w => floor_any x y (by rw [hy]; exact HZ.out k hlt) (by rw [hx]; exact (HB.out k hlt).1) (by rw [hx]; exact (HB.out k hlt).2) w
        rw [← hx] at hcnk
        rw [← hy] at hcdk
        obtain ⟨f, hf⟩ : ∃ f, f = fl x y := ⟨_, rfl⟩
        rw [← hf] at hfk
        by_cases hs : y < 0 ↔ y0 < 0
        · have b1 : (decide (y < 0) == decide (y0 < 0)) = true := by simp [hs]
          by_cases hff : f = f0
          · have hok : alkOk ns ds k := ⟨HZ.out k hlt, by rw [← hy, ← HY0.out]; exact hs, by rw [← hx, ← hy, ← HX0.out, ← HY0.out, ← hf, ← HF.out]; exact hff⟩
            have HOK := Lib.hid hok
            subst hff
            have b2 : (f == f) = true := beq_self_eq_true f
            clear hok hf hx hy hs
            go_wp2
            go_quiet (first | (go_at_call_of 139 (Value.int IntKind.i64 x); exact q_of hfk _ _))
            go_wp2
            go_roundw
            case rel => exact ⟨k + 1, by omega, by go_num, fun j hj => by
              by_cases e : j = k
              · subst e; exact HOK.out
              · exact HA.out j (by omega), by repeat (first | exact Drw.refl _ | exact HD.out | exact hd | refine Drw.step ?_ _)⟩
            case measure => simp [intOf] <;> omega
          · have hno : V = false := by
              rw [HV.out]
              refine alk_no (j := k) (by rw [← HN.out]; exact hlt) fun h => hff ?_
              have := h.2.2
              rw [← hx, ← hy, ← HX0.out, ← HY0.out, ← hf, ← HF.out] at this
              exact this
            have hq0 : q = 0 := by rw [HQ.out]; unfold alkV; rw [← HV.out, hno]; rfl
            subst hno hq0
            have b2 : (f == f0) = false := beq_false_of_ne hff
            clear hf hx hy hs hff
            go_wp2
            go_quiet (first | (go_at_call_of 139 (Value.int IntKind.i64 x); exact q_of hfk _ _))
            go_wp2
            go_ret2
            exact ⟨rfl, by repeat (first | exact Drw.refl _ | exact HD.out | exact hd | refine Drw.step ?_ _)⟩
        · have hno : V = false := by
            rw [HV.out]
            refine alk_no (j := k) (by rw [← HN.out]; exact hlt) fun h => hs ?_
            have := h.2.1
            rw [← hy, ← HY0.out] at this
            exact this
          have hq0 : q = 0 := by rw [HQ.out]; unfold alkV; rw [← HV.out, hno]; rfl
          subst hno hq0
          have b1 : (decide (y < 0) == decide (y0 < 0)) = false := by
            rw [beq_eq_false_iff_ne]
            intro e
            exact hs (by simpa using e)
          clear hf hx hy hs
          go_wp2
          go_quiet (fail)
          go_wp2
          go_ret2
          exact ⟨rfl, by repeat (first | exact Drw.refl _ | exact HD.out | exact hd | refine Drw.step ?_ _)⟩
      · obtain rfl : k = n := by omega
        have hyes : V = true := by rw [HV.out]; exact alk_yes (by rw [← HN.out]; exact HA.out)
        have hq0 : q = f0 := by rw [HQ.out]; unfold alkV; rw [← HV.out, hyes, if_pos rfl, ← HX0.out, ← HY0.out, ← HF.out]
        subst hyes hq0
        go_wp2
        go_ret2
        exact ⟨rfl, by repeat (first | exact Drw.refl _ | exact HD.out | exact hd | refine Drw.step ?_ _)⟩
end Go.Proofs.Ytcfaammnkbkfcaa
