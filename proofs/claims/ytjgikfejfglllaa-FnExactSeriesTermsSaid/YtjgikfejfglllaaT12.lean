/- The long division of sizes, bit by bit: the reference's. -/
import Derived.Test.YtjgikfejfglllaaT11
import Derived.Test.YtjgikfejfglllaaT9
import Derived.Test.YtjgikfejfglllaaS3
import Derived.Test.YtjgikfejfglllaaS4
set_option linter.unusedVariables false
set_option linter.unusedSimpArgs false
namespace Go.Proofs.Ytjgikfejfglllaa
open Go.RowKit


theorem u32_twice (x : Nat) : IntKind.u32.wrap ((x : Int) * 2) = ((shH x 1 : Nat) : Int) := u32_shl x 1
theorem u32_high (x : Nat) : (x : Int) / 2147483648 = ((shL x 1 : Nat) : Int) := rfl
theorem u32_and1 (v : Nat) (h : v < 4294967296) : bits .and .u32 (v : Int) 1 = ((v % 2 : Nat) : Int) := by
  have := u32_and_nat v 1 h (by decide)
  rw [Nat.and_one_is_mod] at this
  exact this
theorem u32_or1 (x b : Nat) (hb : b ≤ 1) : bits .or .u32 ((shH x 1 : Nat) : Int) (b : Int) = ((shH x 1 + b : Nat) : Int) := by
  rw [u32_or_nat _ _ (shH_lt x 1) (by omega), nat_join 1 _ _ (shH_mod (by omega)) (by omega)]
theorem cmp_ge {M N : Nat} : decide (0 ≤ cmp M N) = decide (N ≤ M) := by
  unfold cmp
  by_cases a : M < N
  · rw [if_pos a, decide_eq_false (show ¬ N ≤ M by omega)]; rfl
  · rw [if_neg a, decide_eq_true (show N ≤ M by omega)]
    split <;> rfl
theorem cl_pw (M : Nat) : cl (lb (M % pw 6)) = cl (lb M) := cl_congr fun k hk => lb_mod M hk

theorem div_next {M N K T b q r : Nat} (hK : M / 2 ^ K = 2 * T + b) (hN : 0 < N) (hb : b ≤ 1) (hq : q = T / N * 2 ^ (K + 1)) (hr : r = T % N) :
    (N ≤ 2 * r + b → (∀ j, lb (M / 2 ^ K / N * 2 ^ K) j = if j = K / 32 then lb q j + 2 ^ (K % 32) else lb q j) ∧ M / 2 ^ K % N = 2 * r + b - N) ∧
    (¬ N ≤ 2 * r + b → M / 2 ^ K / N * 2 ^ K = q ∧ M / 2 ^ K % N = 2 * r + b) := by
  have h := div_bit T N b hN hb
  rw [← hr] at h
  rw [hK]
  constructor
  · intro c
    rw [if_pos c, if_pos c] at h
    refine ⟨fun j => ?_, h.2⟩
    rw [h.1, show (2 * (T / N) + 1) * 2 ^ K = q + 2 ^ K by rw [hq, Nat.pow_succ]; grind, hq]
    exact quo_bit (T / N) K j
  · intro c
    rw [if_neg c, if_neg c] at h
    refine ⟨?_, h.2⟩
    rw [h.1, hq, Nat.pow_succ]
    grind
theorem Blk.far6 {w : World} {g t k : Nat} {cs : Array Value} (h : Blk w g t cs) (hk : g ≠ k) (v0 v1 v2 v3 v4 v5 : Value) : Blk (((((((w).setCell ⟨k, 0, none⟩ v0).setCell ⟨k, 1, none⟩ v1).setCell ⟨k, 2, none⟩ v2).setCell ⟨k, 3, none⟩ v3).setCell ⟨k, 4, none⟩ v4).setCell ⟨k, 5, none⟩ v5) g t cs :=
  (((((h.far (p := ⟨k, 0, none⟩) hk v0).far (p := ⟨k, 1, none⟩) hk v1).far (p := ⟨k, 2, none⟩) hk v2).far (p := ⟨k, 3, none⟩) hk v3).far (p := ⟨k, 4, none⟩) hk v4).far (p := ⟨k, 5, none⟩) hk v5
/-- What lies in memory at the head of each round of the division. -/
structure Dm (w wr : World) (g h M N : Nat) (fq fr : Nat → Nat) : Prop where
  a : Blk wr g 147 (cl (lb M))
  b : Blk wr h 147 (cl (lb N))
  x : Blk wr w.heap.size 147 (cl fun _ => 0)
  y : Blk wr (w.heap.size + 1) 147 (cl fun _ => 0)
  q : Blk wr (w.heap.size + 1 + 1) 147 (cl fq)
  r : Blk wr (w.heap.size + 1 + 1 + 1) 147 (cl fr)
  hb : Below w.heap.size w wr
  lg : g < w.heap.size
  lh : h < w.heap.size
section
variable {w wr : World} {g h M N : Nat} {fq fr : Nat → Nat}
theorem Dm.drewN (d : Dm w wr g h M N fq fr) (n : Nat) : Dm w (wr.drewN n) g h M N fq fr :=
  ⟨d.a.drewN n, d.b.drewN n, d.x.drewN n, d.y.drewN n, d.q.drewN n, d.r.drewN n, below_drewN d.hb n, d.lg, d.lh⟩
theorem Dm.later {w2 : World} (d : Dm w wr g h M N fq fr) (hb : Below wr.heap.size wr w2) : Dm w w2 g h M N fq fr :=
  ⟨d.a.later hb, d.b.later hb, d.x.later hb, d.y.later hb, d.q.later hb, d.r.later hb, below_then d.hb hb, d.lg, d.lh⟩
theorem Dm.setR (d : Dm w wr g h M N fq fr) {k v : Nat} (hk : k < 6) {fr' : Nat → Nat} (h2 : ∀ j, j < 6 → fr' j = if j = k then v else fr j) : Dm w (wr.setCell ⟨w.heap.size + 1 + 1 + 1, k, none⟩ (.int .u32 v)) g h M N fq fr' :=
  have lg := d.lg
  have lh := d.lh
  ⟨d.a.far (by simp <;> omega) _, d.b.far (by simp <;> omega) _, d.x.far (by simp <;> omega) _, d.y.far (by simp <;> omega) _, d.q.far (by simp <;> omega) _, cl_put d.r hk h2, below_set d.hb (by simp <;> omega) _, lg, lh⟩
theorem Dm.setQ (d : Dm w wr g h M N fq fr) {k v : Nat} (hk : k < 6) {fq' : Nat → Nat} (h2 : ∀ j, j < 6 → fq' j = if j = k then v else fq j) : Dm w (wr.setCell ⟨w.heap.size + 1 + 1, k, none⟩ (.int .u32 v)) g h M N fq' fr :=
  have lg := d.lg
  have lh := d.lh
  ⟨d.a.far (by simp <;> omega) _, d.b.far (by simp <;> omega) _, d.x.far (by simp <;> omega) _, d.y.far (by simp <;> omega) _, cl_put d.q hk h2, d.r.far (by simp <;> omega) _, below_set d.hb (by simp <;> omega) _, lg, lh⟩
theorem Dm.rowR (d : Dm w wr g h M N fq fr) (fr' : Nat → Nat) : Dm w (wr.setRow (w.heap.size + 1 + 1 + 1) (cl fr')) g h M N fq fr' :=
  have lg := d.lg
  have lh := d.lh
  ⟨d.a.row_far (by omega) _, d.b.row_far (by omega) _, d.x.row_far (by omega) _, d.y.row_far (by omega) _, d.q.row_far (by omega) _, d.r.row _, below_row d.hb (by omega) _, lg, lh⟩
theorem Dm.congr (d : Dm w wr g h M N fq fr) {fq' fr' : Nat → Nat} (h1 : ∀ j, j < 6 → fq' j = fq j) (h2 : ∀ j, j < 6 → fr' j = fr j) : Dm w wr g h M N fq' fr' :=
  ⟨d.a, d.b, d.x, d.y, by rw [cl_congr h1]; exact d.q, by rw [cl_congr h2]; exact d.r, d.hb, d.lg, d.lh⟩
end

set_option maxHeartbeats 4000000 in
theorem divMag_any (g h : Nat) (M N : Nat) (hM : M < pw 6) (hN : N < pw 6) (hN0 : 0 < N) (w : World) (hG : Blk w g 147 (cl (lb M))) (hH : Blk w h 147 (cl (lb N))) :
    Calls Try.prog 140 #[.pointer (some ⟨g, 0, none⟩), .pointer (some ⟨h, 0, none⟩)] w fun e w' => e = .returned (.tuple #[szv (M / N), szv (M % N)]) ∧ Below w.heap.size w w' := by
  have lg := hG.lt
  have lh := hH.lt
  have hnb := nb_size hM
  have hZ0 : M / 2 ^ nb M = 0 := Nat.div_eq_of_lt (nb_lt M)
  have HZ0 := Lib.hid hZ0
  clear hZ0
  go_enter Try.func140, Try.ntmps140
  go_wp2_with (go_at_call 161; refine (refBits_any g M hM _ (by exact (((hG.alloc _).alloc _).alloc _).alloc _)).mono ?_; rintro e w1 ⟨rfl, rfl⟩)
  go_loopw [8] (fun i wr => ∃ k : Nat, k ≤ 192 ∧ i = .int .i64 ((k : Int) - 1) ∧ Dm w wr g h M N (lb (M / 2 ^ k / N * 2 ^ k)) (lb (M / 2 ^ k % N)))
    (fun i _ => (intOf i + 1).toNat)
  case atStart =>
    refine ⟨nb M, hnb, by simp, (((hG.alloc _).alloc _).alloc _).alloc _, (((hH.alloc _).alloc _).alloc _).alloc _, ?_, ?_, ?_, ?_, ?_, lg, lh⟩
    · exact (((Blk.newAt (by simp) 147 (cl fun _ => 0)).alloc _).alloc _).alloc _
    · exact ((Blk.newAt (by simp) 147 (cl fun _ => 0)).alloc _).alloc _
    · rw [HZ0.out, Nat.zero_div, Nat.zero_mul, show cl (lb 0) = cl fun _ => 0 from cl_congr fun j _ => lb_zero j]
      exact (Blk.newAt (by simp) 147 (cl fun _ => 0)).alloc _
    · rw [HZ0.out, Nat.zero_mod, show cl (lb 0) = cl fun _ => 0 from cl_congr fun j _ => lb_zero j]
      exact Blk.newAt (by simp) 147 (cl fun _ => 0)
    · exact below_alloc (below_alloc (below_alloc (below_alloc (Below.refl _ _) _) _) _) _
  case round =>
    obtain ⟨k, hk, rfl, D⟩ := hrel
    clear hG hH
    by_cases h0 : 0 < k
    · obtain ⟨K, rfl⟩ : ∃ K, k = K + 1 := ⟨k - 1, by omega⟩
      rw [show (((K + 1 : Nat) : Int) - 1) = (K : Int) by omega]
      obtain ⟨J, s, hJ, hs, hK1, hK2⟩ : ∃ J s, J ≤ 5 ∧ s ≤ 31 ∧ J = K / 32 ∧ s = K % 32 := ⟨K / 32, K % 32, by omega, by omega, rfl, rfl⟩
      have e1 : (K : Int) / 32 = (J : Int) := by omega
      have e2 : (K : Int) % 32 = (s : Int) := by omega
      have ht := half_again M K
      obtain ⟨T, hT⟩ : ∃ T, T = M / 2 ^ (K + 1) := ⟨_, rfl⟩
      have hbit := bit_at M K
      rw [← hK1, ← hK2] at hbit
      obtain ⟨b, hbd⟩ : ∃ b, b = M / 2 ^ K % 2 := ⟨_, rfl⟩
      have hb1 : b ≤ 1 := by omega
      rw [← hT, ← hbd] at ht
      rw [← hbd] at hbit
      have hstep := div_bit T N b hN0 hb1
      have hrl := Nat.mod_lt T hN0
      have hql := quo_bit (T / N) K
      have hqm := quo_limb_mod (T / N) K
      rw [← hK1, ← hK2] at hqm
      rw [← hT] at D
      have HT := Lib.hid ht
      have HSt := Lib.hid hstep
      have HQl := Lib.hid hql
      have HQm := Lib.hid hqm
      have HB := Lib.hid hbit
      have hnext := twice_next (T % N) b
      have hlow := twice_low (T % N) b hb1
      have htop := top_bit (r := T % N) (by omega)
      have HNx := Lib.hid fun j => hnext j hb1
      have HLw := Lib.hid hlow
      have HK1 := Lib.hid hK1
      have HK2 := Lib.hid hK2
      clear hT hbd ht hstep hql hqm hbit hnext hlow hK1 hK2
      obtain ⟨q, hq⟩ : ∃ q, q = T / N * 2 ^ (K + 1) := ⟨_, rfl⟩
      obtain ⟨r, hr⟩ : ∃ r, r = T % N := ⟨_, rfl⟩
      rw [← hq, ← hr] at D
      rw [← hr] at htop hrl
      have HQ := Lib.hid hq
      have HR := Lib.hid hr
      clear hq hr
      have ct := D.r.at_ (show 5 < 6 by omega)
      have hx5 := lb_le r 5
      obtain ⟨tp, htp⟩ : ∃ tp : Nat, tp = if pw 6 ≤ 2 * r then 1 else 0 := ⟨_, rfl⟩
      have et : ((lb r 5 : Nat) : Int) / 2147483648 = (tp : Int) := by rw [htp, ← htop]; rfl
      have HTp := Lib.hid htp
      clear htp htop
      go_wp2
      obtain ⟨wo, rfl⟩ : ∃ wo : World, wo = wr := ⟨_, rfl⟩
      go_loopw [10] (fun i w2 => ∃ m : Nat, m ≤ 5 ∧ i = .int .i64 m ∧ Dm w w2 g h M N (lb q) (fun j => if m < j then lb (2 * r + b) j else lb r j))
        (fun i _ => (intOf i).toNat)
      case atStart =>
        refine ⟨5, by omega, rfl, D.congr (fun _ _ => rfl) fun j hj => ?_⟩
        rw [if_neg (by omega)]
      case round =>
        obtain ⟨m, hm, rfl, D2⟩ := hrel
        by_cases hm0 : 0 < m
        · obtain ⟨m, rfl⟩ : ∃ m', m = m' + 1 := ⟨m - 1, by omega⟩
          have c1 := D2.r.at_ (show m + 1 < 6 by omega)
          have c2 := D2.r.at_ (show m < 6 by omega)
          have f1 := D2.r.frozen (m + 1)
          rw [if_neg (by omega)] at c1 c2
          have hx1 := lb_le r (m + 1)
          have hx2 := lb_le r m
          have es := u32_twice (lb r (m + 1))
          have eh := u32_high (lb r m)
          have eo := u32_join (lb r (m + 1)) (lb r m) 1 (by omega) (by omega)
          have hn := HNx.out m
          rw [← HR.out] at hn
          rw [← hn] at eo
          obtain ⟨v, hv⟩ : ∃ v, v = lb (2 * r + b) (m + 1) := ⟨_, rfl⟩
          rw [← hv] at eo
          have HV := Lib.hid hv
          clear hv hn
          go_wp2
          go_region
          go_wp2
          go_roundw
          case rel =>
            refine ⟨m, by omega, by go_num, (D2.drewN 1).setR (show m + 1 < 6 by omega) fun j hj => ?_⟩
            by_cases ej : j = m + 1
            · rw [if_pos ej, if_pos (by omega), ej, HV.out]
            · rw [if_neg ej]
              by_cases ek : m < j
              · rw [if_pos ek, if_pos (by omega)]
              · rw [if_neg ek, if_neg (by omega)]
          case measure => simp [intOf] <;> omega
        · obtain rfl : m = 0 := by omega
          have c0 := D2.r.at_ (show 0 < 6 by omega)
          have f0 := D2.r.frozen 0
          rw [if_neg (by omega)] at c0
          have cA := D2.a.at_ (show J < 6 by omega)
          have hx0 := lb_le r 0
          have hxJ := lb_le M J
          have es := u32_twice (lb r 0)
          have hv0 : lb M J / 2 ^ s ≤ 4294967295 := Nat.le_trans (Nat.div_le_self _ _) hxJ
          have esh : ((lb M J : Nat) : Int) / 2 ^ s = ((lb M J / 2 ^ s : Nat) : Int) := by simp
          have ean := u32_and1 (lb M J / 2 ^ s) (by omega)
          rw [HB.out] at ean
          obtain ⟨v0, hv0e⟩ : ∃ v0, v0 = lb M J / 2 ^ s := ⟨_, rfl⟩
          rw [← hv0e] at hv0 esh ean
          have eo := u32_or1 (lb r 0) b hb1
          have hl := HLw.out
          rw [← HR.out] at hl
          rw [← hl] at eo
          obtain ⟨v, hv⟩ : ∃ v, v = lb (2 * r + b) 0 := ⟨_, rfl⟩
          rw [← hv] at eo
          have HV := Lib.hid hv
          have HV0 := Lib.hid hv0e
          clear hv hl hv0e
          have hlg := D2.a.lt
          go_wp2
          go_region
          have D3 : Dm w (wr.setCell ⟨w.heap.size + 1 + 1 + 1, 0, none⟩ (.int .u32 v)).drew g h M N (lb q) (lb (2 * r + b)) := (D2.drewN 1).setR (show 0 < 6 by omega) fun j hj => by
            by_cases ej : j = 0
            · rw [if_pos ej, ej, HV.out]
            · rw [if_neg ej, if_pos (by omega)]
          generalize (wr.setCell ⟨w.heap.size + 1 + 1 + 1, 0, none⟩ (.int .u32 v)).drew = w3 at *
          clear D2 D es esh ean eo cA c0 f0 hlg ct et HV HV0
          have hdn := div_next HT.out hN0 hb1 HQ.out HR.out
          have hqm := HQm.out
          rw [← HQ.out] at hqm
          obtain ⟨R, hR⟩ : ∃ R, R = 2 * r + b := ⟨_, rfl⟩
          rw [← hR] at D3 hdn
          have hRN : R < 2 * N := by omega
          have HRe := Lib.hid hR
          have HD := Lib.hid hdn
          have htp1 : pw 6 ≤ 2 * r → tp = 1 := fun h => by rw [HTp.out, if_pos h]
          have htp0 : ¬ pw 6 ≤ 2 * r → tp = 0 := fun h => by rw [HTp.out, if_neg h]
          by_cases hle : N ≤ R
          · have hd1 := (HD.out).1 hle
            rw [← HK1.out, ← HK2.out] at hd1
            have HD1 := Lib.hid hd1
            have cq := D3.q.at_ (show J < 6 by omega)
            have fq := D3.q.frozen J
            have hxq := lb_le q J
            obtain ⟨P, hP⟩ : ∃ P, P = 2 ^ s := ⟨_, rfl⟩
            have ep : IntKind.u32.wrap ((1 : Int) * 2 ^ s) = (P : Int) := by
              have h1 : shH 1 s = P := by
                unfold shH
                rw [Nat.one_mul, hP, Nat.mod_eq_of_lt]
                exact Nat.lt_of_lt_of_le (Nat.pow_lt_pow_right (by omega) (show s < 32 by omega)) (by decide)
              rw [← h1]
              exact u32_shl 1 s
            have ep2 : ((2 : Int) ^ s) % 4294967296 = (P : Int) := by
              have h2 : P < 4294967296 := by rw [hP]; exact Nat.lt_of_lt_of_le (Nat.pow_lt_pow_right (by omega) (show s < 32 by omega)) (by decide)
              have h3 : ((2 : Int) ^ s) = (P : Int) := by rw [hP]; simp
              rw [h3]
              omega
            have eq1 : bits .or .u32 ((lb q J : Nat) : Int) (P : Int) = ((lb q J + P : Nat) : Int) := by
              have hPl : P < 4294967296 := by omega
              rw [u32_or_nat _ _ (by omega) hPl, nat_join (s + 1) _ _ hqm.1 (by rw [hP, Nat.pow_succ]; have := Nat.two_pow_pos s; omega)]
            obtain ⟨X, hX⟩ : ∃ X, X = lb q J + P := ⟨_, rfl⟩
            rw [← hX] at eq1
            have hfq : ∀ j, j < 6 → lb (M / 2 ^ K / N * 2 ^ K) j = if j = J then X else lb q j := fun j _ => by
              rw [hd1.1 j]
              by_cases ej : j = J
              · rw [if_pos ej, if_pos ej, hX, hP, ej]
              · rw [if_neg ej, if_neg ej]
            have HF := Lib.hid hfq
            have HE := Lib.hid hd1.2
            have HP := Lib.hid hP
            clear hP hd1 hdn hqm hR hX hfq cq fq
            by_cases ht : pw 6 ≤ 2 * r
            · have b1 : (((tp : Nat) : Int) == 1) = true := by rw [htp1 ht]; rfl
              clear htp1 htp0
              have hcall := refMinus_any (w.heap.size + 1 + 1 + 1) h R N hle w3 D3.r D3.b
              go_wp2_with fail
              refine hcall.mono ?_
              rintro e w4 ⟨rfl, hb4⟩
              have D4 := (D3.later hb4).rowR (lb (R - N))
              have cq := D4.q.at_ (show J < 6 by omega)
              have fq := D4.q.frozen J
              go_wp2_with (refine wpList_store_row rfl 147 _ _ rfl (w.heap.size + 1 + 1 + 1) (cl (lb (R - N))) rfl rfl 147 _ (D3.later hb4).r sz147 rfl (cl_all _) ?_)
              go_roundw
              case rel =>
                have e2 := HE.out
                refine ⟨K, by omega, rfl, ?_⟩
                rw [e2]
                exact D4.setQ (show J < 6 by omega) HF.out
              case measure => simp [intOf] <;> omega
            · have b1 : (((tp : Nat) : Int) == 1) = false := by rw [htp0 ht]; rfl
              clear htp1 htp0
              have hcmp2 : decide (0 ≤ cmp R N) = true := by rw [cmp_ge, decide_eq_true hle]
              have hcmp := refCmp_any (w.heap.size + 1 + 1 + 1) h R N (by have := HRe.out; have := pw_top; generalize pw 6 = Y at *; omega) hN w3 D3.r D3.b
              go_wp2_with fail
              refine hcmp.mono ?_
              rintro e w4 ⟨rfl, nd, rfl⟩
              have hcall := refMinus_any (w.heap.size + 1 + 1 + 1) h R N hle _ (D3.drewN nd).r (D3.drewN nd).b
              go_wp2_with fail
              refine hcall.mono ?_
              rintro e w4 ⟨rfl, hb4⟩
              have D4 := ((D3.drewN nd).later hb4).rowR (lb (R - N))
              have cq := D4.q.at_ (show J < 6 by omega)
              have fq := D4.q.frozen J
              go_wp2_with (refine wpList_store_row rfl 147 _ _ rfl (w.heap.size + 1 + 1 + 1) (cl (lb (R - N))) rfl rfl 147 _ ((D3.drewN nd).later hb4).r sz147 rfl (cl_all _) ?_)
              go_roundw
              case rel =>
                have e2 := HE.out
                refine ⟨K, by omega, rfl, ?_⟩
                rw [e2]
                exact D4.setQ (show J < 6 by omega) HF.out
              case measure => simp [intOf] <;> omega
          · have hd2 := (HD.out).2 hle
            have HD2 := Lib.hid hd2
            have htn : ¬ pw 6 ≤ 2 * r := fun h => by have := HRe.out; omega
            have b1 : (((tp : Nat) : Int) == 1) = false := by rw [htp0 htn]; rfl
            have hcmp2 : decide (0 ≤ cmp R N) = false := by rw [cmp_ge, decide_eq_false hle]
            have hcmp := refCmp_any (w.heap.size + 1 + 1 + 1) h R N (by have := HRe.out; have := pw_top; generalize pw 6 = Y at *; omega) hN w3 D3.r D3.b
            clear htp1 htp0 hqm hR hdn hd2
            go_wp2_with fail
            refine hcmp.mono ?_
            rintro e w4 ⟨rfl, nd, rfl⟩
            go_wp2
            go_roundw
            case rel =>
              refine ⟨K, by omega, rfl, ?_⟩
              rw [HD2.out.1, HD2.out.2]
              exact D3.drewN nd
            case measure => simp [intOf] <;> omega
    · obtain rfl : k = 0 := by omega
      rw [Nat.pow_zero, Nat.div_one, Nat.mul_one] at D
      obtain ⟨c0, c1, c2, c3, c4, c5⟩ := D.q.six
      obtain ⟨d0, d1, d2, d3, d4, d5⟩ := D.r.six
      obtain ⟨f0, f1, f2, f3, f4, f5, f6⟩ := D.x.froz
      obtain ⟨g0, g1, g2, g3, g4, g5, g6⟩ := D.y.froz
      obtain ⟨x0, x1, x2, x3, x4, x5⟩ := D.x.six
      obtain ⟨y0, y1, y2, y3, y4, y5⟩ := D.y.six
      go_wp2
      go_region
      go_wp2
      refine bodyPost_ret (v := .tuple #[szv (M / N), szv (M % N)]) ?_ rfl ⟨rfl, ?_⟩
      · rw [res_row_row Try.results140 rfl (((D.x.put6 rfl _ _ _ _ _ _).far6 (by omega) _ _ _ _ _ _).drew) rfl (((D.y.far6 (by omega) _ _ _ _ _ _).put6 rfl _ _ _ _ _ _).drew) Try.underlying147 rfl sz147 Try.underlying147 rfl sz147]
        rfl
      · exact below_drewN (below_put6 (below_put6 D.hb (Nat.le_refl _) _ _ _ _ _ _) (by omega) _ _ _ _ _ _) 1
end Go.Proofs.Ytjgikfejfglllaa
