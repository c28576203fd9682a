/- Runs: the plain law. -/
import Derived.Test.YtcfaammnkbkfcaaN9
set_option linter.unusedVariables false
set_option linter.unusedSimpArgs false
namespace Go.Proofs.Ytcfaammnkbkfcaa
open Go.RowKit


/-- A run's state. -/
structure Ps where
  a : Int
  b : Int
  c : Int
  d : Int
  tk : Nat
  ml : List (Int × Int)
  gl : List Int
  ok : Bool
def Ps.k (s : Ps) : Bool := alk [s.a, s.a + s.b] [s.c, s.c + s.d]
def Ps.v (s : Ps) : Int := alkV [s.a, s.a + s.b] [s.c, s.c + s.d]
def Ps.give (s : Ps) : Ps := ⟨s.c, s.d, celV s.c (-s.v) s.a, celV s.d (-s.v) s.b, s.tk, s.ml ++ [(1, s.v)], s.gl ++ [s.v], s.ok && celOk s.c (-s.v) s.a && celOk s.d (-s.v) s.b⟩
def Ps.take (s : Ps) (t : Int) : Ps := ⟨celV s.a t s.b, s.a, celV s.c t s.d, s.c, s.tk + 1, s.ml ++ [(2, t)], s.gl, s.ok && celOk s.a t s.b && celOk s.c t s.d⟩
def Ps.inf (s : Ps) : Ps := ⟨s.a, s.a, s.c, s.c, s.tk + 1, s.ml ++ [(2, 0)], s.gl, s.ok⟩
def stp (ts : List Int) (s : Ps) : Option Ps :=
  if s.k = true ∧ 0 < s.tk then some s.give
  else if s.tk < ts.length then some (s.take (ts.getD s.tk 0))
  else if s.tk = ts.length then some s.inf
  else none
def run (stop : Ps → Bool) (ts : List Int) : Nat → Ps → Ps
  | 0, s => s
  | n + 1, s => if stop s = true then s else match stp ts s with
    | none => s
    | some s' => run stop ts n s'
def stopI (s : Ps) : Bool := !s.ok || decide (40 < s.gl.length)
def stopS (s : Ps) : Bool := !s.ok
def nb (n : Nat) : Nat := if n = 0 then 0 else Nat.log2 n + 1
theorem nb_lt {r a : Nat} (h : 2 * r < a) : nb r < nb a := by
  unfold nb
  rw [if_neg (show ¬ a = 0 by omega)]
  by_cases hr : r = 0
  · rw [if_pos hr]; omega
  · rw [if_neg hr]
    have h1 : r.log2 + 1 ≤ a.log2 := by
      rw [Nat.le_log2 (by omega), Nat.pow_succ]
      have := Nat.log2_self_le hr
      omega
    omega
theorem nb_le {n : Nat} (h : n ≤ 1000000000000000) : nb n ≤ 50 := by
  unfold nb
  by_cases hr : n = 0
  · rw [if_pos hr]; omega
  · rw [if_neg hr]
    have : n.log2 < 50 := (Nat.log2_lt hr).2 (Nat.lt_of_le_of_lt h (by decide))
    omega
def rho (a c : Int) : Nat := if (0 ≤ c ∧ c ≤ a) ∨ (c ≤ 0 ∧ a ≤ c) then nb a.natAbs + nb c.natAbs else 150
theorem rho_le {a c : Int} (ha : a.natAbs ≤ 1000000000000000) (hc : c.natAbs ≤ 1000000000000000) : rho a c ≤ 150 := by
  unfold rho
  have := nb_le ha
  have := nb_le hc
  split <;> omega
theorem rho_drop {a c q r : Int} (hc0 : c ≠ 0) (hc : c.natAbs ≤ 1000000000000000) (hq : q = fl a c) (hr : r = c * (-q) + a) : rho c r < rho a c := by
  have hs := fl_spec a c hc0
  rw [← hq] at hs
  obtain ⟨p, hp⟩ : ∃ p, p = c * q := ⟨_, rfl⟩
  rw [Int.mul_neg, ← hp] at hr
  rw [← hp] at hs
  have h1 : (0 ≤ r ∧ r ≤ c) ∨ (r ≤ 0 ∧ c ≤ r) := by omega
  have h2 : nb c.natAbs ≤ 50 := nb_le hc
  have h3 : nb r.natAbs ≤ 50 := nb_le (by omega)
  unfold rho
  rw [if_pos h1]
  by_cases h : (0 ≤ c ∧ c ≤ a) ∨ (c ≤ 0 ∧ a ≤ c)
  · rw [if_pos h]
    have h4 : c.natAbs ≤ p.natAbs ∧ (0 < c → 0 < p) ∧ (c < 0 → p < 0) := by
      rw [hp, Int.natAbs_mul]
      have hq0 : q ≠ 0 := by
        rintro rfl
        rw [Int.mul_zero] at hp
        omega
      refine ⟨Nat.le_mul_of_pos_right _ (by omega), ?_, ?_⟩ <;> (rw [← hp]; omega)
    have := nb_lt (r := r.natAbs) (a := a.natAbs) (by omega)
    omega
  · rw [if_neg h]; omega
theorem celV_ok {a t b : Int} (h : celOk a t b = true) : celV a t b = a * t + b ∧ (celV a t b).natAbs ≤ 1000000000000000 := by
  simp only [celOk, wi, Bool.and_eq_true, decide_eq_true_eq] at h
  have e : celV a t b = a * t + b := if_pos h.1
  refine ⟨e, ?_⟩
  rw [e]
  omega
def mu (n : Nat) (s : Ps) : Nat := (n + 1 - s.tk) * 201 + rho s.a s.c
structure Inv (ts : List Int) (s : Ps) : Prop where
  tk : s.tk ≤ ts.length + 1
  gm : s.gl.length ≤ s.ml.length
  g64 : ∀ j, j < s.gl.length → I64 (s.gl.getD j 0)
  m9 : s.ml.length ≤ 9000
  ha : s.ok = true → s.a.natAbs ≤ 1000000000000000
  hb : s.ok = true → s.b.natAbs ≤ 1000000000000000
  hc : s.ok = true → s.c.natAbs ≤ 1000000000000000
  hd : s.ok = true → s.d.natAbs ≤ 1000000000000000
  mub : s.ok = true → s.ml.length + mu ts.length s ≤ 8999
  inf : s.ok = true → s.tk = ts.length + 1 → s.a = s.b ∧ s.c = s.d
theorem Ps.v_eq {s : Ps} (h : s.k = true) : s.v = fl s.a s.c ∧ s.c ≠ 0 := by
  have h0 := (alk_len 2 rfl h 0 (by decide)).1
  refine ⟨?_, by simpa using h0⟩
  unfold Ps.v alkV
  unfold Ps.k at h
  rw [if_pos h]
  simp
theorem and3 {x y z : Bool} (h : (x && y && z) = true) : x = true ∧ y = true ∧ z = true := by
  cases x <;> cases y <;> cases z <;> simp_all
theorem snoc64 {l : List Int} {x : Int} (h : ∀ j, j < l.length → I64 (l.getD j 0)) (hx : I64 x) : ∀ j, j < (l ++ [x]).length → I64 ((l ++ [x]).getD j 0) := by
  intro j hj
  simp only [List.length_append, List.length_cons, List.length_nil] at hj
  by_cases e : j < l.length
  · have e2 : (l ++ [x]).getD j 0 = l.getD j 0 := by simp [List.getElem?_append_left e]
    rw [e2]; exact h j e
  · obtain rfl : j = l.length := by omega
    simpa using hx
theorem Inv.step {ts : List Int} {s s' : Ps} (h : Inv ts s) (hok : s.ok = true) (hs : stp ts s = some s') : Inv ts s' ∧ (s'.ok = true → mu ts.length s' < mu ts.length s) := by
  have a1 := h.ha hok
  have b1 := h.hb hok
  have c1 := h.hc hok
  have d1 := h.hd hok
  have m1 := h.mub hok
  have g1 := h.gm
  have t1 := h.tk
  unfold stp at hs
  by_cases hk : s.k = true ∧ 0 < s.tk
  · rw [if_pos hk] at hs
    injection hs with hs
    subst hs
    obtain ⟨hv, hc0⟩ := Ps.v_eq hk.1
    have hv64 : I64 s.v := by
      have := fl_abs s.a s.c hc0
      rw [hv]
      constructor <;> omega
    have hdrop : s.give.ok = true → mu ts.length s.give < mu ts.length s := by
      intro ho
      obtain ⟨_, o1, o2⟩ := and3 ho
      have e1 := (celV_ok o1).1
      have := rho_drop (a := s.a) (c := s.c) hc0 c1 hv e1
      simp only [mu, Ps.give]
      omega
    refine ⟨⟨t1, by simp [Ps.give]; exact g1, snoc64 h.g64 hv64, by simp [Ps.give]; omega, fun _ => c1, fun _ => d1, fun ho => ?_, fun ho => ?_, fun ho => ?_, fun ho ht => ?_⟩, hdrop⟩
    · exact (celV_ok (and3 ho).2.1).2
    · exact (celV_ok (and3 ho).2.2).2
    · have := hdrop ho
      simp only [Ps.give, List.length_append, List.length_cons, List.length_nil] at this ⊢
      omega
    · obtain ⟨e1, e2⟩ := h.inf hok ht
      exact ⟨e2, by simp only [Ps.give]; rw [e1, e2]⟩
  · rw [if_neg hk] at hs
    by_cases hl : s.tk < ts.length
    · rw [if_pos hl] at hs
      injection hs with hs
      obtain ⟨t, ht⟩ : ∃ t, t = ts.getD s.tk 0 := ⟨_, rfl⟩
      rw [← ht] at hs
      subst hs
      have hdrop : (s.take t).ok = true → mu ts.length (s.take t) < mu ts.length s := by
        intro ho
        obtain ⟨_, o1, o2⟩ := and3 ho
        have := rho_le (celV_ok o1).2 (celV_ok o2).2
        simp only [mu, Ps.take]
        omega
      refine ⟨⟨by simp only [Ps.take]; omega, by simp [Ps.take]; omega, h.g64, by simp [Ps.take]; omega, fun ho => (celV_ok (and3 ho).2.1).2, fun _ => a1, fun ho => (celV_ok (and3 ho).2.2).2, fun _ => c1, fun ho => ?_, fun ho ht => ?_⟩, hdrop⟩
      · have := hdrop ho
        simp only [Ps.take, List.length_append, List.length_cons, List.length_nil] at this ⊢
        omega
      · simp only [Ps.take] at ht
        omega
    · rw [if_neg hl] at hs
      by_cases he : s.tk = ts.length
      · rw [if_pos he] at hs
        injection hs with hs
        subst hs
        have hdrop : s.inf.ok = true → mu ts.length s.inf < mu ts.length s := by
          intro ho
          have := rho_le a1 c1
          simp only [mu, Ps.inf]
          omega
        refine ⟨⟨by simp only [Ps.inf]; omega, by simp [Ps.inf]; omega, h.g64, by simp [Ps.inf]; omega, fun _ => a1, fun _ => a1, fun _ => c1, fun _ => c1, fun ho => ?_, fun ho ht => ⟨rfl, rfl⟩⟩, hdrop⟩
        have := hdrop ho
        simp only [Ps.inf, List.length_append, List.length_cons, List.length_nil] at this ⊢
        omega
      · rw [if_neg he] at hs
        cases hs
def ps0 (a b c d : Int) : Ps := ⟨a, b, c, d, 0, [], [], true⟩
theorem Inv.start {ts : List Int} {a b c d : Int} (hl : ts.length ≤ 40) (ha : a.natAbs ≤ 1000000000000000) (hb : b.natAbs ≤ 1000000000000000) (hc : c.natAbs ≤ 1000000000000000) (hd : d.natAbs ≤ 1000000000000000) : Inv ts (ps0 a b c d) := by
  have := rho_le ha hc
  refine ⟨Nat.zero_le _, Nat.le_refl _, fun j hj => absurd hj (by simp [ps0]), Nat.zero_le _, fun _ => ha, fun _ => hb, fun _ => hc, fun _ => hd, fun _ => ?_, fun _ h => ?_⟩
  · show 0 + ((ts.length + 1 - 0) * 201 + rho a c) ≤ 8999
    omega
  · simp only [ps0] at h; omega
theorem run_stop {stop : Ps → Bool} {ts : List Int} {n : Nat} {s : Ps} (h : stop s = true) : run stop ts (n + 1) s = s := by
  unfold run; rw [if_pos h]
theorem run_none {stop : Ps → Bool} {ts : List Int} {n : Nat} {s : Ps} (hs : stp ts s = none) : run stop ts (n + 1) s = s := by
  unfold run; rw [hs]; split <;> rfl
theorem run_some {stop : Ps → Bool} {ts : List Int} {n : Nat} {s s' : Ps} (h : ¬ stop s = true) (hs : stp ts s = some s') : run stop ts (n + 1) s = run stop ts n s' := by
  rw [run, if_neg h, hs]
/-- Both runs end alike. -/
theorem stp_gl {ts : List Int} {s s' : Ps} (hs : stp ts s = some s') : s.gl.length ≤ s'.gl.length := by
  unfold stp at hs
  split at hs
  · injection hs with hs; subst hs; simp [Ps.give]
  · split at hs
    · injection hs with hs; subst hs; simp [Ps.take]
    · split at hs
      · injection hs with hs; subst hs; simp [Ps.inf]
      · cases hs
theorem run_gl {stop : Ps → Bool} {ts : List Int} : ∀ (n : Nat) (s : Ps), s.gl.length ≤ (run stop ts n s).gl.length := by
  intro n
  induction n with
  | zero => intro s; exact Nat.le_refl _
  | succ n ih =>
    intro s
    unfold run
    split
    · exact Nat.le_refl _
    · cases h : stp ts s with
      | none => exact Nat.le_refl _
      | some s' => exact Nat.le_trans (stp_gl h) (ih s')
theorem cod_long {ov : Bool} {gl : List Int} (h : 40 < gl.length) : cod ov gl = 3 := by
  unfold cod
  rw [if_neg (show ¬ gl.length = 0 by omega), vtm_no (fun e => by omega)]
  split <;> simp
theorem runs_alike {ts : List Int} : ∀ (n : Nat) (s : Ps), cod (stopI (run stopI ts n s)) (run stopI ts n s).gl = cod (stopS (run stopS ts n s)) (run stopS ts n s).gl ∧ (run stopI ts n s = run stopS ts n s ∨ cod (stopS (run stopS ts n s)) (run stopS ts n s).gl = 3) := by
  intro n
  have hI : ∀ s : Ps, 40 < s.gl.length → cod (stopI s) s.gl = 3 := fun s h => cod_long h
  have hE : ∀ s : Ps, cod (stopI s) s.gl = cod (stopS s) s.gl := by
    intro s
    by_cases h : 40 < s.gl.length
    · rw [cod_long h, cod_long h]
    · unfold stopI stopS
      rw [decide_eq_false h, Bool.or_false]
  induction n with
  | zero => intro s; exact ⟨hE s, .inl rfl⟩
  | succ n ih =>
    intro s
    by_cases h40 : 40 < s.gl.length
    · have h1 : run stopI ts (n + 1) s = s := by
        unfold run
        rw [if_pos]
        unfold stopI
        rw [decide_eq_true h40, Bool.or_true]
      have h2 := run_gl (stop := stopS) (ts := ts) (n + 1) s
      have h3 : cod (stopS (run stopS ts (n + 1) s)) (run stopS ts (n + 1) s).gl = 3 := cod_long (by omega)
      exact ⟨by rw [h1, h3]; exact cod_long h40, .inr h3⟩
    · have he : stopI s = stopS s := by
        unfold stopI stopS
        rw [decide_eq_false h40, Bool.or_false]
      by_cases hst : stopS s = true
      · rw [run_stop hst, run_stop (he.trans hst)]; exact ⟨hE s, .inl rfl⟩
      · cases hs : stp ts s with
        | none => rw [run_none hs, run_none hs]; exact ⟨hE s, .inl rfl⟩
        | some s' => rw [run_some hst hs, run_some (by rw [he]; exact hst) hs]; exact ih s'
end Go.Proofs.Ytcfaammnkbkfcaa
