/- The terms of roots: the words. -/
import Derived.Test.YtjgikfejfglllaaR1
import Derived.Maps.AppendAt
set_option linter.unusedVariables false
set_option linter.unusedSimpArgs false
namespace Go.Proofs.Ytjgikfejfglllaa
open Go.RowKit


/-- A list of numbers as cells. -/
def nz64 (l : List Nat) : List Value := l.map fun (x : Nat) => .int .i64 (x : Int)
theorem nz64_length (l : List Nat) : (nz64 l).length = l.length := by simp [nz64]
theorem nz64_snoc (l : List Nat) (x : Nat) : nz64 (l ++ [x]) = nz64 l ++ [.int .i64 x] := by simp [nz64]
/-- A slice reads as a list of numbers. -/
def Rd (w : World) (v : Value) (l : List Nat) : Prop := ∃ A c, v = .slice A l.length c ∧ l.length ≤ c ∧ (l ≠ [] → ∃ g, A = some ⟨g, 0, none⟩ ∧ g < w.heap.size ∧ ∀ (j x : Nat), l[j]? = some x → w.cell? ⟨g, j, none⟩ = some (.int .i64 x))
theorem Rd.later {w w' : World} {v : Value} {l : List Nat} (h : Rd w v l) (hb : Below w.heap.size w w') : Rd w' v l := by
  obtain ⟨A, c, hv, hc, hr⟩ := h
  refine ⟨A, c, hv, hc, fun hl => ?_⟩
  obtain ⟨g, hA, hg, hx⟩ := hr hl
  exact ⟨g, hA, Nat.lt_of_lt_of_le hg hb.size, fun j x hj => (hb.cell (p := ⟨g, j, none⟩) hg).trans (hx j x hj)⟩
theorem Rd.of_own {w : World} {base : Nat} {v : Value} {l : List Nat} (h : w.ownsRow base 2 1 v l.length (nz64 l)) : Rd w v l := by
  rcases h.2 with ⟨rfl, hl⟩ | ⟨g, cap, cur, rfl, hb, hg, hc, _⟩
  · exact ⟨none, 0, by rw [hl], by omega, fun hn => absurd (List.eq_nil_of_length_eq_zero hl) hn⟩
  · refine ⟨some ⟨g, 0, none⟩, cap, rfl, hc, fun hl => ⟨g, rfl, ?_, fun j x hj => ?_⟩⟩
    · exact (h.lt g (by simp [Value.ownBlock])).2
    · have hlt : j < l.length := (List.getElem?_eq_some_iff.1 hj).1
      rw [h.cellAt j (by omega)]
      simp [nz64, hj]
theorem Rd.nil (w : World) (A : Option Addr) (c : Nat) : Rd w (.slice A 0 c) [] := ⟨A, c, rfl, Nat.zero_le _, fun h => absurd rfl h⟩
theorem own_slice {w : World} {base n : Nat} {e : TypeId} {size : Nat} {v : Value} {xs : List Value} (h : w.ownsRow base e size v n xs) : ∃ A c, v = .slice A n c := by
  rcases h.2 with ⟨rfl, rfl⟩ | ⟨g, cap, cur, rfl, _⟩
  · exact ⟨none, 0, rfl⟩
  · exact ⟨_, cap, rfl⟩
theorem own_base {w : World} {base : Nat} {e : TypeId} {size n : Nat} {v : Value} {xs : List Value} (h : w.ownsRow base e size v n xs) (k : Nat) (hk : v.ownBlock = some k) : base ≤ k := (h.lt k hk).1
theorem info2 : (Try.prog.info? 2).map (fun i => (i.zero, i.size, i.bytes)) = some (some (.int .i64 0), 1, 8) := by kernel_rfl
/-- A slice's length. -/
def slen : Value → Nat
  | .slice _ n _ => n
  | _ => 0

/-- What RootTerms returns: the first term, the period, a code. -/
def rootT (n : Int) : Nat × List Nat × Int :=
  if wi n 0 1000000 then
    if isq n.toNat * isq n.toNat = n.toNat then (isq n.toNat, [], 0)
    else match period n.toNat with
      | none => (0, [], 3)
      | some l => (isq n.toNat, l, 0)
  else (0, [], 2)
theorem rootT_out {n : Int} (h : wi n 0 1000000 = false) : rootT n = (0, [], 2) := by simp [rootT, h]
theorem rootT_sq {n : Nat} (h : n ≤ 1000000) (hs : isq n * isq n = n) : rootT n = (isq n, [], 0) := by
  have : wi n 0 1000000 = true := by simp [wi]; omega
  simp [rootT, this, hs]
theorem rootT_in {n : Nat} (h : n ≤ 1000000) (hs : isq n * isq n ≠ n) : rootT n = match period n with | none => (0, [], 3) | some l => (isq n, l, 0) := by
  have : wi n 0 1000000 = true := by simp [wi]; omega
  simp [rootT, this, hs]
end Go.Proofs.Ytjgikfejfglllaa
