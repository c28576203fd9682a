/- Movers. -/
import Derived.Test.YtcfaammnkbkfcaaN7
set_option linter.unusedVariables false
set_option linter.unusedSimpArgs false
namespace Go.Proofs.Ytcfaammnkbkfcaa
open Go.RowKit


theorem own_slice {w : World} {base n : Nat} {e : TypeId} {size : Nat} {v : Value} {xs : List Value} (h : w.ownsRow base e size v n xs) : ∃ A c, v = .slice A n c := by
  rcases h.2 with ⟨rfl, rfl⟩ | ⟨g, cap, cur, rfl, _⟩
  · exact ⟨none, 0, rfl⟩
  · exact ⟨_, cap, rfl⟩
theorem own_base {w : World} {base : Nat} {e : TypeId} {size n : Nat} {v : Value} {xs : List Value} (h : w.ownsRow base e size v n xs) (k : Nat) (hk : v.ownBlock = some k) : base ≤ k := (h.lt k hk).1
theorem info2 : (Try.prog.info? 2).map (fun i => (i.zero, i.size, i.bytes)) = some (some (.int .i64 0), 1, 8) := by kernel_rfl
theorem info62 : (Try.prog.info? 62).map (fun i => (i.zero, i.size, i.bytes)) = some (some (.agg #[.int .i8 0, .int .i64 0]), 2, 16) := by kernel_rfl
theorem info_parts {P : Program} {t : TypeId} {z : Value} {s b : Nat} (h : (P.info? t).map (fun i => (i.zero, i.size, i.bytes)) = some (some z, s, b)) : ∃ i, P.info? t = some i ∧ i.zero = some z ∧ i.size = s ∧ i.bytes = b := by
  cases hi : P.info? t with
  | none => rw [hi] at h; cases h
  | some i =>
    rw [hi] at h
    simp only [Option.map_some, Option.some.injEq, Prod.mk.injEq] at h
    exact ⟨i, rfl, h.1, h.2.1, h.2.2⟩
theorem own_blk_row {w : World} {base : Nat} {e : TypeId} {size n : Nat} {v : Value} {xs : List Value} (h : w.ownsRow base e size v n xs) : v.ownBlock = none ∨ ∃ k cs, v.ownBlock = some k ∧ Blk w k e cs := by
  rcases h.2 with ⟨rfl, rfl⟩ | ⟨g, cap, cur, rfl, _, hh, _⟩
  · exact .inl rfl
  · exact .inr ⟨g, cur, rfl, hh⟩
/-- Moves as cells. -/
def mz (l : List (Int × Int)) : List Value := l.flatMap fun p => [.int .i8 p.1, .int .i64 p.2]
theorem mz_snoc (l : List (Int × Int)) (k x : Int) : mz (l ++ [(k, x)]) = mz l ++ [.int .i8 k, .int .i64 x] := by simp [mz]
theorem mz_length (l : List (Int × Int)) : (mz l).length = l.length * 2 := by
  induction l with
  | nil => rfl
  | cons a l ih =>
    show (_ ++ mz l).length = _
    simp [ih]
    omega
/-- A mover's state. -/
def St (w : World) (t B g : Nat) (ml : List (Int × Int)) (gl : List Int) (ov : Bool) : Prop :=
  ∃ mv gv, Blk w g t #[mv, gv, .bool ov] ∧ w.ownsRow B 62 2 mv ml.length (mz ml) ∧ w.ownsRow B 2 1 gv gl.length (iz gl)
/-- What a mover's steps leave alone. -/
structure Fr (w w' : World) (B t : Nat) : Prop where
  below : Below B w w'
  size : w.heap.size ≤ w'.heap.size
  kept : ∀ k t' cs, Blk w k t' cs → t' ≠ t → t' ≠ 62 → t' ≠ 2 → Blk w' k t' cs
theorem Fr.refl (w : World) (B t : Nat) : Fr w w B t := ⟨Below.refl _ _, Nat.le_refl _, fun _ _ _ h _ _ _ => h⟩
theorem Fr.trans {w w1 w2 : World} {B t : Nat} (h : Fr w w1 B t) (k : Fr w1 w2 B t) : Fr w w2 B t :=
  ⟨h.below.trans k.below, Nat.le_trans h.size k.size, fun i t' cs hb h1 h2 h3 => k.kept i t' cs (h.kept i t' cs hb h1 h2 h3) h1 h2 h3⟩
theorem Fr.drewN {w w1 : World} {B t : Nat} (h : Fr w w1 B t) (n : Nat) : Fr w (w1.drewN n) B t := ⟨below_drewN h.below n, h.size, h.kept⟩
theorem Fr.alloc {w w1 : World} {B t : Nat} (h : Fr w w1 B t) (hB : B ≤ w1.heap.size) (o : Obj) : Fr w (w1.alloc o) B t :=
  ⟨h.below.alloc hB o, by have := h.size; simp only [World.size_alloc]; omega, fun i t' cs hb h1 h2 h3 => (h.kept i t' cs hb h1 h2 h3).alloc o⟩
theorem St.later {w w' : World} {t B g : Nat} {ml : List (Int × Int)} {gl : List Int} {ov : Bool} (h : St w t B g ml gl ov) (hb : Below w.heap.size w w') : St w' t B g ml gl ov := by
  obtain ⟨mv, gv, h1, h2, h3⟩ := h
  exact ⟨mv, gv, h1.later hb, own_later h2 hb, own_later h3 hb⟩
theorem St.chg {w w' : World} {t B g : Nat} {ml : List (Int × Int)} {gl : List Int} {ov b : Bool} (h : St w t B g ml gl ov) (h62 : t ≠ 62) (h2 : t ≠ 2) (hc : Chg w w' g) (hn : ∀ mv gv, Blk w g t #[mv, gv, .bool ov] → Blk w' g t #[mv, gv, .bool b]) : St w' t B g ml gl b := by
  obtain ⟨mv, gv, h1, hm, hg⟩ := h
  have hgb : w.grownBy w' (some g) := ⟨hc.os, hc.tape, hc.output, hc.size, fun i hi hne => hc.block i hi fun e => hne (by rw [e])⟩
  exact ⟨mv, gv, hn mv gv h1, hm.kept hgb (.inr (own_blk_ne hm h1 (Ne.symm h62))), hg.kept hgb (.inr (own_blk_ne hg h1 (Ne.symm h2)))⟩
theorem Fr.of_chg {w w' : World} {B g t : Nat} {cs : Array Value} (hb : Blk w g t cs) (hg : B ≤ g) (hc : Chg w w' g) : Fr w w' B t :=
  ⟨hc.below hg (by have := hb.lt; omega), hc.size, fun i t' cs' hi h1 _ _ => hi.chg hc (Blk.ne_ hi hb h1)⟩
/-- A row has grown: what stays. -/
theorem grow_keeps {w wa : World} {t B g : Nat} {mv gv : Value} {ov : Bool} {ml : List (Int × Int)} {gl : List Int} (h62 : t ≠ 62) (h2 : t ≠ 2) (hB : B ≤ g)
    (hb : Blk w g t #[mv, gv, .bool ov]) (hm : w.ownsRow B 62 2 mv ml.length (mz ml)) (hg : w.ownsRow B 2 1 gv gl.length (iz gl)) (o : Obj) (row : Value) (hrow : row = mv ∨ row = gv)
    (hgr : (w.alloc o).grownBy wa row.ownBlock) :
    Blk wa g t #[mv, gv, .bool ov] ∧ Fr w wa B t ∧ (row = gv → wa.ownsRow B 62 2 mv ml.length (mz ml)) ∧ (row = mv → wa.ownsRow B 2 1 gv gl.length (iz gl)) := by
  have hno : ∀ k t' cs, Blk w k t' cs → t' ≠ 62 → t' ≠ 2 → row.ownBlock ≠ some k := by
    intro k t' cs hk h1 h2
    rcases hrow with rfl | rfl
    · exact own_blk_ne hm hk (Ne.symm h1)
    · exact own_blk_ne hg hk (Ne.symm h2)
  have hbase : ∀ k, row.ownBlock = some k → B ≤ k := by
    rcases hrow with rfl | rfl
    · exact own_base hm
    · exact own_base hg
  have hBw : B ≤ w.heap.size := by have := hb.lt; omega
  have halloc : w.grownBy (w.alloc o) none := ⟨rfl, rfl, rfl, by simp, fun i hi _ => Below.heap_alloc w o i hi⟩
  refine ⟨(hb.alloc o).grown hgr (hno g t _ hb h62 h2), ⟨((Below.refl B w).alloc hBw o).grown hgr (by simp only [World.size_alloc]; omega) hbase, by have := hgr.size; simp only [World.size_alloc] at this; omega, fun i t' cs hi _ h1 h2 => (hi.alloc o).grown hgr (hno i t' cs hi h1 h2)⟩, ?_, ?_⟩
  · rintro rfl
    refine (hm.kept halloc (by cases mv.ownBlock <;> simp)).kept hgr ?_
    rcases own_blk_row hm with e | ⟨k, cs, e, hk⟩
    · exact .inl e
    · right
      rw [e]
      exact fun e' => own_blk_ne hg hk (by decide) e'.symm
  · rintro rfl
    refine (hg.kept halloc (by cases gv.ownBlock <;> simp)).kept hgr ?_
    rcases own_blk_row hg with e | ⟨k, cs, e, hk⟩
    · exact .inl e
    · right
      rw [e]
      exact fun e' => own_blk_ne hm hk (by decide) e'.symm
theorem Fr.set {w w1 : World} {t B g : Nat} {cs : Array Value} (h : Fr w w1 B t) (hb : Blk w1 g t cs) (hg : B ≤ g) (i : Nat) (v : Value) : Fr w (w1.setCell ⟨g, i, none⟩ v) B t :=
  h.trans (Fr.of_chg hb hg ((Chg.refl w1 g).set i v))
/-- The grown row is laid into the mover. -/
theorem st_mv {w wa : World} {t B g : Nat} {mv gv v1 : Value} {ov : Bool} {ml : List (Int × Int)} {gl : List Int} (h62 : t ≠ 62) (h2 : t ≠ 2) (hB : B ≤ g)
    (hb : Blk w g t #[mv, gv, .bool ov]) (hm : w.ownsRow B 62 2 mv ml.length (mz ml)) (hg : w.ownsRow B 2 1 gv gl.length (iz gl)) (o : Obj) {k x : Int}
    (hgr : (w.alloc o).grownBy wa mv.ownBlock) (h1 : wa.ownsRow B 62 2 v1 (ml.length + 1) (mz ml ++ [.int .i8 k, .int .i64 x])) :
    St (wa.setCell ⟨g, 0, none⟩ v1) t B g (ml ++ [(k, x)]) gl ov ∧ Fr w (wa.setCell ⟨g, 0, none⟩ v1) B t := by
  obtain ⟨e1, e2, _, e4⟩ := grow_keeps h62 h2 hB hb hm hg o mv (.inl rfl) hgr
  have e4 := e4 rfl
  refine ⟨⟨v1, gv, e1.set_ 0 v1, ?_, ?_⟩, e2.set e1 hB 0 v1⟩
  · rw [mz_snoc]
    have hc := (Chg.refl wa g).set 0 v1
    have hgb : wa.grownBy (wa.setCell ⟨g, 0, none⟩ v1) (some g) := ⟨hc.os, hc.tape, hc.output, hc.size, fun i hi hne => hc.block i hi fun e => hne (by rw [e])⟩
    simpa using h1.kept hgb (.inr (own_blk_ne h1 e1 (Ne.symm h62)))
  · have hc := (Chg.refl wa g).set 0 v1
    have hgb : wa.grownBy (wa.setCell ⟨g, 0, none⟩ v1) (some g) := ⟨hc.os, hc.tape, hc.output, hc.size, fun i hi hne => hc.block i hi fun e => hne (by rw [e])⟩
    exact e4.kept hgb (.inr (own_blk_ne e4 e1 (Ne.symm h2)))
theorem st_gv {w wa : World} {t B g : Nat} {mv gv v1 : Value} {ov : Bool} {ml : List (Int × Int)} {gl : List Int} (h62 : t ≠ 62) (h2 : t ≠ 2) (hB : B ≤ g)
    (hb : Blk w g t #[mv, gv, .bool ov]) (hm : w.ownsRow B 62 2 mv ml.length (mz ml)) (hg : w.ownsRow B 2 1 gv gl.length (iz gl)) (o : Obj) {x : Int}
    (hgr : (w.alloc o).grownBy wa gv.ownBlock) (h1 : wa.ownsRow B 2 1 v1 (gl.length + 1) (iz gl ++ [.int .i64 x])) :
    St (wa.setCell ⟨g, 1, none⟩ v1) t B g ml (gl ++ [x]) ov ∧ Fr w (wa.setCell ⟨g, 1, none⟩ v1) B t := by
  obtain ⟨e1, e2, e3, _⟩ := grow_keeps h62 h2 hB hb hm hg o gv (.inr rfl) hgr
  have e3 := e3 rfl
  have hc := (Chg.refl wa g).set 1 v1
  have hgb : wa.grownBy (wa.setCell ⟨g, 1, none⟩ v1) (some g) := ⟨hc.os, hc.tape, hc.output, hc.size, fun i hi hne => hc.block i hi fun e => hne (by rw [e])⟩
  refine ⟨⟨mv, v1, e1.set_ 1 v1, e3.kept hgb (.inr (own_blk_ne e3 e1 (Ne.symm h62))), ?_⟩, e2.set e1 hB 1 v1⟩
  rw [iz_snoc]
  simpa using h1.kept hgb (.inr (own_blk_ne h1 e1 (Ne.symm h2)))
theorem news_two (w : World) (x y : Value) (t : TypeId) : ∀ j u, [x, y][j]? = some u → (w.alloc (.cells #[x, y] t)).cell? ((⟨w.heap.size, 0, none⟩ : Addr).add j) = some u := by
  intro j u hj
  exact World.news_of_block (cs := #[x, y]) (t := t) (fr := (0, 0)) (heap_alloc_new w _) j u hj

set_option maxHeartbeats 2000000 in
set_option maxRecDepth 100000 in
theorem take_any (B g : Nat) (ml : List (Int × Int)) (gl : List Int) (ov : Bool) (k x : Int) (hml : ml.length ≤ 4000000) (w : World) (hB : B ≤ g) (hS : St w 138 B g ml gl ov) :
    Calls Try.prog 176 #[.pointer (some ⟨g, 0, none⟩), .int .i8 k, .int .i64 x] w fun e w' => e = .returned (.tuple #[]) ∧ St w' 138 B g (ml ++ [(k, x)]) gl ov ∧ Fr w w' B 138 := by
  obtain ⟨mv, gv, hb, hm, hg⟩ := hS
  obtain ⟨i0, hi, hz0, hz1, hz2⟩ := info_parts info62
  have hpost := fun (wa : World) (v1 : Value) (o : Obj) (hgr : (w.alloc o).grownBy wa mv.ownBlock) (h1 : wa.ownsRow B 62 2 v1 (ml.length + 1) (mz ml ++ [.int .i8 k, .int .i64 x])) => st_mv (by decide) (by decide) hB hb hm hg o hgr h1
  have hpre := fun (wa : World) (o : Obj) (hgr : (w.alloc o).grownBy wa mv.ownBlock) => (show wa.cell? ⟨g, 0, none⟩ = some mv ∧ wa.frozen? ⟨g, 0, none⟩ = false from ⟨(grow_keeps (t := 138) (by decide) (by decide) hB hb hm hg o mv (.inl rfl) hgr).1.cell 0, (grow_keeps (t := 138) (by decide) (by decide) hB hb hm hg o mv (.inl rfl) hgr).1.frozen 0⟩)
  have HPOST := Lib.hid hpost
  have HPRE := Lib.hid hpre
  have hc0 : w.cell? ⟨g, 0, none⟩ = some mv := hb.cell 0
  have hBw : B ≤ w.heap.size := by have := hb.lt; omega
  clear hpost hpre
  go_enter Try.func176, Try.ntmps176
  go_wp2_with (at_builtin; refine wpList_append_own_at _ rfl _ _ 51 rfl B 62 i0 (.agg #[.int .i8 0, .int .i64 0]) 2 16 Try.underlying51 hi hz0 hz1 hz2 rfl (by decide) _ _ _ rfl (hm.alloc _) ⟨w.heap.size, 0, none⟩ 1 1 [.int .i8 k, .int .i64 x] rfl rfl (news_two _ _ _ _) (by intro u hu; simp only [List.mem_cons, List.mem_nil_iff, or_false] at hu; rcases hu with rfl | rfl <;> rfl) (by simp only [maxLen]; omega) (by omega) (by simp only [World.size_alloc]; omega) ?_; intro v1 wa hown1 hg1 _ _; obtain ⟨hce, hfz⟩ := HPRE.out wa _ hg1; obtain ⟨A1, c1, rfl⟩ := own_slice hown1; have hres := HPOST.out wa _ _ hg1 hown1)
  exact bodyPost_end (results_none rfl _ _ _) rfl ⟨rfl, hres⟩

set_option maxHeartbeats 2000000 in
set_option maxRecDepth 100000 in
theorem workGive_any (B g : Nat) (ml : List (Int × Int)) (gl : List Int) (ov : Bool) (x : Int) (hml : ml.length ≤ 4000000) (hgl : gl.length ≤ 4000000) (w : World) (hB : B ≤ g) (hS : St w 178 B g ml gl ov) :
    Calls Try.prog 146 #[.pointer (some ⟨g, 0, none⟩), .int .i64 x] w fun e w' => e = .returned (.tuple #[]) ∧ St w' 178 B g (ml ++ [(1, x)]) (gl ++ [x]) ov ∧ Fr w w' B 178 := by
  obtain ⟨mv, gv, hb, hm, hg⟩ := hS
  obtain ⟨i0, hi, hz0, hz1, hz2⟩ := info_parts info62
  obtain ⟨j0, hj, hy0, hy1, hy2⟩ := info_parts info2
  have hpost := fun (wa : World) (v1 : Value) (o : Obj) (hgr : (w.alloc o).grownBy wa mv.ownBlock) (h1 : wa.ownsRow B 62 2 v1 (ml.length + 1) (mz ml ++ [.int .i8 1, .int .i64 x])) => st_mv (t := 178) (by decide) (by decide) hB hb hm hg o hgr h1
  have hpre := fun (wa : World) (o : Obj) (hgr : (w.alloc o).grownBy wa mv.ownBlock) => (show wa.cell? ⟨g, 0, none⟩ = some mv ∧ wa.frozen? ⟨g, 0, none⟩ = false from ⟨(grow_keeps (t := 178) (by decide) (by decide) hB hb hm hg o mv (.inl rfl) hgr).1.cell 0, (grow_keeps (t := 178) (by decide) (by decide) hB hb hm hg o mv (.inl rfl) hgr).1.frozen 0⟩)
  have HPOST := Lib.hid hpost
  have HPRE := Lib.hid hpre
  have hc0 : w.cell? ⟨g, 0, none⟩ = some mv := hb.cell 0
  have hBw : B ≤ w.heap.size := by have := hb.lt; omega
  have HB := Lib.hid hb
  have HG := Lib.hid hg
  clear hpost hpre hb hg
  go_enter Try.func146, Try.ntmps146
  go_upto_region 1 with (at_builtin; refine wpList_append_own_at _ rfl _ _ 51 rfl B 62 i0 (.agg #[.int .i8 0, .int .i64 0]) 2 16 Try.underlying51 hi hz0 hz1 hz2 rfl (by decide) _ _ _ rfl (hm.alloc _) ⟨w.heap.size, 0, none⟩ 1 1 [.int .i8 1, .int .i64 x] rfl rfl (news_two _ _ _ _) (by intro u hu; simp only [List.mem_cons, List.mem_nil_iff, or_false] at hu; rcases hu with rfl | rfl <;> rfl) (by simp only [maxLen]; omega) (by omega) (by simp only [World.size_alloc]; omega) ?_; intro v1 wa hown1 hg1 _ _; obtain ⟨hce, hfz⟩ := HPRE.out wa _ hg1; obtain ⟨A1, c1, rfl⟩ := own_slice hown1; have hres := HPOST.out wa _ _ hg1 hown1)
  clear hg1 hown1 hce hfz HPRE HPOST hc0 hm
  obtain ⟨w1, hw1⟩ : ∃ w1, w1 = wa.setCell ⟨g, 0, none⟩ (Value.slice A1 (ml.length + 1) c1) := ⟨_, rfl⟩
  rw [← hw1] at hres ⊢
  clear hw1
  obtain ⟨⟨mv1, gv1, hb, hm, hg⟩, hf⟩ := hres
  have hpost := fun (wa : World) (v1 : Value) (o : Obj) (hgr : (w1.alloc o).grownBy wa gv1.ownBlock) (h1 : wa.ownsRow B 2 1 v1 (gl.length + 1) (iz gl ++ [.int .i64 x])) => st_gv (t := 178) (by decide) (by decide) hB hb hm hg o hgr h1
  have hpre := fun (wa : World) (o : Obj) (hgr : (w1.alloc o).grownBy wa gv1.ownBlock) => (show wa.cell? ⟨g, 1, none⟩ = some gv1 ∧ wa.frozen? ⟨g, 1, none⟩ = false from ⟨(grow_keeps (t := 178) (by decide) (by decide) hB hb hm hg o gv1 (.inr rfl) hgr).1.cell 1, (grow_keeps (t := 178) (by decide) (by decide) hB hb hm hg o gv1 (.inr rfl) hgr).1.frozen 1⟩)
  have HPOST := Lib.hid hpost
  have HPRE := Lib.hid hpre
  have hc1 : w1.cell? ⟨g, 1, none⟩ = some gv1 := hb.cell 1
  have hBw1 : B ≤ w1.heap.size := by have := hb.lt; omega
  have HF := Lib.hid hf
  clear hpost hpre hb hm hf
  go_wp2_with (at_builtin; refine wpList_append_own_at _ rfl _ _ 42 rfl B 2 j0 (.int .i64 0) 1 8 Try.underlying42 hj hy0 hy1 hy2 rfl (by decide) _ _ _ rfl (hg.alloc _) ⟨w1.heap.size, 0, none⟩ 1 1 [.int .i64 x] rfl rfl (cell_one_new _ _ _) (by intro u hu; simp only [List.mem_singleton] at hu; subst hu; rfl) (by simp only [maxLen]; omega) (by omega) (by simp only [World.size_alloc]; omega) ?_; intro v1 wb hown1 hg1 _ _; obtain ⟨hce, hfz⟩ := HPRE.out wb _ hg1; obtain ⟨A2, c2, rfl⟩ := own_slice hown1; have hres := HPOST.out wb _ _ hg1 hown1)
  exact bodyPost_end (results_none rfl _ _ _) rfl ⟨rfl, hres.1, HF.out.trans hres.2⟩

set_option maxHeartbeats 2000000 in
set_option maxRecDepth 100000 in
theorem give_any (B g : Nat) (ml : List (Int × Int)) (gl : List Int) (ov : Bool) (x : Int) (hml : ml.length ≤ 4000000) (hgl : gl.length ≤ 4000000) (w : World) (hB : B ≤ g) (hS : St w 138 B g ml gl ov) :
    Calls Try.prog 165 #[.pointer (some ⟨g, 0, none⟩), .int .i64 x] w fun e w' => e = .returned (.tuple #[]) ∧ St w' 138 B g (ml ++ [(1, x)]) (gl ++ [x]) (ov || decide (40 < gl.length + 1)) ∧ Fr w w' B 138 := by
  obtain ⟨b0, hb0⟩ : ∃ b, b = (ov || decide (40 < gl.length + 1)) := ⟨_, rfl⟩
  rw [← hb0]
  have HB0 := Lib.hid hb0
  clear hb0
  obtain ⟨mv, gv, hb, hm, hg⟩ := hS
  obtain ⟨i0, hi, hz0, hz1, hz2⟩ := info_parts info62
  obtain ⟨j0, hj, hy0, hy1, hy2⟩ := info_parts info2
  have hpost := fun (wa : World) (v1 : Value) (o : Obj) (hgr : (w.alloc o).grownBy wa mv.ownBlock) (h1 : wa.ownsRow B 62 2 v1 (ml.length + 1) (mz ml ++ [.int .i8 1, .int .i64 x])) => st_mv (t := 138) (by decide) (by decide) hB hb hm hg o hgr h1
  have hpre := fun (wa : World) (o : Obj) (hgr : (w.alloc o).grownBy wa mv.ownBlock) => (show wa.cell? ⟨g, 0, none⟩ = some mv ∧ wa.frozen? ⟨g, 0, none⟩ = false from ⟨(grow_keeps (t := 138) (by decide) (by decide) hB hb hm hg o mv (.inl rfl) hgr).1.cell 0, (grow_keeps (t := 138) (by decide) (by decide) hB hb hm hg o mv (.inl rfl) hgr).1.frozen 0⟩)
  have HPOST := Lib.hid hpost
  have HPRE := Lib.hid hpre
  have hc0 : w.cell? ⟨g, 0, none⟩ = some mv := hb.cell 0
  have hBw : B ≤ w.heap.size := by have := hb.lt; omega
  have HB := Lib.hid hb
  have HG := Lib.hid hg
  clear hpost hpre hb hg
  go_enter Try.func165, Try.ntmps165
  go_upto_region 1 with (at_builtin; refine wpList_append_own_at _ rfl _ _ 51 rfl B 62 i0 (.agg #[.int .i8 0, .int .i64 0]) 2 16 Try.underlying51 hi hz0 hz1 hz2 rfl (by decide) _ _ _ rfl (hm.alloc _) ⟨w.heap.size, 0, none⟩ 1 1 [.int .i8 1, .int .i64 x] rfl rfl (news_two _ _ _ _) (by intro u hu; simp only [List.mem_cons, List.mem_nil_iff, or_false] at hu; rcases hu with rfl | rfl <;> rfl) (by simp only [maxLen]; omega) (by omega) (by simp only [World.size_alloc]; omega) ?_; intro v1 wa hown1 hg1 _ _; obtain ⟨hce, hfz⟩ := HPRE.out wa _ hg1; obtain ⟨A1, c1, rfl⟩ := own_slice hown1; have hres := HPOST.out wa _ _ hg1 hown1)
  clear hg1 hown1 hce hfz HPRE HPOST hc0 hm
  obtain ⟨w1, hw1⟩ : ∃ w1, w1 = wa.setCell ⟨g, 0, none⟩ (Value.slice A1 (ml.length + 1) c1) := ⟨_, rfl⟩
  rw [← hw1] at hres ⊢
  clear hw1
  obtain ⟨⟨mv1, gv1, hb, hm, hg⟩, hf⟩ := hres
  have hpost := fun (wa : World) (v1 : Value) (o : Obj) (hgr : (w1.alloc o).grownBy wa gv1.ownBlock) (h1 : wa.ownsRow B 2 1 v1 (gl.length + 1) (iz gl ++ [.int .i64 x])) => st_gv (t := 138) (by decide) (by decide) hB hb hm hg o hgr h1
  have hpre := fun (wa : World) (o : Obj) (hgr : (w1.alloc o).grownBy wa gv1.ownBlock) => (show wa.cell? ⟨g, 1, none⟩ = some gv1 ∧ wa.frozen? ⟨g, 1, none⟩ = false from ⟨(grow_keeps (t := 138) (by decide) (by decide) hB hb hm hg o gv1 (.inr rfl) hgr).1.cell 1, (grow_keeps (t := 138) (by decide) (by decide) hB hb hm hg o gv1 (.inr rfl) hgr).1.frozen 1⟩)
  have HPOST := Lib.hid hpost
  have HPRE := Lib.hid hpre
  have hc1 : w1.cell? ⟨g, 1, none⟩ = some gv1 := hb.cell 1
  have hBw1 : B ≤ w1.heap.size := by have := hb.lt; omega
  have HF := Lib.hid hf
  clear hpost hpre hb hm hf
  go_upto_region 2 with (at_builtin; refine wpList_append_own_at _ rfl _ _ 42 rfl B 2 j0 (.int .i64 0) 1 8 Try.underlying42 hj hy0 hy1 hy2 rfl (by decide) _ _ _ rfl (hg.alloc _) ⟨w1.heap.size, 0, none⟩ 1 1 [.int .i64 x] rfl rfl (cell_one_new _ _ _) (by intro u hu; simp only [List.mem_singleton] at hu; subst hu; rfl) (by simp only [maxLen]; omega) (by omega) (by simp only [World.size_alloc]; omega) ?_; intro v1 wb hown1 hg1 _ _; obtain ⟨hce, hfz⟩ := HPRE.out wb _ hg1; obtain ⟨A2, c2, rfl⟩ := own_slice hown1; have hres := HPOST.out wb _ _ hg1 hown1)
  clear hg1 hown1 hce hfz HPRE HPOST hc1 hg
  obtain ⟨w2, hw2⟩ : ∃ w2, w2 = wb.setCell ⟨g, 1, none⟩ (Value.slice A2 (gl.length + 1) c2) := ⟨_, rfl⟩
  rw [← hw2] at hres ⊢
  clear hw2
  obtain ⟨⟨mv2, gv2, hb, hm, hg⟩, hf2⟩ := hres
  obtain ⟨A3, c3, rfl⟩ := own_slice hg
  have hlen : (gl ++ [x]).length = gl.length + 1 := by simp
  have hc1 : w2.cell? ⟨g, 1, none⟩ = some (.slice A3 (gl ++ [x]).length c3) := hb.cell 1
  have hc2 : w2.cell? ⟨g, 2, none⟩ = some (.bool ov) := hb.cell 2
  have hfr2 := hb.frozen 2
  have HS : Hid (∀ b, St (w2.setCell ⟨g, 2, none⟩ (.bool b)) 138 B g (ml ++ [(1, x)]) (gl ++ [x]) b ∧ Fr w (w2.setCell ⟨g, 2, none⟩ (.bool b)) B 138) := Lib.hid fun b =>
    ⟨St.chg ⟨mv2, _, hb, hm, hg⟩ (by decide) (by decide) ((Chg.refl w2 g).set 2 _) (fun _ _ h => h.set_ 2 _), (HF.out.trans hf2).set hb hB 2 _⟩
  rw [hlen] at hc1
  clear hb hm hg hf2 HF hlen
  cases ov
  · by_cases hl : 40 < gl.length + 1
    · obtain rfl : b0 = true := by rw [HB0.out]; simp; omega
      have hl' : decide ((40 : Int) < (gl.length : Int) + 1) = true := decide_eq_true (by omega)
      go_wp2
      (try simp only [hl'])
      exact bodyPost_end (results_none rfl _ _ _) rfl ⟨rfl, HS.out true⟩
    · obtain rfl : b0 = false := by rw [HB0.out]; simp; omega
      have hl' : ¬ (40 : Int) < (gl.length : Int) + 1 := by omega
      go_wp2
      exact bodyPost_end (results_none rfl _ _ _) rfl ⟨rfl, HS.out false⟩
  · obtain rfl : b0 = true := by rw [HB0.out]; rfl
    go_wp2
    exact bodyPost_end (results_none rfl _ _ _) rfl ⟨rfl, HS.out true⟩
end Go.Proofs.Ytcfaammnkbkfcaa
