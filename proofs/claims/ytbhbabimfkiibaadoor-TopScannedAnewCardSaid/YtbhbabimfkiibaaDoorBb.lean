/- What a set-up meets: the small steps on a part, at the example's numbers. -/
import Derived.Test.YtbhbabimfkiibaaDoorAc
import Derived.Test.YtbhbabimfkiibaaDoorPTopScannedAnewx9
import Derived.Deep.RegionHeld3
import Derived.RangeFuncBox
namespace Go.Proofs.YtbhbabimfkiibaaDoor
open Go.RowKit Go.Proofs.YtbhbabimfkiibaaDoorW.PrintWords Go.Proofs.YtbhbabimfkiibaaDoorW.PrintLast Go.Proofs.YtbhbabimfkiibaaDoorW.PrintMore PTopScannedAnew
set_option linter.unusedVariables false
set_option linter.unusedSimpArgs false

/-- A block that is known whole. -/
def Blk (w : World) (g : Nat) (t : TypeId) (cs : Array Value) : Prop := w.heap[g]? = some (.cells cs t (0, 0))
theorem Blk.lt {w : World} {g : Nat} {t : TypeId} {cs : Array Value} (h : Blk w g t cs) : g < w.heap.size := (Array.getElem?_eq_some_iff.1 h).1
theorem Blk.cell {w : World} {g : Nat} {t : TypeId} {cs : Array Value} (h : Blk w g t cs) (i : Nat) : w.cell? ⟨g, i, none⟩ = cs[i]? := cell_of_row w g i cs t (0, 0) h
theorem Blk.frozen {w : World} {g : Nat} {t : TypeId} {cs : Array Value} (h : Blk w g t cs) (i : Nat) : w.frozen? ⟨g, i, none⟩ = false := by
  unfold Blk at h
  simp [World.frozen?, h]
theorem Blk.set_ {w : World} {g : Nat} {t : TypeId} {cs : Array Value} (h : Blk w g t cs) (i : Nat) (u : Value) : Blk (w.setCell ⟨g, i, none⟩ u) g t (cs.setIfInBounds i u) := by
  unfold Blk at h ⊢
  simp [World.setCell, Array.getElem?_modify, h]
theorem Blk.below {w w' : World} {g : Nat} {t : TypeId} {cs : Array Value} {B : Nat} (h : Blk w g t cs) (hb : Below B w w') (hg : g < B) : Blk w' g t cs := (hb.block g hg).trans h

theorem below_drewL {n : Nat} {w w1 : World} (h : Below n w.drew w1) : Below n w w1 := ⟨h.os, h.tape, h.output, h.size, h.block⟩
theorem below_drewNL {n k : Nat} {w w1 : World} (h : Below n (w.drewN k) w1) : Below n w w1 := ⟨h.os, h.tape, h.output, h.size, h.block⟩
theorem only_drew {a w : World} {row : Option Nat} (h : a.grownBy w row) : a.grownBy w.drew row := ⟨h.os, h.tape, h.output, h.size, h.block⟩
theorem only_drewN {a w : World} {row : Option Nat} (h : a.grownBy w row) (n : Nat) : a.grownBy (w.drewN n) row := ⟨h.os, h.tape, h.output, h.size, h.block⟩
theorem only_alloc {a w : World} {row : Option Nat} (h : a.grownBy w row) (o : Obj) : a.grownBy (w.alloc o) row :=
  ⟨h.os, h.tape, h.output, Nat.le_trans h.size (by simp), fun i hi hne => (Below.heap_alloc w o i (Nat.lt_of_lt_of_le hi h.size)).trans (h.block i hi hne)⟩
theorem only_setCell {a w : World} {g : Nat} (h : a.grownBy w (some g)) {p : Addr} (hp : p.block = g ∨ a.heap.size ≤ p.block) (u : Value) : a.grownBy (w.setCell p u) (some g) :=
  ⟨h.os, h.tape, h.output, by simpa [World.setCell] using h.size, fun i hi hne => (Below.heap_setCell w p u i (by
    rintro rfl
    rcases hp with hp | hp
    · exact hne (by rw [hp])
    · omega)).trans (h.block i hi hne)⟩
theorem only_of_below {a w : World} (h : Below a.heap.size a w) (row : Option Nat) : a.grownBy w row := ⟨h.os, h.tape, h.output, h.size, fun i hi _ => h.block i hi⟩
theorem only_trans {a b c : World} {g : Nat} (h : a.grownBy b (some g)) (k : b.grownBy c (some g)) : a.grownBy c (some g) :=
  ⟨k.os.trans h.os, k.tape.trans h.tape, k.output.trans h.output, Nat.le_trans h.size k.size, fun i hi hne => (k.block i (Nat.lt_of_lt_of_le hi h.size) hne).trans (h.block i hi hne)⟩

theorem compare_0112 (w : World) : Calls Tryd.prog 63 #[.agg #[.int .i64 0, .int .i64 1], .agg #[.int .i64 1, .int .i64 2]] w fun e w' => e = .returned (.int .i64 (-1)) ∧ Below w.heap.size w w' :=
  cover_compare.calls 3 0 1 1 2 (-1) w (by decide +kernel)

theorem part_cells {w : World} {g : Nat} {t : TypeId} {a b c d e f : Value} (h : Blk w g t #[a, b, c, d, e, f]) : w.cell? ⟨g, 0, none⟩ = some a ∧ w.cell? ⟨g, 1, none⟩ = some b ∧ w.cell? ⟨g, 2, none⟩ = some c ∧ w.cell? ⟨g, 3, none⟩ = some d ∧ w.cell? ⟨g, 4, none⟩ = some e :=
  ⟨h.cell 0, h.cell 1, h.cell 2, h.cell 3, h.cell 4⟩

set_option maxRecDepth 100000 in
set_option maxHeartbeats 2000000 in
theorem empty_at (g : Nat) (w : World) (h : Blk w g 76 #[.int .i64 0, .int .i64 1, .int .i64 1, .int .i64 2, .bool false, .bool true]) :
    Calls Tryd.prog 64 #[.pointer (some ⟨g, 0, none⟩)] w fun e w' => e = .returned (.tuple #[]) ∧ w.grownBy w' (some g) ∧ Blk w' g 76 #[.int .i64 0, .int .i64 1, .int .i64 1, .int .i64 2, .bool false, .bool true] := by
  have hg := h.lt
  have c0 := h.cell 0
  have c1 := h.cell 1
  have c2 := h.cell 2
  have c3 := h.cell 3
  have c4 := h.cell 4
  have z4 := h.frozen 4
  simp at c0 c1 c2 c3 c4
  have H := Aside0.mk h
  clear h
  go_enter Tryd.func64, Tryd.ntmps64
  go_wp2_with fail
  go_region_held3 (fun w' => w'.cell? ⟨g, 0, none⟩ = some (.int .i64 0) ∧ w'.cell? ⟨g, 1, none⟩ = some (.int .i64 1) ∧ w'.cell? ⟨g, 2, none⟩ = some (.int .i64 1) ∧ w'.cell? ⟨g, 3, none⟩ = some (.int .i64 2) ∧ w'.cell? ⟨g, 4, none⟩ = some (.bool false)) (first | go_keep | exact part_cells (HB1.out.set_ 4 _))
    (first | (go_at_call 63; refine (compare_0112 _).mono ?_; rintro e w1 ⟨rfl, hb'⟩; have hb := below_drewL hb'; have hk := fun i => hb.cell (p := ⟨g, i, none⟩) hg; have hf := hb.frozen (p := ⟨g, 4, none⟩) hg; have HB1 := Aside0.mk (H.out.below hb hg); have HG := Aside0.mk hb))
  go_end0
  exact ⟨rfl, only_setCell (only_of_below HG.out _) (.inl rfl) _, HB1.out.set_ 4 _⟩

theorem compare_1211 (w : World) : Calls Tryd.prog 63 #[.agg #[.int .i64 1, .int .i64 2], .agg #[.int .i64 1, .int .i64 1]] w fun e w' => e = .returned (.int .i64 (-1)) ∧ Below w.heap.size w w' :=
  cover_compare.calls 3 1 2 1 1 (-1) w (by decide +kernel)
theorem compare_1112 (w : World) : Calls Tryd.prog 63 #[.agg #[.int .i64 1, .int .i64 1], .agg #[.int .i64 1, .int .i64 2]] w fun e w' => e = .returned (.int .i64 1) ∧ Below w.heap.size w w' :=
  cover_compare.calls 3 1 1 1 2 1 w (by decide +kernel)

set_option maxRecDepth 100000 in
set_option maxHeartbeats 2000000 in
theorem to_lt (g : Nat) (w : World) (h : Blk w g 76 #[.int .i64 0, .int .i64 1, .int .i64 1, .int .i64 1, .bool false, .bool true]) :
    Calls Tryd.prog 56 #[.pointer (some ⟨g, 0, none⟩), .agg #[.int .i64 1, .int .i64 2]] w fun e w' => e = .returned (.tuple #[]) ∧ w.grownBy w' (some g) ∧ Blk w' g 76 #[.int .i64 0, .int .i64 1, .int .i64 1, .int .i64 2, .bool false, .bool true] := by
  have hg := h.lt
  have c2 := h.cell 2
  have c3 := h.cell 3
  simp at c2 c3
  have H := Aside0.mk h
  have hne : w.heap.size ≠ g := by omega
  clear h
  go_enter Tryd.func56, Tryd.ntmps56
  go_wp2_with fail
  go_region_held3 (fun w' => w'.cell? ⟨g, 2, none⟩ = some (.int .i64 1) ∧ w'.cell? ⟨g, 3, none⟩ = some (.int .i64 1) ∧ w'.cell? ⟨w.heap.size, 0, none⟩ = some (.int .i64 1) ∧ w'.cell? ⟨w.heap.size, 1, none⟩ = some (.int .i64 2)) (go_keep)
    (first | (go_at_call 63; refine (compare_1211 _).mono ?_; rintro e w1 ⟨rfl, hb'⟩; have hb := below_drewL hb'; have hk := fun i => hb.cell (p := ⟨g, i, none⟩) (by simp; omega); have hk2 := fun i => hb.cell (p := ⟨w.heap.size, i, none⟩) (by simp); have HG := Aside0.mk hb))
  have HB1 := Aside0.mk (H.out.below (B := w.heap.size) ((((Below.refl _ w).alloc (Nat.le_refl _) _).trans (HG.out.mono (by simp)))) hg)
  have hz : w.heap.size < w1.heap.size := by have := HG.out.size; simp at this; omega
  have z2 := HB1.out.frozen 2
  have z3 := HB1.out.frozen 3
  clear hk hk2 hb hb'
  go_wp2_with fail
  refine (empty_at g _ ((HB1.out.set_ 2 _).set_ 3 _)).mono ?_
  rintro e w2 ⟨rfl, hg2, hB2⟩
  have HG2 := Aside0.mk hg2
  have HB2 := Aside0.mk hB2
  clear hg2 hB2
  go_wp2_with fail
  go_end0
  exact ⟨rfl, only_trans (only_setCell (g := g) (p := ⟨g, 3, none⟩) (only_setCell (g := g) (p := ⟨g, 2, none⟩) (only_of_below (((Below.refl _ w).alloc (Nat.le_refl _) _).trans (HG.out.mono (by simp))) _) (.inl rfl) _) (.inl rfl) _) HG2.out, HB2.out⟩

set_option maxRecDepth 100000 in
set_option maxHeartbeats 2000000 in
theorem to_ge (g : Nat) (w : World) (h : Blk w g 76 #[.int .i64 0, .int .i64 1, .int .i64 1, .int .i64 2, .bool false, .bool true]) :
    Calls Tryd.prog 56 #[.pointer (some ⟨g, 0, none⟩), .agg #[.int .i64 1, .int .i64 1]] w fun e w' => e = .returned (.tuple #[]) ∧ w.grownBy w' (some g) ∧ Blk w' g 76 #[.int .i64 0, .int .i64 1, .int .i64 1, .int .i64 2, .bool false, .bool true] := by
  have hg := h.lt
  have c2 := h.cell 2
  have c3 := h.cell 3
  simp at c2 c3
  have H := Aside0.mk h
  have hne : w.heap.size ≠ g := by omega
  clear h
  go_enter Tryd.func56, Tryd.ntmps56
  go_wp2_with fail
  go_region_held3 (fun w' => w'.cell? ⟨g, 2, none⟩ = some (.int .i64 1) ∧ w'.cell? ⟨g, 3, none⟩ = some (.int .i64 2) ∧ w'.cell? ⟨w.heap.size, 0, none⟩ = some (.int .i64 1) ∧ w'.cell? ⟨w.heap.size, 1, none⟩ = some (.int .i64 1)) (go_keep)
    (first | (go_at_call 63; refine (compare_1112 _).mono ?_; rintro e w1 ⟨rfl, hb'⟩; have hb := below_drewL hb'; have hk := fun i => hb.cell (p := ⟨g, i, none⟩) (by simp; omega); have hk2 := fun i => hb.cell (p := ⟨w.heap.size, i, none⟩) (by simp); have HG := Aside0.mk hb))
  have HB1 := Aside0.mk (H.out.below (B := w.heap.size) ((((Below.refl _ w).alloc (Nat.le_refl _) _).trans (HG.out.mono (by simp)))) hg)
  have hz : w.heap.size < w1.heap.size := by have := HG.out.size; simp at this; omega
  clear hk hk2 hb hb'
  go_wp2_with fail
  refine (empty_at g _ HB1.out).mono ?_
  rintro e w2 ⟨rfl, hg2, hB2⟩
  have HG2 := Aside0.mk hg2
  have HB2 := Aside0.mk hB2
  clear hg2 hB2
  go_wp2_with fail
  go_end0
  exact ⟨rfl, only_trans (only_of_below (((Below.refl _ w).alloc (Nat.le_refl _) _).trans (HG.out.mono (by simp))) _) HG2.out, HB2.out⟩

theorem point_12 (w : World) : Calls Tryd.prog 55 #[.int .i64 2000, .int .i64 4000] w fun e w' => e = .returned (.agg #[.int .i64 1, .int .i64 2]) ∧ Below w.heap.size w w' :=
  cover_point.calls 9 2000 4000 1 2 w (by decide +kernel)
theorem point_11 (w : World) : Calls Tryd.prog 55 #[.int .i64 2000000, .int .i64 2000000] w fun e w' => e = .returned (.agg #[.int .i64 1, .int .i64 1]) ∧ Below w.heap.size w w' :=
  cover_point.calls 9 2000000 2000000 1 1 w (by decide +kernel)

set_option maxHeartbeats 2000000 in
theorem cut_none (g : Nat) (n m : Int) (hn : 0 ≤ n) (hm : 0 < m) (w : World) :
    Calls Tryd.prog 41 #[.pointer (some ⟨g, 0, none⟩), .int .i64 n, .int .i64 m] w fun e w' => e = .returned (.tuple #[]) ∧ w = w' := by
  have h0 : (m == 0) = false := beq_eq_false_iff_ne.2 (by omega)
  have h1 : decide (n < 0) = false := decide_eq_false (by omega)
  have h2 : decide (0 < m) = true := decide_eq_true (by omega)
  have h3 : decide (m < 0) = false := decide_eq_false (by omega)
  go_enter Tryd.func41, Tryd.ntmps41
  go_wp2_with fail
  go_end0
  exact ⟨rfl, rfl⟩

set_option maxHeartbeats 2000000 in
theorem cut_lt (g : Nat) (w : World) (h : Blk w g 76 #[.int .i64 0, .int .i64 1, .int .i64 1, .int .i64 1, .bool false, .bool true]) :
    Calls Tryd.prog 41 #[.pointer (some ⟨g, 0, none⟩), .int .i64 2000, .int .i64 (-4000)] w fun e w' => e = .returned (.tuple #[]) ∧ w.grownBy w' (some g) ∧ Blk w' g 76 #[.int .i64 0, .int .i64 1, .int .i64 1, .int .i64 2, .bool false, .bool true] := by
  have hg := h.lt
  have H := Aside0.mk h
  clear h
  go_enter Tryd.func41, Tryd.ntmps41
  go_wp2_with fail
  refine (point_12 _).mono ?_
  rintro e w1 ⟨rfl, hb⟩
  have HB := Aside0.mk hb
  clear hb
  go_wp2_with fail
  refine (to_lt g _ (H.out.below HB.out hg)).mono ?_
  rintro e w2 ⟨rfl, hg2, hB2⟩
  have HG2 := Aside0.mk hg2
  have HB2 := Aside0.mk hB2
  clear hg2 hB2
  go_wp2_with fail
  go_end0
  exact ⟨rfl, only_trans (only_of_below HB.out _) HG2.out, HB2.out⟩

set_option maxHeartbeats 2000000 in
theorem cut_ge (g : Nat) (w : World) (h : Blk w g 76 #[.int .i64 0, .int .i64 1, .int .i64 1, .int .i64 2, .bool false, .bool true]) :
    Calls Tryd.prog 41 #[.pointer (some ⟨g, 0, none⟩), .int .i64 2000000, .int .i64 (-2000000)] w fun e w' => e = .returned (.tuple #[]) ∧ w.grownBy w' (some g) ∧ Blk w' g 76 #[.int .i64 0, .int .i64 1, .int .i64 1, .int .i64 2, .bool false, .bool true] := by
  have hg := h.lt
  have H := Aside0.mk h
  clear h
  go_enter Tryd.func41, Tryd.ntmps41
  go_wp2_with fail
  refine (point_11 _).mono ?_
  rintro e w1 ⟨rfl, hb⟩
  have HB := Aside0.mk hb
  clear hb
  go_wp2_with fail
  refine (to_ge g _ (H.out.below HB.out hg)).mono ?_
  rintro e w2 ⟨rfl, hg2, hB2⟩
  have HG2 := Aside0.mk hg2
  have HB2 := Aside0.mk hB2
  clear hg2 hB2
  go_wp2_with fail
  go_end0
  exact ⟨rfl, only_trans (only_of_below HB.out _) HG2.out, HB2.out⟩
end Go.Proofs.YtbhbabimfkiibaaDoor
