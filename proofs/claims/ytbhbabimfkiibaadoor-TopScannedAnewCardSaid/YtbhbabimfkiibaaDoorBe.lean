/- PartOf at the example. -/
import Derived.Test.YtbhbabimfkiibaaDoorBc
import Derived.Test.YtbhbabimfkiibaaDoorBd
namespace Go.Proofs.YtbhbabimfkiibaaDoor
open Go.RowKit Go.Proofs.YtbhbabimfkiibaaDoorW.PrintWords Go.Proofs.YtbhbabimfkiibaaDoorW.PrintLast Go.Proofs.YtbhbabimfkiibaaDoorW.PrintMore PTopScannedAnew
set_option linter.unusedVariables false
set_option linter.unusedSimpArgs false

/-- The two listed variables hold what the program's text lays in them. -/
def Ends (w : World) : Prop := w.cell? ⟨0, 0, none⟩ = some (.int .i64 0) ∧ w.cell? ⟨0, 1, none⟩ = some (.int .i64 1) ∧ w.cell? ⟨1, 0, none⟩ = some (.int .i64 1) ∧ w.cell? ⟨1, 1, none⟩ = some (.int .i64 1)
theorem Ends.below {w w' : World} (h : Ends w) (hb : Below w.heap.size w w') : Ends w' := by
  obtain ⟨h0, h1, h2, h3⟩ := h
  have l0 : 0 < w.heap.size := World.block_lt_of_cell? w _ h0
  have l1 : 1 < w.heap.size := World.block_lt_of_cell? w _ h2
  exact ⟨(hb.cell (p := ⟨0, 0, none⟩) l0).trans h0, (hb.cell (p := ⟨0, 1, none⟩) l0).trans h1, (hb.cell (p := ⟨1, 0, none⟩) l1).trans h2, (hb.cell (p := ⟨1, 1, none⟩) l1).trans h3⟩
theorem told_at (w : World) : Calls Tryd.prog 26 #[.agg #[.int .i64 0, .int .i64 1, .int .i64 1, .int .i64 2, .bool false, .bool true]] w fun e w' => e = .returned (.tuple #[.agg #[.int .i64 0, .int .i64 1, .int .i64 1, .int .i64 2], .int .i64 0]) ∧ Below w.heap.size w w' :=
  cover_part_told.calls 0 1 1 2 false true 0 1 1 2 0 w (by decide +kernel)

theorem part_ret {w V : World} {g : Nat} (a : Act) (hd : a.defers = []) (h4 : a.tmps.getD 4 undef = .pointer (some ⟨g, 0, none⟩)) (h5 : a.tmps.getD 5 undef = .int .i64 0) (h : Blk V g 51 #[.int .i64 0, .int .i64 1, .int .i64 1, .int .i64 2]) (hb : Below w.heap.size w V) :
    bodyPost Tryd.prog Tryd.f13 (fun e w' => e = .returned (.tuple #[.agg #[.int .i64 0, .int .i64 1, .int .i64 1, .int .i64 2], .int .i64 0]) ∧ Below w.heap.size w w') .ret a V := by
  have f0 := h.cell 0
  have f1 := h.cell 1
  have f2 := h.cell 2
  have f3 := h.cell 3
  simp at f0 f1 f2 f3
  have h4' : a.tmps[4]?.getD undef = .pointer (some ⟨g, 0, none⟩) := by simpa using h4
  have h5' : a.tmps[5]?.getD undef = .int .i64 0 := by simpa using h5
  refine bodyPost_ret (v := .tuple #[.agg #[.int .i64 0, .int .i64 1, .int .i64 1, .int .i64 2], .int .i64 0]) ?_ hd ⟨rfl, hb⟩
  simp [results, Tryd.results13, go_sem, h4', h5', f0, f1, f2, f3]

set_option maxRecDepth 100000 in
set_option maxHeartbeats 4000000 in
theorem PartOf_at (g : Nat) (w : World) (h : Blk w g 81 faceC) (hE : Ends w) :
    Calls Tryd.prog 13 #[slantV g, .agg askA] w fun e w' => e = .returned (.tuple #[.agg #[.int .i64 0, .int .i64 1, .int .i64 1, .int .i64 2], .int .i64 0]) ∧ Below w.heap.size w w' := by
  have hg := h.lt
  have H := Aside0.mk h
  have HE := Aside0.mk hE
  clear h hE
  go_enter Tryd.func13, Tryd.ntmps13
  go_wp2_with fail
  refine (openAsk_at g _ (H.out.below (show Below w.heap.size w _ from below_alloc (below_alloc (below_alloc (Below.refl _ _) _) _) _) hg)).mono ?_
  rintro e w1 ⟨rfl, hb1⟩
  have kj := (show Blk (((w.alloc (.cells #[.string ⟨#[118]⟩, .int .i64 1000, .int .i64 0, .slice (some ⟨g, 0, none⟩) 1 1] 56)).alloc (.cells askA 63)).alloc (.cells #[.int .i64 0, .int .i64 0, .int .i64 0, .int .i64 0] 51)) w.heap.size 56 _ from (Blk.new1 w _ _ _).alloc _).below hb1 (by simp <;> omega)
  have ka := (show Blk (((w.alloc (.cells #[.string ⟨#[118]⟩, .int .i64 1000, .int .i64 0, .slice (some ⟨g, 0, none⟩) 1 1] 56)).alloc (.cells askA 63)).alloc (.cells #[.int .i64 0, .int .i64 0, .int .i64 0, .int .i64 0] 51)) (w.heap.size + 1) 63 _ from (Blk.new2 w _ _ _).alloc _).below hb1 (by simp <;> omega)
  have kr := (show Blk (((w.alloc (.cells #[.string ⟨#[118]⟩, .int .i64 1000, .int .i64 0, .slice (some ⟨g, 0, none⟩) 1 1] 56)).alloc (.cells askA 63)).alloc (.cells #[.int .i64 0, .int .i64 0, .int .i64 0, .int .i64 0] 51)) (w.heap.size + 2) 51 _ from Blk.at_ (by simp)).below hb1 (by simp)
  have B0 := below_step (show Below w.heap.size w _ from below_alloc (below_alloc (below_alloc (Below.refl _ _) _) _) _) hb1
  have kf := H.out.below B0 hg
  have HE1 := Aside0.mk (HE.out.below B0)
  have HB0 := Aside0.mk B0
  have KR := Aside0.mk kr
  have lr := kr.lt
  have la := ka.lt
  have ks : ∀ V, Below (w.heap.size + 2) w1 V → (V.cell? ⟨w.heap.size, 1, none⟩ = some (.int .i64 1000) ∧ V.cell? ⟨w.heap.size, 3, none⟩ = some (.slice (some ⟨g, 0, none⟩) 1 1) ∧ V.cell? ⟨g, 0, none⟩ = some (.string ⟨#[102]⟩) ∧ V.cell? ⟨g, 1, none⟩ = some (.int .i64 0) ∧ V.cell? ⟨g, 2, none⟩ = some (.int .i64 1000) ∧ V.cell? ⟨g, 3, none⟩ = some (.int .i64 1000) ∧ V.cell? ⟨g, 4, none⟩ = some (.int .i64 0) ∧ V.cell? ⟨w.heap.size + 1, 0, none⟩ = some (.int .i64 0) ∧ V.cell? ⟨w.heap.size + 1, 1, none⟩ = some (.string ⟨#[97]⟩) ∧ V.cell? ⟨w.heap.size + 1, 2, none⟩ = some (.int .i64 (-1000)) ∧ V.cell? ⟨w.heap.size + 1, 3, none⟩ = some (.int .i64 1) ∧ V.cell? ⟨w.heap.size + 1, 4, none⟩ = some (.int .i64 1) ∧ V.cell? ⟨w.heap.size + 1, 5, none⟩ = some (.int .i64 0) ∧ V.cell? ⟨w.heap.size + 1, 6, none⟩ = some (.int .i64 1) ∧ V.cell? ⟨w.heap.size + 1, 7, none⟩ = some (.int .i64 3) ∧ V.cell? ⟨w.heap.size + 1, 8, none⟩ = some (.int .i64 1) ∧ V.cell? ⟨w.heap.size + 1, 9, none⟩ = some (.int .i64 1) ∧ V.cell? ⟨w.heap.size + 1, 10, none⟩ = some (.int .i64 1)) := fun V h =>
    ⟨(kj.below h (by omega)).cell 1, (kj.below h (by omega)).cell 3, (kf.below h (by omega)).cell 0, (kf.below h (by omega)).cell 1, (kf.below h (by omega)).cell 2, (kf.below h (by omega)).cell 3, (kf.below h (by omega)).cell 4,
      (ka.below h (by omega)).cell 0, (ka.below h (by omega)).cell 1, (ka.below h (by omega)).cell 2, (ka.below h (by omega)).cell 3, (ka.below h (by omega)).cell 4, (ka.below h (by omega)).cell 5, (ka.below h (by omega)).cell 6, (ka.below h (by omega)).cell 7, (ka.below h (by omega)).cell 8, (ka.below h (by omega)).cell 9, (ka.below h (by omega)).cell 10⟩
  have KS := Aside0.mk ks
  have hz3 : w.heap.size + 2 ≤ w1.heap.size := by omega
  clear kj ka kr B0 kf ks hb1
  go_wp2_with fail
  obtain ⟨s1, s2, s3, s4, s5, s6, s7, s8, s9, s10, s11, s12, s13, s14, s15, s16, s17, s18⟩ := KS.out w1 (Below.refl _ _)
  go_region_held3 (fun w' => w'.cell? ⟨w.heap.size, 1, none⟩ = some (.int .i64 1000) ∧ w'.cell? ⟨w.heap.size, 3, none⟩ = some (.slice (some ⟨g, 0, none⟩) 1 1) ∧ w'.cell? ⟨g, 0, none⟩ = some (.string ⟨#[102]⟩) ∧ w'.cell? ⟨g, 1, none⟩ = some (.int .i64 0) ∧ w'.cell? ⟨g, 2, none⟩ = some (.int .i64 1000) ∧ w'.cell? ⟨g, 3, none⟩ = some (.int .i64 1000) ∧ w'.cell? ⟨g, 4, none⟩ = some (.int .i64 0) ∧ w'.cell? ⟨w.heap.size + 1, 0, none⟩ = some (.int .i64 0) ∧ w'.cell? ⟨w.heap.size + 1, 1, none⟩ = some (.string ⟨#[97]⟩) ∧ w'.cell? ⟨w.heap.size + 1, 2, none⟩ = some (.int .i64 (-1000)) ∧ w'.cell? ⟨w.heap.size + 1, 3, none⟩ = some (.int .i64 1) ∧ w'.cell? ⟨w.heap.size + 1, 4, none⟩ = some (.int .i64 1) ∧ w'.cell? ⟨w.heap.size + 1, 5, none⟩ = some (.int .i64 0) ∧ w'.cell? ⟨w.heap.size + 1, 6, none⟩ = some (.int .i64 1) ∧ w'.cell? ⟨w.heap.size + 1, 7, none⟩ = some (.int .i64 3) ∧ w'.cell? ⟨w.heap.size + 1, 8, none⟩ = some (.int .i64 1) ∧ w'.cell? ⟨w.heap.size + 1, 9, none⟩ = some (.int .i64 1) ∧ w'.cell? ⟨w.heap.size + 1, 10, none⟩ = some (.int .i64 1)) (exact KS.out _ (by repeat (first | exact Below.refl _ _ | exact HA1.out.mono hz3 | exact HA2.out.mono hz3 | apply below_drew | ((refine below_set' ?_ ?_); · (simp <;> omega)))))
    (first
      | (go_at_call 25; refine (met_at _ _ _ (HE1.out.below (show Below w1.heap.size w1 _ from by repeat (first | exact Below.refl _ _ | apply below_drew))).1 (HE1.out.below (show Below w1.heap.size w1 _ from by repeat (first | exact Below.refl _ _ | apply below_drew))).2.1 (HE1.out.below (show Below w1.heap.size w1 _ from by repeat (first | exact Below.refl _ _ | apply below_drew))).2.2.1 (HE1.out.below (show Below w1.heap.size w1 _ from by repeat (first | exact Below.refl _ _ | apply below_drew))).2.2.2).mono ?_; rintro e w3 ⟨rfl, hb3⟩; have HA1 := Aside0.mk (below_step (show Below w1.heap.size w1 _ from by repeat (first | exact Below.refl _ _ | apply below_drew)) hb3); clear hb3)
      | (go_at_call 26; refine (told_at _).mono ?_; rintro e w4 ⟨rfl, hb4⟩; have HA2 := Aside0.mk (below_step HA1.out hb4); have kr4 := KR.out.below HA2.out KR.out.lt; have r0 := kr4.cell 0; have r1 := kr4.cell 1; have r2 := kr4.cell 2; have r3 := kr4.cell 3; have z0 := kr4.frozen 0; have z1 := kr4.frozen 1; have z2 := kr4.frozen 2; have z3 := kr4.frozen 3; have KR4 := Aside0.mk kr4; simp at r0 r1 r2 r3; clear hb4 kr4))
  all_goals
    go_wp2_with fail
    have hfin : Blk ((((w4.setCell ⟨w.heap.size + 1 + 1, 0, none⟩ (.int .i64 0)).setCell ⟨w.heap.size + 1 + 1, 1, none⟩ (.int .i64 1)).setCell ⟨w.heap.size + 1 + 1, 2, none⟩ (.int .i64 1)).setCell ⟨w.heap.size + 1 + 1, 3, none⟩ (.int .i64 2)) (w.heap.size + 1 + 1) 51 #[.int .i64 0, .int .i64 1, .int .i64 1, .int .i64 2] := (((KR4.out.set_ 0 (.int .i64 0)).set_ 1 (.int .i64 1)).set_ 2 (.int .i64 1)).set_ 3 (.int .i64 2)
    have b4 : Below w.heap.size w w4 := below_step HB0.out HA2.out
    have bfin : ∀ i (u : Value) V, Below w.heap.size w V → Below w.heap.size w (V.setCell ⟨w.heap.size + 1 + 1, i, none⟩ u) := fun i u V h => h.setCell (by show _ ≤ w.heap.size + 1 + 1; omega) _
    exact part_ret _ rfl rfl rfl hfin (bfin 3 _ _ (bfin 2 _ _ (bfin 1 _ _ (bfin 0 _ _ b4))))
end Go.Proofs.YtbhbabimfkiibaaDoor
