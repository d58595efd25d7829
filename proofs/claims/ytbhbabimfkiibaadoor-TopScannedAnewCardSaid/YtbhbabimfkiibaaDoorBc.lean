/- What a set-up meets of a face, at the example's numbers. -/
import Derived.Test.YtbhbabimfkiibaaDoorBb
import Derived.BigQuiet
import Derived.Deep.QuietTactic
import Derived.BigRegion
import Derived.Deep.DeepCutAuto
namespace Go.Proofs.YtbhbabimfkiibaaDoor
open Go.RowKit Go.Proofs.YtbhbabimfkiibaaDoorW.PrintWords Go.Proofs.YtbhbabimfkiibaaDoorW.PrintLast Go.Proofs.YtbhbabimfkiibaaDoorW.PrintMore PTopScannedAnew
set_option linter.unusedVariables false
set_option linter.unusedSimpArgs false

theorem from_ab (w : World) : Calls Tryd.prog 39 #[.agg #[.int .i64 0, .int .i64 1000], .agg #[.int .i64 1000, .int .i64 0]] w fun e w' => e = .returned (.agg #[.int .i64 1000, .int .i64 (-1000)]) ∧ Below w.heap.size w w' :=
  cover_from.calls 0 1000 1000 0 1000 (-1000) w (by decide +kernel)
theorem from_at (w : World) : Calls Tryd.prog 39 #[.agg #[.int .i64 (-1000), .int .i64 0], .agg #[.int .i64 0, .int .i64 1000]] w fun e w' => e = .returned (.agg #[.int .i64 1000, .int .i64 1000]) ∧ Below w.heap.size w w' :=
  cover_from.calls (-1000) 0 0 1000 1000 1000 w (by decide +kernel)
theorem cross_wd (w : World) : Calls Tryd.prog 40 #[.agg #[.int .i64 1000, .int .i64 (-1000)], .agg #[.int .i64 1000, .int .i64 1000]] w fun e w' => e = .returned (.int .i64 2000000) ∧ Below w.heap.size w w' :=
  cover_way_cross.calls 1000 (-1000) 1000 1000 2000000 w (by decide +kernel)
theorem dot_wd (w : World) : Calls Tryd.prog 42 #[.agg #[.int .i64 1000, .int .i64 (-1000)], .agg #[.int .i64 1000, .int .i64 1000]] w fun e w' => e = .returned (.int .i64 0) ∧ Below w.heap.size w w' :=
  cover_way_dot.calls 1000 (-1000) 1000 1000 0 w (by decide +kernel)
theorem square_w (w : World) : Calls Tryd.prog 43 #[.agg #[.int .i64 1000, .int .i64 (-1000)]] w fun e w' => e = .returned (.int .i64 2000000) ∧ Below w.heap.size w w' :=
  cover_way_square.calls 1000 (-1000) 2000000 w (by decide +kernel)

theorem sgn0 (w : World) : (Instr.index 102 (.agg #[.int .i64 1, .int .i64 (-1)]) (.int .i64 0)).run Tryd.prog w = .ok (.int .i64 1) w := by kernel_rfl
theorem sgn1 (w : World) : (Instr.index 102 (.agg #[.int .i64 1, .int .i64 (-1)]) (.int .i64 1)).run Tryd.prog w = .ok (.int .i64 (-1)) w := by kernel_rfl
theorem Blk.ne_ {w : World} {g g' : Nat} {t t' : TypeId} {cs cs' : Array Value} (h : Blk w g t cs) (h' : Blk w g' t' cs') (hne : t ≠ t') : g ≠ g' := by
  rintro rfl
  unfold Blk at h h'
  rw [h] at h'
  injection h' with h'
  injection h' with _ ht
  exact hne ht
theorem Blk.new (w : World) (t : TypeId) (cs : Array Value) : Blk (w.alloc (.cells cs t)) w.heap.size t cs := World.alloc_heap_new w _
theorem Blk.alloc {w : World} {g : Nat} {t : TypeId} {cs : Array Value} (h : Blk w g t cs) (o : Obj) : Blk (w.alloc o) g t cs := (Below.heap_alloc w o g h.lt).trans h
theorem Blk.drew {w : World} {g : Nat} {t : TypeId} {cs : Array Value} (h : Blk w g t cs) : Blk w.drew g t cs := h
theorem Blk.drewN {w : World} {g : Nat} {t : TypeId} {cs : Array Value} (h : Blk w g t cs) (n : Nat) : Blk (w.drewN n) g t cs := h
theorem Blk.new1 (w : World) (t : TypeId) (cs : Array Value) (o : Obj) : Blk ((w.alloc (.cells cs t)).alloc o) w.heap.size t cs := (Blk.new w t cs).alloc o
theorem Blk.new2 (w : World) (t : TypeId) (cs : Array Value) (o : Obj) : Blk ((w.alloc o).alloc (.cells cs t)) (w.heap.size + 1) t cs := by
  have := Blk.new (w.alloc o) t cs
  rwa [World.size_alloc] at this
theorem Blk.at_ {w : World} {t : TypeId} {cs : Array Value} {n : Nat} (h : n = w.heap.size) : Blk (w.alloc (.cells cs t)) n t cs := by subst h; exact Blk.new w t cs
theorem Blk.far {w : World} {g : Nat} {t : TypeId} {cs : Array Value} (h : Blk w g t cs) {p : Addr} (hp : g ≠ p.block) (u : Value) : Blk (w.setCell p u) g t cs := (Below.heap_setCell w p u g hp).trans h
theorem Blk.set2 {w : World} {g : Nat} {t : TypeId} {a b u v : Value} (h : Blk w g t #[a, b]) : Blk ((w.setCell ⟨g, 0, none⟩ u).setCell ⟨g, 1, none⟩ v) g t #[u, v] := (h.set_ 0 u).set_ 1 v
theorem Blk.far' {w : World} {g : Nat} {t : TypeId} {cs : Array Value} {p : Addr} {u : Value} (hp : g ≠ p.block) (h : Blk w g t cs) : Blk (w.setCell p u) g t cs := h.far hp u
theorem Blk.below' {w w' : World} {g : Nat} {t : TypeId} {cs : Array Value} {B : Nat} (hb : Below B w w') (hg : g < B) (h : Blk w g t cs) : Blk w' g t cs := h.below hb hg
theorem below_set' {B : Nat} {a w : World} {p : Addr} {u : Value} (hp : B ≤ p.block) (h : Below B a w) : Below B a (w.setCell p u) := h.setCell hp u
theorem Blk.grown {w w' : World} {g : Nat} {t : TypeId} {cs : Array Value} {row : Option Nat} (h : Blk w g t cs) (hb : w.grownBy w' row) (hg : some g ≠ row) : Blk w' g t cs := (hb.block g h.lt hg).trans h

theorem met_ret {w V : World} {g : Nat} (a : Act) (hd : a.defers = []) (h6 : a.tmps.getD 6 undef = .pointer (some ⟨g, 0, none⟩)) (h : Blk V g 76 #[.int .i64 0, .int .i64 1, .int .i64 1, .int .i64 2, .bool false, .bool true]) (hb : Below w.heap.size w V) :
    bodyPost Tryd.prog Tryd.f25 (fun e w' => e = .returned (.agg #[.int .i64 0, .int .i64 1, .int .i64 1, .int .i64 2, .bool false, .bool true]) ∧ Below w.heap.size w w') .ret a V := by
  have f0 := h.cell 0
  have f1 := h.cell 1
  have f2 := h.cell 2
  have f3 := h.cell 3
  have f4 := h.cell 4
  have f5 := h.cell 5
  simp at f0 f1 f2 f3 f4 f5
  have h6' : a.tmps[6]?.getD undef = .pointer (some ⟨g, 0, none⟩) := by simpa using h6
  refine bodyPost_ret (v := .agg #[.int .i64 0, .int .i64 1, .int .i64 1, .int .i64 2, .bool false, .bool true]) ?_ hd ⟨rfl, hb⟩
  simp [results, Tryd.results25, go_sem, h6', f0, f1, f2, f3, f4, f5]

set_option maxRecDepth 100000 in
set_option maxHeartbeats 4000000 in
theorem met_at (s t : ByteArray) (w : World) (g0 : w.cell? ⟨0, 0, none⟩ = some (.int .i64 0)) (g1 : w.cell? ⟨0, 1, none⟩ = some (.int .i64 1)) (g2 : w.cell? ⟨1, 0, none⟩ = some (.int .i64 1)) (g3 : w.cell? ⟨1, 1, none⟩ = some (.int .i64 1)) :
    Calls Tryd.prog 25 #[.int .i64 1000, .agg #[.string s, .int .i64 0, .int .i64 1000, .int .i64 1000, .int .i64 0], .agg #[.string t, .int .i64 (-1000), .int .i64 1, .int .i64 1, .int .i64 0, .int .i64 1, .int .i64 3, .int .i64 1, .int .i64 1, .int .i64 1]] w fun e w' =>
      e = .returned (.agg #[.int .i64 0, .int .i64 1, .int .i64 1, .int .i64 2, .bool false, .bool true]) ∧ Below w.heap.size w w' := by
  have hl1 : 1 < w.heap.size := World.block_lt_of_cell? w _ g2
  have G0 := Aside0.mk g0
  have G1 := Aside0.mk g1
  have G2 := Aside0.mk g2
  have G3 := Aside0.mk g3
  clear g0 g1 g2 g3
  go_enter Tryd.func25, Tryd.ntmps25
  go_upto_region 1 with fail
  go_cut [7, 8] (fun s7 s8 wx => ∃ ga gb : Nat, s7 = .pointer (some ⟨ga, 0, none⟩) ∧ s8 = .pointer (some ⟨gb, 0, none⟩) ∧ Aside0 (Blk wx (w.heap.size + 1) 60 #[.string t, .int .i64 (-1000), .int .i64 1, .int .i64 1, .int .i64 0, .int .i64 1, .int .i64 3, .int .i64 1, .int .i64 1, .int .i64 1] ∧
      Blk wx (w.heap.size + 2) 76 #[.int .i64 0, .int .i64 0, .int .i64 0, .int .i64 0, .bool false, .bool false] ∧ Blk wx ga 79 #[.int .i64 0, .int .i64 1000] ∧ Blk wx gb 79 #[.int .i64 1000, .int .i64 0] ∧ Below w.heap.size w wx))
  case first =>
    go_region
    all_goals
      go_wp2_with fail
      go_meet
      refine ⟨_, _, rfl, rfl, ⟨?_, ?_, ?_, ?_, ?_⟩⟩
      all_goals (repeat (first | exact Blk.at_ (by simp) | exact Below.refl _ _ | refine Blk.alloc ?_ _ | refine Blk.drew ?_ | apply below_alloc | apply below_drew))
  case rest =>
    obtain ⟨ga, gb, rfl, rfl, HX⟩ := hcut
    obtain ⟨q1, q2, q3, q4, q5⟩ := HX.out
    have a0 := q3.cell 0
    have a1 := q3.cell 1
    have b0 := q4.cell 0
    have b1 := q4.cell 1
    have s1 := q1.cell 1
    have s3 := q1.cell 3
    simp at a0 a1 b0 b1 s1 s3
    have l1 := q1.lt
    have l2 := q2.lt
    have l3 := q3.lt
    have l4 := q4.lt
    have ks : ∀ W, Below wc.heap.size wc W → (W.cell? ⟨ga, 0, none⟩ = some (.int .i64 0) ∧ W.cell? ⟨ga, 1, none⟩ = some (.int .i64 1000) ∧ W.cell? ⟨gb, 0, none⟩ = some (.int .i64 1000) ∧ W.cell? ⟨gb, 1, none⟩ = some (.int .i64 0) ∧ W.cell? ⟨w.heap.size + 1, 1, none⟩ = some (.int .i64 (-1000))) := fun W h =>
      ⟨((bcell0 h).1 _ _ l3).trans a0, ((bcell0 h).1 _ _ l3).trans a1, ((bcell0 h).1 _ _ l4).trans b0, ((bcell0 h).1 _ _ l4).trans b1, ((bcell0 h).1 _ _ l1).trans s1⟩
    have KS := Aside0.mk ks
    clear q1 q2 q3 q4 q5 ks
    go_wp2_with fail
    go_upto_region 4 with fail
    go_cut [9, 10] (fun s9 s10 wx => ∃ gw gd : Nat, s9 = .pointer (some ⟨gw, 0, none⟩) ∧ s10 = .pointer (some ⟨gd, 0, none⟩) ∧ Aside0 (Below wc.heap.size wc wx ∧ Blk wx gw 99 #[.int .i64 1000, .int .i64 (-1000)] ∧ Blk wx gd 99 #[.int .i64 1000, .int .i64 1000]))
    case first =>
      go_region_held3 (fun w' => w'.cell? ⟨ga, 0, none⟩ = some (.int .i64 0) ∧ w'.cell? ⟨ga, 1, none⟩ = some (.int .i64 1000) ∧ w'.cell? ⟨gb, 0, none⟩ = some (.int .i64 1000) ∧ w'.cell? ⟨gb, 1, none⟩ = some (.int .i64 0) ∧ w'.cell? ⟨w.heap.size + 1, 1, none⟩ = some (.int .i64 (-1000))) (exact KS.out _ (by repeat (first | exact Below.refl _ _ | exact HA2.out | exact HA1.out | apply below_alloc | apply below_drew | refine Below.setCell ?_ (by simp <;> omega) _)))
        (first
          | (go_at_call_of 39 (Value.agg #[.int .i64 1000, .int .i64 0]); refine (from_ab _).mono ?_; rintro e w1 ⟨rfl, hb1⟩; have HA1 := Aside0.mk (below_step (show Below wc.heap.size wc _ from by repeat (first | exact Below.refl _ _ | exact HA2.out | exact HA1.out | apply below_alloc | apply below_drew | refine Below.setCell ?_ (by simp <;> omega) _)) hb1); obtain ⟨hc1, hf1⟩ := bcell0 hb1; have hz1 := hb1.size; (try simp only [World.size_alloc, World.size_drew] at hc1 hf1 hz1); (try simp only [Nat.add_one_le_iff] at hz1); (try (have hzw1 : wc.heap.size < w1.heap.size := by omega)); (try (have hzv1 : wc.heap.size + 1 < w1.heap.size := by omega)); have HC1 := Aside0.mk hb1; clear hb1)
          | (go_at_call 39; refine (from_at _).mono ?_; rintro e w2 ⟨rfl, hb2⟩; have HA2 := Aside0.mk (below_step (show Below wc.heap.size wc _ from by repeat (first | exact Below.refl _ _ | exact HA2.out | exact HA1.out | apply below_alloc | apply below_drew | refine Below.setCell ?_ (by simp <;> omega) _)) hb2); obtain ⟨hc2, hf2⟩ := bcell0 hb2; have hz2 := hb2.size; (try simp only [World.size_alloc, World.size_drew] at hc2 hf2 hz2); (try simp only [Nat.add_one_le_iff] at hz2); (try (have hzw2 : wc.heap.size < w2.heap.size := by omega)); (try (have hzv2 : wc.heap.size + 1 < w2.heap.size := by omega)); have HC2 := Aside0.mk hb2; clear hb2))
      all_goals
        go_wp2_with fail
        go_meet
        refine ⟨_, _, rfl, rfl, ⟨?_, ?_, ?_⟩⟩
        all_goals (repeat (first | with_reducible exact HA2.out | with_reducible exact HA1.out | with_reducible exact Below.refl _ _ | with_reducible refine below_alloc ?_ _ | with_reducible refine below_drew ?_ | ((with_reducible refine below_set' ?_ ?_); · (first | omega | (simp <;> omega))) | with_reducible apply Blk.set2 | ((with_reducible refine Blk.far' ?_ ?_); · (first | omega | (simp <;> omega))) | ((with_reducible refine Blk.at_ ?_); (simp; done)) | with_reducible refine Blk.alloc ?_ _ | with_reducible refine Blk.drew ?_ | ((with_reducible refine Blk.below' HC2.out ?_ ?_); · (first | omega | (simp <;> omega))) | ((with_reducible refine Blk.below' HC1.out ?_ ?_); · (first | omega | (simp <;> omega)))))
    case rest =>
      obtain ⟨gw, gd, rfl, rfl, HY⟩ := hcut
      obtain ⟨hbw, qw, qd⟩ := HY.out
      obtain ⟨q1, q2, q3, q4, q5⟩ := HX.out
      have r1 := q1.below hbw q1.lt
      have r2 := q2.below hbw q2.lt
      have B0 := below_step q5 hbw
      have HB0 := Aside0.mk B0
      have HR1 := Aside0.mk r1
      have HR2 := Aside0.mk r2
      have HQW := Aside0.mk qw
      have HQD := Aside0.mk qd
      have lw := qw.lt
      have ld := qd.lt
      have l2' := r2.lt
      have x0 := (B0.cell (p := ⟨0, 0, none⟩) (by show 0 < _; omega)).trans G0.out
      have x1 := (B0.cell (p := ⟨0, 1, none⟩) (by show 0 < _; omega)).trans G1.out
      have x2 := (B0.cell (p := ⟨1, 0, none⟩) hl1).trans G2.out
      have x3 := (B0.cell (p := ⟨1, 1, none⟩) hl1).trans G3.out
      have y0 := qw.cell 0
      have y1 := qw.cell 1
      have y2 := qd.cell 0
      have y3 := qd.cell 1
      simp at y0 y1 y2 y3
      clear q1 q2 q3 q4 q5 r1 r2 B0 qw qd hbw HX HY a0 a1 b0 b1 s1 s3 l1 l2 l3 l4 KS
      go_wp2_with fail
      refine (cross_wd _).mono ?_
      rintro e w1 ⟨rfl, hb1⟩
      have kp : Blk w1 wc.heap.size 76 #[.int .i64 0, .int .i64 1, .int .i64 1, .int .i64 1, .bool false, .bool false] := (Blk.new wc _ _).below hb1 (by simp)
      have kb : Below wc.heap.size wc w1 := below_step (below_alloc (Below.refl _ _) _) hb1
      have z5 := kp.frozen 5
      have c5 := kp.cell 5
      simp at c5
      have KP := Aside0.mk kp
      have KB := Aside0.mk kb
      clear kp kb hb1 x0 x1 x2 x3 y0 y1 y2 y3
      go_upto_region 11 with fail
      obtain ⟨W, hW⟩ : ∃ W, w1.setCell ⟨wc.heap.size, 5, none⟩ (.bool true) = W := ⟨_, rfl⟩
      have kW : Below wc.heap.size wc W := by rw [← hW]; exact KB.out.setCell (p := ⟨wc.heap.size, 5, none⟩) (Nat.le_refl _) _
      have pW : Blk W wc.heap.size 76 #[.int .i64 0, .int .i64 1, .int .i64 1, .int .i64 1, .bool false, .bool true] := by rw [← hW]; exact KP.out.set_ 5 _
      have r1 := HR1.out.below kW (by omega)
      have r2 := HR2.out.below kW l2'
      have qw := HQW.out.below kW lw
      have qd := HQD.out.below kW ld
      have s2 := r1.cell 2
      have y0 := qw.cell 0
      have y1 := qw.cell 1
      have y2 := qd.cell 0
      have y3 := qd.cell 1
      simp at s2 y0 y1 y2 y3
      have ks : ∀ V, Below W.heap.size W V → (V.cell? ⟨gw, 0, none⟩ = some (.int .i64 1000) ∧ V.cell? ⟨gw, 1, none⟩ = some (.int .i64 (-1000)) ∧ V.cell? ⟨gd, 0, none⟩ = some (.int .i64 1000) ∧ V.cell? ⟨gd, 1, none⟩ = some (.int .i64 1000) ∧ V.cell? ⟨w.heap.size + 1, 2, none⟩ = some (.int .i64 1)) := fun V h =>
        ⟨((bcell0 h).1 _ _ qw.lt).trans y0, ((bcell0 h).1 _ _ qw.lt).trans y1, ((bcell0 h).1 _ _ qd.lt).trans y2, ((bcell0 h).1 _ _ qd.lt).trans y3, ((bcell0 h).1 _ _ r1.lt).trans s2⟩
      have KS := Aside0.mk ks
      have BW := Aside0.mk (HB0.out.trans (kW.mono (by omega)))
      have PW := Aside0.mk pW
      have R1 := Aside0.mk r1
      have R2 := Aside0.mk r2
      have QW := Aside0.mk qw
      have QD := Aside0.mk qd
      have gpne : w.heap.size + 2 < wc.heap.size := l2'
      clear kW pW r1 r2 qw qd ks KP KB HR1 HR2 HQW HQD HB0 z5 c5
      rw [hW]
      clear hW
      generalize wc.heap.size = gp at *
      go_cut [13, 14] (fun s13 s14 wx => ∃ ga gd : Nat, s13 = .pointer (some ⟨ga, 0, none⟩) ∧ s14 = .pointer (some ⟨gd, 0, none⟩) ∧ Aside0 (Below W.heap.size W wx ∧ Blk wx ga 102 #[.int .i64 1000, .int .i64 1000] ∧ Blk wx gd 102 #[.int .i64 1000, .int .i64 (-1000)]))
      case first =>
        go_region_held3 (fun w' => w'.cell? ⟨gw, 0, none⟩ = some (.int .i64 1000) ∧ w'.cell? ⟨gw, 1, none⟩ = some (.int .i64 (-1000)) ∧ w'.cell? ⟨gd, 0, none⟩ = some (.int .i64 1000) ∧ w'.cell? ⟨gd, 1, none⟩ = some (.int .i64 1000) ∧ w'.cell? ⟨w.heap.size + 1, 2, none⟩ = some (.int .i64 1)) (exact KS.out _ (by repeat (first | exact Below.refl _ _ | apply below_alloc | apply below_drew | refine Below.setCell ?_ (by simp <;> omega) _))) (fail)
        all_goals
          go_wp2_with fail
          go_meet
          try simp only [show IntKind.i64.wrap 1000 = 1000 from by decide, show IntKind.i64.wrap (-1000) = -1000 from by decide]
          refine ⟨_, _, rfl, rfl, ⟨?_, ?_, ?_⟩⟩
          all_goals (repeat (first | with_reducible exact Below.refl _ _ | with_reducible refine below_alloc ?_ _ | with_reducible refine below_drew ?_ | ((with_reducible refine Blk.at_ ?_); (simp; done)) | with_reducible refine Blk.alloc ?_ _ | with_reducible refine Blk.drew ?_))
      case rest =>
        obtain ⟨ga', gd', rfl, rfl, HX⟩ := hcut
        obtain ⟨hbx, qa, qe⟩ := HX.out
        have pw := PW.out.below hbx PW.out.lt
        have r1 := R1.out.below hbx R1.out.lt
        have r2 := R2.out.below hbx R2.out.lt
        have qw := QW.out.below hbx QW.out.lt
        have qd := QD.out.below hbx QD.out.lt
        have BX := Aside0.mk (BW.out.trans (hbx.mono (by have := BW.out.size; omega)))
        have n1 := r1.ne_ pw (by decide)
        have nw := qw.ne_ pw (by decide)
        have nd := qd.ne_ pw (by decide)
        have na := qa.ne_ pw (by decide)
        have ne := qe.ne_ pw (by decide)
        have n2 : w.heap.size + 2 ≠ gp := by omega
        have e4 := r1.cell 4
        have e5 := r1.cell 5
        have e6 := r1.cell 6
        have e7 := r1.cell 7
        have e8 := r1.cell 8
        have y0 := qa.cell 0
        have y1 := qa.cell 1
        have y2 := qe.cell 0
        have y3 := qe.cell 1
        simp at e4 e5 e6 e7 e8 y0 y1 y2 y3
        have HP := Aside0.mk pw
        have H1 := Aside0.mk r1
        have H2 := Aside0.mk r2
        have HWy := Aside0.mk qw
        have HDy := Aside0.mk qd
        have HAy := Aside0.mk qa
        have HEy := Aside0.mk qe
        clear pw r1 r2 qw qd qa qe hbx HX PW R1 R2 QW QD KS
        go_wp2_with fail
        refine (cut_none gp 1000 1000 (by decide) (by decide) _).mono ?_
        rintro e w3 ⟨rfl, rfl⟩
        go_wp2_with fail
        refine (cut_lt gp _ HP.out).mono ?_
        rintro e wy ⟨rfl, hgy, hpy⟩
        have k1 := H1.out.grown hgy (by simpa using n1)
        have k2 := H2.out.grown hgy (by simpa using n2)
        have kw := HWy.out.grown hgy (by simpa using nw)
        have kd := HDy.out.grown hgy (by simpa using nd)
        have f8 := k1.cell 8
        simp at f8
        have ks : ∀ V, wy.grownBy V (some gp) → (V.cell? ⟨gw, 0, none⟩ = some (.int .i64 1000) ∧ V.cell? ⟨gw, 1, none⟩ = some (.int .i64 (-1000)) ∧ V.cell? ⟨gd, 0, none⟩ = some (.int .i64 1000) ∧ V.cell? ⟨gd, 1, none⟩ = some (.int .i64 1000) ∧ V.cell? ⟨w.heap.size + 1, 9, none⟩ = some (.int .i64 1)) := fun V h =>
          ⟨(kw.grown h (by simpa using nw)).cell 0, (kw.grown h (by simpa using nw)).cell 1, (kd.grown h (by simpa using nd)).cell 0, (kd.grown h (by simpa using nd)).cell 1, (k1.grown h (by simpa using n1)).cell 9⟩
        have KS := Aside0.mk ks
        have K2 := Aside0.mk k2
        have KP := Aside0.mk hpy
        have KG := Aside0.mk hgy
        clear k1 k2 kw kd ks hpy hgy e4 e5 e6 e7 e8 y0 y1 y2 y3
        go_wp2_with fail
        go_loopw [137] (fun i wr => ∃ k : Nat, k ≤ 2 ∧ i = .int .i64 k ∧ Aside0 (wy.grownBy wr (some gp) ∧ Blk wr gp 76 #[.int .i64 0, .int .i64 1, .int .i64 1, .int .i64 2, .bool false, .bool true])) (fun i _ => 2 - (intOf i).toNat)
        case atStart => exact ⟨0, by omega, rfl, ⟨World.grownBy.refl _ _, KP.out⟩⟩
        case round =>
          obtain ⟨k, hk, rfl, HR⟩ := hrel
          have GR := Aside0.mk HR.out.1
          have PR := Aside0.mk HR.out.2
          have kr : ∀ V, wr.grownBy V (some gp) → (V.cell? ⟨gw, 0, none⟩ = some (.int .i64 1000) ∧ V.cell? ⟨gw, 1, none⟩ = some (.int .i64 (-1000)) ∧ V.cell? ⟨gd, 0, none⟩ = some (.int .i64 1000) ∧ V.cell? ⟨gd, 1, none⟩ = some (.int .i64 1000) ∧ V.cell? ⟨w.heap.size + 1, 9, none⟩ = some (.int .i64 1)) := fun V h => KS.out V (only_trans HR.out.1 h)
          have KR := Aside0.mk kr
          clear kr HR KS
          match k, hk with
          | 0, _ =>
            have ha := sgn0
            go_wp2_with fail
            go_region_held3 (fun w' => w'.cell? ⟨gw, 0, none⟩ = some (.int .i64 1000) ∧ w'.cell? ⟨gw, 1, none⟩ = some (.int .i64 (-1000)) ∧ w'.cell? ⟨gd, 0, none⟩ = some (.int .i64 1000) ∧ w'.cell? ⟨gd, 1, none⟩ = some (.int .i64 1000) ∧ w'.cell? ⟨w.heap.size + 1, 9, none⟩ = some (.int .i64 1)) (first | exact KR.out _ GA3.out | exact KR.out _ (only_of_below (by repeat (first | exact Below.refl _ _ | exact HA1.out | exact HA2.out | apply below_drew | apply below_alloc)) _))
              (first
              | (go_at_call 42; refine (dot_wd _).mono ?_; rintro e w1 ⟨rfl, hb1⟩; have HA1 := Aside0.mk (below_step (show Below wr.heap.size wr _ from by repeat (first | exact Below.refl _ _ | exact HA1.out | exact HA2.out | apply below_drew | apply below_alloc)) hb1); clear hb1)
              | (go_at_call 43; refine (square_w _).mono ?_; rintro e w2 ⟨rfl, hb2⟩; have HA2 := Aside0.mk (below_step (show Below wr.heap.size wr _ from by repeat (first | exact Below.refl _ _ | exact HA1.out | exact HA2.out | apply below_drew | apply below_alloc)) hb2); clear hb2)
              | (go_at_call 41; refine (cut_ge gp _ (PR.out.below (show Below wr.heap.size wr _ from by repeat (first | exact Below.refl _ _ | exact HA1.out | exact HA2.out | apply below_drew | apply below_alloc)) PR.out.lt)).mono ?_; rintro e w3 ⟨rfl, hg3, hB3⟩; have GA3 := Aside0.mk (only_trans (only_of_below (show Below wr.heap.size wr _ from by repeat (first | exact Below.refl _ _ | exact HA1.out | exact HA2.out | apply below_drew | apply below_alloc)) (some gp)) hg3); have PA3 := Aside0.mk hB3; clear hg3 hB3))
            all_goals
              go_wp2_with fail
              go_roundw
              case rel => exact ⟨1, by omega, rfl, ⟨only_trans GR.out GA3.out, PA3.out⟩⟩
              case measure => simp [intOf]
          | 1, _ =>
            have ha := sgn1
            go_wp2_with fail
            go_region_held3 (fun w' => w'.cell? ⟨gw, 0, none⟩ = some (.int .i64 1000) ∧ w'.cell? ⟨gw, 1, none⟩ = some (.int .i64 (-1000)) ∧ w'.cell? ⟨gd, 0, none⟩ = some (.int .i64 1000) ∧ w'.cell? ⟨gd, 1, none⟩ = some (.int .i64 1000) ∧ w'.cell? ⟨w.heap.size + 1, 9, none⟩ = some (.int .i64 1)) (first | exact KR.out _ GA3.out | exact KR.out _ (only_of_below (by repeat (first | exact Below.refl _ _ | exact HA1.out | exact HA2.out | apply below_drew | apply below_alloc)) _))
              (first
              | (go_at_call 42; refine (dot_wd _).mono ?_; rintro e w1 ⟨rfl, hb1⟩; have HA1 := Aside0.mk (below_step (show Below wr.heap.size wr _ from by repeat (first | exact Below.refl _ _ | exact HA1.out | exact HA2.out | apply below_drew | apply below_alloc)) hb1); clear hb1)
              | (go_at_call 43; refine (square_w _).mono ?_; rintro e w2 ⟨rfl, hb2⟩; have HA2 := Aside0.mk (below_step (show Below wr.heap.size wr _ from by repeat (first | exact Below.refl _ _ | exact HA1.out | exact HA2.out | apply below_drew | apply below_alloc)) hb2); clear hb2)
              | (go_at_call 41; refine (cut_none gp 2000000 2000000 (by decide) (by decide) _).mono ?_; rintro e w3 ⟨rfl, rfl⟩))
            all_goals
              go_wp2_with fail
              go_roundw
              case rel => exact ⟨2, by omega, rfl, ⟨only_trans GR.out (only_of_below (show Below wr.heap.size wr _ from by repeat (first | exact Below.refl _ _ | exact HA1.out | exact HA2.out | apply below_drew | apply below_alloc)) _), PR.out.below (show Below wr.heap.size wr _ from by repeat (first | exact Below.refl _ _ | exact HA1.out | exact HA2.out | apply below_drew | apply below_alloc)) PR.out.lt⟩⟩
              case measure => simp [intOf]
          | 2, _ =>
            have hB2 : Blk wr (w.heap.size + 1 + 1) 76 #[.int .i64 0, .int .i64 0, .int .i64 0, .int .i64 0, .bool false, .bool false] := K2.out.grown GR.out (by simpa using n2)
            have p0 := PR.out.cell 0
            have p1 := PR.out.cell 1
            have p2 := PR.out.cell 2
            have p3 := PR.out.cell 3
            have p4 := PR.out.cell 4
            have p5 := PR.out.cell 5
            have q0 := hB2.cell 0
            have q1 := hB2.cell 1
            have q2 := hB2.cell 2
            have q3 := hB2.cell 3
            have q4 := hB2.cell 4
            have q5 := hB2.cell 5
            have z0 := hB2.frozen 0
            have z1 := hB2.frozen 1
            have z2 := hB2.frozen 2
            have z3 := hB2.frozen 3
            have z4 := hB2.frozen 4
            have z5 := hB2.frozen 5
            simp at p0 p1 p2 p3 p4 p5 q0 q1 q2 q3 q4 q5
            have HB2 := Aside0.mk hB2
            clear hB2
            go_wp2_with fail
            have hfin := (((((HB2.out.set_ 0 (.int .i64 0)).set_ 1 (.int .i64 1)).set_ 2 (.int .i64 1)).set_ 3 (.int .i64 2)).set_ 4 (.bool false)).set_ 5 (.bool true)
            have by_ : Below w.heap.size w wy := BX.out.grown KG.out BX.out.size (fun j e => by injection e; omega)
            have br : Below w.heap.size w wr := by_.grown GR.out by_.size (fun j e => by injection e; omega)
            have bfin : ∀ i (u : Value) V, Below w.heap.size w V → Below w.heap.size w (V.setCell ⟨w.heap.size + 1 + 1, i, none⟩ u) := fun i u V h => h.setCell (by show _ ≤ w.heap.size + 1 + 1; omega) _
            exact met_ret _ rfl rfl hfin (bfin 5 (.bool true) _ (bfin 4 (.bool false) _ (bfin 3 (.int .i64 2) _ (bfin 2 (.int .i64 1) _ (bfin 1 (.int .i64 1) _ (bfin 0 (.int .i64 0) _ br))))))
end Go.Proofs.YtbhbabimfkiibaaDoor
