/- The checks of the example's joint and set-up. -/
import Derived.Test.YtbhbabimfkiibaaDoorBb
import Derived.Test.YtbhbabimfkiibaaDoorBa
import Derived.BigQuiet
import Derived.Deep.QuietTactic
import Derived.BigRegion
import Derived.Deep.RegionHeld3
namespace Go.Proofs.YtbhbabimfkiibaaDoor
open Go.RowKit Go.Proofs.YtbhbabimfkiibaaDoorW.PrintWords Go.Proofs.YtbhbabimfkiibaaDoorW.PrintLast Go.Proofs.YtbhbabimfkiibaaDoorW.PrintMore PTopScannedAnew
set_option linter.unusedVariables false
set_option linter.unusedSimpArgs false

theorem name_one (c : UInt8) (h : nmB ⟨#[c]⟩ = true) (w : World) : Calls Tryd.prog 52 #[.string ⟨#[c]⟩] w fun e w' => e = .returned (.bool true) ∧ Below w.heap.size w w' :=
  (isName_any ⟨#[c]⟩ w (by unfold maxLen; show 1 ≤ _; omega)).mono fun e w' ⟨h1, h2⟩ => ⟨by rw [h1, h], h2⟩

theorem IndexFunc_none (q : Option Addr) (c : Nat) (f : Value) (w : World) :
    Calls Tryd.prog 91 #[.slice q 0 c, f] w fun e w' => e = .returned (.int .i64 (-1)) ∧ w = w' := by
  go_enter Tryd.func91, Tryd.ntmps91
  go_wp2_with fail
  go_loop [8] (fun i => i = .int .i64 0) (fun _ => 0)
  case atStart => rfl
  case round =>
    subst hrel
    go_wp2_with fail
    go_ret
    exact ⟨rfl, rfl⟩
theorem ContainsFunc_none (q : Option Addr) (c : Nat) (f : Value) (w : World) :
    Calls Tryd.prog 87 #[.slice q 0 c, f] w fun e w' => e = .returned (.bool false) ∧ w = w' := by
  go_enter Tryd.func87, Tryd.ntmps87
  go_wp2_with fail
  refine (IndexFunc_none _ _ _ _).mono ?_
  rintro e w' ⟨rfl, rfl⟩
  go_wp2_with fail
  go_ret
  exact ⟨rfl, rfl⟩

theorem small_ok (x : Int) (h : -20000 ≤ x ∧ x ≤ 20000) (w : World) : Calls Tryd.prog 34 #[.int .i64 x, .int .i64 20000] w fun e w' => e = .returned (.bool true) ∧ Drawn0 w w' :=
  cover_small.calls x 20000 true w (by simp [cover_small.f, cover_within.f, wrap64, h])
theorem within_ok (x lo hi : Int) (h : lo ≤ x ∧ x ≤ hi) (w : World) : Calls Tryd.prog 47 #[.int .i64 x, .int .i64 lo, .int .i64 hi] w fun e w' => e = .returned (.bool true) ∧ Drawn0 w w' :=
  cover_within.calls x lo hi true w (by simp [cover_within.f, h])

set_option maxRecDepth 100000 in
set_option maxHeartbeats 2000000 in
theorem faceErr_at (q : Option Addr) (c : Nat) (w : World) :
    Calls Tryd.prog 77 #[.slice q 0 c, .agg #[.string ⟨#[102]⟩, .int .i64 0, .int .i64 1000, .int .i64 1000, .int .i64 0], .int .i64 1000] w fun e w' => e = .returned (.int .i64 0) ∧ Below w.heap.size w w' := by
  have hne : ∀ w, Sem.run Tryd.prog (binOp BinOp.eql 79 (.agg #[.int .i64 0, .int .i64 1000]) (.agg #[.int .i64 1000, .int .i64 0])) w = .ok (Value.bool false) w := fun _ => by kernel_rfl
  go_enter Tryd.func77, Tryd.ntmps77
  go_wp2_with fail
  refine (name_one 102 (by decide) _).mono ?_
  rintro e w1 ⟨rfl, hb1⟩
  have kp := (show Blk (w.alloc (.cells #[.string ⟨#[102]⟩, .int .i64 0, .int .i64 1000, .int .i64 1000, .int .i64 0] 81)) w.heap.size 81 _ from World.alloc_heap_new w _).below hb1 (by simp)
  have c1 := kp.cell 1
  have c2 := kp.cell 2
  have c3 := kp.cell 3
  have c4 := kp.cell 4
  simp at c1 c2 c3 c4
  have HB := Aside0.mk (below_step (below_alloc (Below.refl _ _) _) hb1)
  clear kp hb1
  go_wp2_with (first
    | (go_at_call 87; refine (ContainsFunc_none _ _ _ _).mono ?_; rintro e w' ⟨rfl, rfl⟩)
    | (go_at_call 34; refine (small_ok _ (by decide) _).mono ?_; rintro e w' ⟨rfl, ⟨⟨m, rfl⟩⟩⟩)
    | (go_at_call 47; refine (within_ok _ _ _ (by decide) _).mono ?_; rintro e w' ⟨rfl, ⟨⟨m, rfl⟩⟩⟩))
  go_ret
  exact ⟨rfl, by repeat (first | exact HB.out | apply pw_below_drewN)⟩

theorem Blk.new2_ (w : World) (t : TypeId) (cs : Array Value) (o : Obj) : Blk ((w.alloc o).alloc (.cells cs t)) (w.heap.size + 1) t cs := by
  have := World.alloc_heap_new (w.alloc o) (.cells cs t)
  rwa [World.size_alloc] at this
set_option maxRecDepth 100000 in
set_option maxHeartbeats 2000000 in
theorem slant_at (w : World) : Calls Tryd.prog 14 #[] w fun e w' => ∃ g : Nat, e = .returned (.agg #[.string ⟨#[118]⟩, .int .i64 1000, .int .i64 0, .slice (some ⟨g, 0, none⟩) 1 1]) ∧ Blk w' g 81 #[.string ⟨#[102]⟩, .int .i64 0, .int .i64 1000, .int .i64 1000, .int .i64 0] ∧ Below w.heap.size w w' := by
  go_enter Tryd.func14, Tryd.ntmps14
  go_wp2_with fail
  refine bodyPost_ret (v := .agg #[.string ⟨#[118]⟩, .int .i64 1000, .int .i64 0, .slice (some ⟨w.heap.size + 1, 0, none⟩) 1 1]) ?_ rfl ⟨w.heap.size + 1, rfl, Blk.new2_ _ _ _ _, below_alloc (below_alloc (Below.refl _ _) _) _⟩
  simp [results, Tryd.results14, go_sem]

/-- The example's joint, as a value. -/
abbrev slantV (g : Nat) : Value := .agg #[.string ⟨#[118]⟩, .int .i64 1000, .int .i64 0, .slice (some ⟨g, 0, none⟩) 1 1]
abbrev faceC : Array Value := #[.string ⟨#[102]⟩, .int .i64 0, .int .i64 1000, .int .i64 1000, .int .i64 0]
abbrev askA : Array Value := #[.int .i64 0, .string ⟨#[97]⟩, .int .i64 (-1000), .int .i64 1, .int .i64 1, .int .i64 0, .int .i64 1, .int .i64 3, .int .i64 1, .int .i64 1, .int .i64 1]
abbrev setupA : Array Value := #[.string ⟨#[97]⟩, .int .i64 (-1000), .int .i64 1, .int .i64 1, .int .i64 0, .int .i64 1, .int .i64 3, .int .i64 1, .int .i64 1, .int .i64 1]

set_option maxRecDepth 100000 in
set_option maxHeartbeats 2000000 in
theorem CheckJoint_at (g : Nat) (w : World) (h : Blk w g 81 faceC) :
    Calls Tryd.prog 61 #[slantV g] w fun e w' => e = .returned (.tuple #[.int .i64 0, .int .i64 0]) ∧ Below w.heap.size w w' := by
  have hg := h.lt
  have H := Aside0.mk h
  clear h
  go_enter Tryd.func61, Tryd.ntmps61
  go_wp2_with fail
  refine (name_one 118 (by decide) _).mono ?_
  rintro e w1 ⟨rfl, hb1⟩
  have kp := (show Blk (w.alloc (.cells #[.string ⟨#[118]⟩, .int .i64 1000, .int .i64 0, .slice (some ⟨g, 0, none⟩) 1 1] 56)) w.heap.size 56 _ from World.alloc_heap_new w _).below hb1 (by simp)
  have c1 := kp.cell 1
  have c2 := kp.cell 2
  have c3 := kp.cell 3
  have HB := Aside0.mk (below_step (below_alloc (Below.refl _ _) _) hb1)
  have hF := H.out.below HB.out hg
  have f0 := hF.cell 0
  have f1 := hF.cell 1
  have f2 := hF.cell 2
  have f3 := hF.cell 3
  have f4 := hF.cell 4
  simp at c1 c2 c3 f0 f1 f2 f3 f4
  have KP := Aside0.mk kp
  clear kp hb1 hF
  go_wp2_with (first
    | (go_at_call 47; refine (within_ok _ _ _ (by decide) _).mono ?_; rintro e w' ⟨rfl, ⟨⟨m, rfl⟩⟩⟩))
  clear c1 c2 c3 f0 f1 f2 f3 f4
  go_loopw [31] (fun i wr => ∃ k : Nat, k ≤ 1 ∧ i = .int .i64 k ∧ Aside0 (Below w1.heap.size w1 wr)) (fun i _ => 1 - (intOf i).toNat)
  case atStart => exact ⟨0, by omega, rfl, ⟨by repeat (first | exact Below.refl _ _ | apply pw_below_drewN)⟩⟩
  case round =>
    obtain ⟨k, hk, rfl, HR⟩ := hrel
    match k, hk with
    | 0, _ =>
      have kj := KP.out.below HR.out KP.out.lt
      have hf := H.out.below (HB.out.trans (HR.out.mono HB.out.size)) hg
      have lj := kj.lt
      have c1 := kj.cell 1
      have c3 := kj.cell 3
      have f0 := hf.cell 0
      have f1 := hf.cell 1
      have f2 := hf.cell 2
      have f3 := hf.cell 3
      have f4 := hf.cell 4
      simp at c1 c3 f0 f1 f2 f3 f4
      obtain ⟨W, hW⟩ : ∃ W, wr.alloc (.cells faceC 81) = W := ⟨_, rfl⟩
      have hbW : Below wr.heap.size wr W := by rw [← hW]; exact below_alloc (Below.refl _ _) _
      have hFb : Blk W wr.heap.size 81 faceC := by rw [← hW]; exact World.alloc_heap_new wr _
      have ks : ∀ V, Below W.heap.size W V → (V.cell? ⟨w.heap.size, 1, none⟩ = some (.int .i64 1000) ∧ V.cell? ⟨w.heap.size, 3, none⟩ = some (.slice (some ⟨g, 0, none⟩) 1 1) ∧ V.cell? ⟨wr.heap.size, 0, none⟩ = some (.string ⟨#[102]⟩) ∧ V.cell? ⟨wr.heap.size, 1, none⟩ = some (.int .i64 0) ∧ V.cell? ⟨wr.heap.size, 2, none⟩ = some (.int .i64 1000) ∧ V.cell? ⟨wr.heap.size, 3, none⟩ = some (.int .i64 1000) ∧ V.cell? ⟨wr.heap.size, 4, none⟩ = some (.int .i64 0)) := fun V h =>
        ⟨((bcell0 h).1 _ _ (by have := hbW.size; omega)).trans ((bcell0 hbW).1 _ _ lj |>.trans c1), ((bcell0 h).1 _ _ (by have := hbW.size; omega)).trans ((bcell0 hbW).1 _ _ lj |>.trans c3), (hFb.below h hFb.lt).cell 0, (hFb.below h hFb.lt).cell 1, (hFb.below h hFb.lt).cell 2, (hFb.below h hFb.lt).cell 3, (hFb.below h hFb.lt).cell 4⟩
      have KS := Aside0.mk ks
      have HW := Aside0.mk hW
      have HBW := Aside0.mk hbW
      clear ks hW hbW hFb kj hf
      go_wp2_with fail
      rw [show wr.alloc (.cells #[.string ⟨#[102]⟩, .int .i64 0, .int .i64 1000, .int .i64 1000, .int .i64 0] 81) = W from HW.out]
      obtain ⟨s1, s2, s3, s4, s5, s6, s7⟩ := KS.out W (Below.refl _ _)
      go_region_held3 (fun w' => w'.cell? ⟨w.heap.size, 1, none⟩ = some (.int .i64 1000) ∧ w'.cell? ⟨w.heap.size, 3, none⟩ = some (.slice (some ⟨g, 0, none⟩) 1 1) ∧ w'.cell? ⟨wr.heap.size, 0, none⟩ = some (.string ⟨#[102]⟩) ∧ w'.cell? ⟨wr.heap.size, 1, none⟩ = some (.int .i64 0) ∧ w'.cell? ⟨wr.heap.size, 2, none⟩ = some (.int .i64 1000) ∧ w'.cell? ⟨wr.heap.size, 3, none⟩ = some (.int .i64 1000) ∧ w'.cell? ⟨wr.heap.size, 4, none⟩ = some (.int .i64 0)) (exact KS.out _ (by repeat (first | exact Below.refl _ _ | exact HA.out | apply below_drew)))
        ((go_at_call 77; refine (faceErr_at _ _ _).mono ?_; rintro e w3 ⟨rfl, hb3⟩; have HA := Aside0.mk (below_step (show Below W.heap.size W _ from by repeat (first | exact Below.refl _ _ | apply below_drew)) hb3); clear hb3))
      all_goals
        go_wp2_with fail
        go_roundw
        case rel => exact ⟨1, by omega, rfl, ⟨HR.out.trans ((HBW.out.trans ((show Below W.heap.size W _ from by repeat (first | exact HA.out | apply below_drew)).mono HBW.out.size)).mono HR.out.size)⟩⟩
        case measure => simp [intOf]
    | 1, _ =>
      go_wp2_with fail
      go_ret2
      exact ⟨rfl, HB.out.trans (HR.out.mono HB.out.size)⟩

set_option maxRecDepth 100000 in
set_option maxHeartbeats 2000000 in
theorem jointErr_at (g : Nat) (w : World) (h : Blk w g 81 faceC) :
    Calls Tryd.prog 51 #[slantV g] w fun e w' => e = .returned (.int .i64 0) ∧ Below w.heap.size w w' := by
  have hg := h.lt
  have H := Aside0.mk h
  clear h
  go_enter Tryd.func51, Tryd.ntmps51
  go_wp2_with fail
  refine (CheckJoint_at g _ (H.out.below (show Below w.heap.size w _ from below_alloc (Below.refl _ _) _) hg)).mono ?_
  rintro e w1 ⟨rfl, hb1⟩
  have HB := Aside0.mk (below_step (below_alloc (Below.refl _ _) _) hb1)
  clear hb1
  go_wp2_with fail
  go_ret
  exact ⟨rfl, HB.out⟩

set_option maxRecDepth 100000 in
set_option maxHeartbeats 2000000 in
theorem openFace_at (g : Nat) (w : World) (h : Blk w g 81 faceC) :
    Calls Tryd.prog 37 #[slantV g, .int .i64 0] w fun e w' => e = .returned (.int .i64 0) ∧ Below w.heap.size w w' := by
  have hg := h.lt
  have H := Aside0.mk h
  clear h
  go_enter Tryd.func37, Tryd.ntmps37
  go_wp2_with fail
  refine (jointErr_at g _ (H.out.below (show Below w.heap.size w _ from below_alloc (Below.refl _ _) _) hg)).mono ?_
  rintro e w1 ⟨rfl, hb1⟩
  have kp := (show Blk (w.alloc (.cells #[.string ⟨#[118]⟩, .int .i64 1000, .int .i64 0, .slice (some ⟨g, 0, none⟩) 1 1] 56)) w.heap.size 56 _ from World.alloc_heap_new w _).below hb1 (by simp)
  have c3 := kp.cell 3
  simp at c3
  have HB := Aside0.mk (below_step (below_alloc (Below.refl _ _) _) hb1)
  clear hb1 kp
  go_wp2_with (go_at_call 47; refine (within_ok _ _ _ (by decide) _).mono ?_; rintro e w' ⟨rfl, ⟨⟨m, rfl⟩⟩⟩)
  go_ret
  exact ⟨rfl, by repeat (first | exact HB.out | apply pw_below_drewN)⟩

theorem tangent_ok (a b : Int) (k : Nat) (h : cover_tangentErr.f k a b = some 0) (w : World) : Calls Tryd.prog 53 #[.agg #[.int .i64 a, .int .i64 b]] w fun e w' => e = .returned (.int .i64 0) ∧ Below w.heap.size w w' :=
  cover_tangentErr.calls k a b 0 w h

set_option maxRecDepth 100000 in
set_option maxHeartbeats 2000000 in
theorem CheckSetup_at (w : World) :
    Calls Tryd.prog 38 #[.agg setupA] w fun e w' => e = .returned (.int .i64 0) ∧ Below w.heap.size w w' := by
  have i0 : ∀ w, (Instr.index 113 (.agg #[.int .i64 0, .int .i64 1, .int .i64 3, .int .i64 1, .int .i64 1, .int .i64 1]) (.int .i64 0)).run Tryd.prog w = .ok (.agg #[.int .i64 0, .int .i64 1]) w := fun _ => by kernel_rfl
  have i1 : ∀ w, (Instr.index 113 (.agg #[.int .i64 0, .int .i64 1, .int .i64 3, .int .i64 1, .int .i64 1, .int .i64 1]) (.int .i64 1)).run Tryd.prog w = .ok (.agg #[.int .i64 3, .int .i64 1]) w := fun _ => by kernel_rfl
  have i2 : ∀ w, (Instr.index 113 (.agg #[.int .i64 0, .int .i64 1, .int .i64 3, .int .i64 1, .int .i64 1, .int .i64 1]) (.int .i64 2)).run Tryd.prog w = .ok (.agg #[.int .i64 1, .int .i64 1]) w := fun _ => by kernel_rfl
  go_enter Tryd.func38, Tryd.ntmps38
  go_wp2_with fail
  refine (name_one 97 (by decide) _).mono ?_
  rintro e w1 ⟨rfl, hb1⟩
  have kp := (show Blk (w.alloc (.cells setupA 60)) w.heap.size 60 _ from World.alloc_heap_new w _).below hb1 (by simp)
  have HB := Aside0.mk (below_step (below_alloc (Below.refl _ _) _) hb1)
  have KP := Aside0.mk kp
  have c1 := kp.cell 1
  have c2 := kp.cell 2
  have c3 := kp.cell 3
  have c4 := kp.cell 4
  have c5 := kp.cell 5
  have c6 := kp.cell 6
  have c7 := kp.cell 7
  have c8 := kp.cell 8
  have c9 := kp.cell 9
  simp at c1 c2 c3 c4 c5 c6 c7 c8 c9
  clear kp hb1
  go_wp2_with (first
    | (go_at_call 34; refine (small_ok _ (by decide) _).mono ?_; rintro e w' ⟨rfl, ⟨⟨m, rfl⟩⟩⟩)
    | (go_at_call 47; refine (within_ok _ _ _ (by decide) _).mono ?_; rintro e w' ⟨rfl, ⟨⟨m, rfl⟩⟩⟩))
  clear c1 c2 c3 c4 c5 c6 c7 c8 c9
  go_loopw [38] (fun i wr => ∃ k : Nat, k ≤ 3 ∧ i = .int .i64 k ∧ Aside0 (Below w1.heap.size w1 wr)) (fun i _ => 3 - (intOf i).toNat)
  case atStart => exact ⟨0, by omega, rfl, ⟨by repeat (first | exact Below.refl _ _ | apply pw_below_drewN)⟩⟩
  case round =>
    obtain ⟨k, hk, rfl, HR⟩ := hrel
    match k, hk with
    | 0, _ =>
      go_wp2_with fail
      refine (tangent_ok 0 1 9 (by decide +kernel) _).mono ?_
      rintro e w2 ⟨rfl, hb2⟩
      have HB2 := Aside0.mk (below_step (show Below wr.heap.size wr _ from below_alloc (Below.refl _ _) _) hb2)
      clear hb2
      go_wp2_with fail
      go_roundw
      case rel => exact ⟨1, by omega, rfl, ⟨below_step HR.out HB2.out⟩⟩
      case measure => simp [intOf]
    | 1, _ =>
      go_wp2_with fail
      refine (tangent_ok 3 1 9 (by decide +kernel) _).mono ?_
      rintro e w2 ⟨rfl, hb2⟩
      have HB2 := Aside0.mk (below_step (show Below wr.heap.size wr _ from below_alloc (Below.refl _ _) _) hb2)
      clear hb2
      go_wp2_with fail
      go_roundw
      case rel => exact ⟨2, by omega, rfl, ⟨below_step HR.out HB2.out⟩⟩
      case measure => simp [intOf]
    | 2, _ =>
      go_wp2_with fail
      refine (tangent_ok 1 1 9 (by decide +kernel) _).mono ?_
      rintro e w2 ⟨rfl, hb2⟩
      have HB2 := Aside0.mk (below_step (show Below wr.heap.size wr _ from below_alloc (Below.refl _ _) _) hb2)
      clear hb2
      go_wp2_with fail
      go_roundw
      case rel => exact ⟨3, by omega, rfl, ⟨below_step HR.out HB2.out⟩⟩
      case measure => simp [intOf]
    | 3, _ =>
      have kq := KP.out.below HR.out KP.out.lt
      have c4 := kq.cell 4
      have c5 := kq.cell 5
      have c6 := kq.cell 6
      have c7 := kq.cell 7
      simp at c4 c5 c6 c7
      clear kq
      go_wp2_with fail
      go_ret
      exact ⟨rfl, below_step HB.out HR.out⟩

set_option maxRecDepth 100000 in
set_option maxHeartbeats 2000000 in
theorem openAsk_at (g : Nat) (w : World) (h : Blk w g 81 faceC) :
    Calls Tryd.prog 24 #[slantV g, .agg askA] w fun e w' => e = .returned (.int .i64 0) ∧ Below w.heap.size w w' := by
  have hg := h.lt
  have H := Aside0.mk h
  clear h
  go_enter Tryd.func24, Tryd.ntmps24
  go_wp2_with fail
  refine (openFace_at g _ (H.out.below (show Below w.heap.size w _ from below_alloc (below_alloc (Below.refl _ _) _) _) hg)).mono ?_
  rintro e w1 ⟨rfl, hb1⟩
  have kp := (show Blk ((w.alloc (.cells #[.string ⟨#[118]⟩, .int .i64 1000, .int .i64 0, .slice (some ⟨g, 0, none⟩) 1 1] 56)).alloc (.cells askA 63)) (w.heap.size + 1) 63 _ from Blk.new2_ w _ _ _).below hb1 (by simp)
  have c1 := kp.cell 1
  have c2 := kp.cell 2
  have c3 := kp.cell 3
  have c4 := kp.cell 4
  have c5 := kp.cell 5
  have c6 := kp.cell 6
  have c7 := kp.cell 7
  have c8 := kp.cell 8
  have c9 := kp.cell 9
  have c10 := kp.cell 10
  simp at c1 c2 c3 c4 c5 c6 c7 c8 c9 c10
  have HB := Aside0.mk (below_step (below_alloc (below_alloc (Below.refl _ _) _) _) hb1)
  clear hb1 kp
  go_wp2_with fail
  refine (CheckSetup_at _).mono ?_
  rintro e w2 ⟨rfl, hb2⟩
  have HB2 := Aside0.mk (below_step HB.out hb2)
  clear hb2
  go_wp2_with fail
  go_ret
  exact ⟨rfl, HB2.out⟩
end Go.Proofs.YtbhbabimfkiibaaDoor
