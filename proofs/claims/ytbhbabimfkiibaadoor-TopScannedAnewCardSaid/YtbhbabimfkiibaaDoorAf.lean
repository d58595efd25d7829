/- ParseFrame at a text as long as a frame of one element: what it answers tells the position, or an error. -/
import Derived.Test.YtbhbabimfkiibaaDoorAi
import Derived.Sort.QuietIn
namespace Go.Proofs.YtbhbabimfkiibaaDoor
open Go.RowKit Go.Shelf Go.Proofs.YtbhbabimfkiibaaDoorW.PrintWords Go.Proofs.YtbhbabimfkiibaaDoorW.PrintLast Go.Proofs.YtbhbabimfkiibaaDoorW.PrintMore PTopScannedAnew
set_option linter.unusedVariables false
set_option linter.unusedSimpArgs false
attribute [local go_sem] Oper.semAt_some

/-- What ParseFrame hands back: an error; or a frame at the position. -/
def Parsed (p : Int) (e : Ending) : Prop := ∃ (q el er : Int) (v : Value), e = .returned (.tuple #[.agg #[.int .i64 q, .int .i64 el, v], .int .i64 er]) ∧ (er = 0 → q = p ∧ el = 1) ∧ ∃ a n c, v = .slice a n c

theorem f32info : (Tryd.prog.info? 69).map (fun i => (i.zero, i.size, i.bytes)) = some (some (.float .f32 0), 1, 4) := by kernel_rfl

set_option maxRecDepth 100000 in
set_option maxHeartbeats 4000000 in
theorem ParseFrame_full (p : Int) (hp : -2000000 ≤ p ∧ p ≤ 2000000) (s : ByteArray) (w : World) (h : StartsFrame p s) (hs : s.size = 138) :
    Calls Tryd.prog 21 #[.string s] w fun e w' => Parsed p e ∧ Below w.heap.size w w' := by
  refine (callsIn_wide (n := 6)).1 ?_
  have hs1 : (s.size : Int) < 1000 := by omega
  have HS := Aside0.mk hs
  have h8 : 8 ≤ s.size := by omega
  have hpre := fun w => callsIn_wide (n := 5).2 (strings_HasPrefix.calls s ⟨#[67, 80]⟩ true w (prefix_true p s h h8))
  have HPRE := Lib.hid hpre
  have hwi : ∀ w, CallsIn Fence.wide 5 Tryd.prog 28 #[.int .i64 1, .int .i64 1, .int .i64 16] w fun e w' => e = .returned (.bool true) ∧ Drawn0 w w' := fun w => callsIn_wide.2 (trace_within.calls 1 1 16 true w (by simp [trace_within.f]))
  have HWI := Lib.hid hwi
  have hfs : ∀ w, CallsIn Fence.wide 5 Tryd.prog 22 #[.int .i64 1] w fun e w' => e = .returned (.int .i64 138) ∧ Drawn0 w w' := fun w => callsIn_wide.2 (trace_frameSize.calls 1 138 w (by simp [trace_frameSize.f, wrap64]))
  have HFS := Lib.hid hfs
  clear hpre hwi hfs
  have hb2 : ∀ h : 2 < s.size, s[2].toNat = 1 := fun h' => by rw [ba_get s 2 h', starts_at p s h 2 (by omega)]; rfl
  have hb3 : ∀ h : 3 < s.size, s[3].toNat = 1 := fun h' => by rw [ba_get s 3 h', starts_at p s h 3 (by omega)]; rfl
  have hT : ∀ k, Fence.wide.fn k := fun _ => trivial
  have hfP : Fence.wide.fn 30 := trivial
  have hfW : Fence.wide.fn 28 := trivial
  have hfF : Fence.wide.fn 22 := trivial
  have hfC : Fence.wide.fn 20 := trivial
  have hfH : Fence.wide.fn 31 := trivial
  have hfS : Fence.wide.fn 17 := trivial
  have hfK : Fence.wide.fn 32 := trivial
  clear hs
  refine callsIn_of_wp_marks Tryd.func21 rfl trivial ?_ rfl
  simp only [Tryd.ntmps21, List.size_toArray, List.length_cons, List.length_nil, Nat.reduceAdd, Nat.reduceSub, Array.replicate_succ, Array.replicate_zero, List.push_toArray, List.append_toArray, List.nil_append, List.cons_append]
  have hne : ((s.size : Int) != 138) = false := by rw [HS.out]; rfl
  gi_wp2_with (first
    | (gi_at_call 30; refine (HPRE.out _).mono ?_; rintro e w' ⟨rfl, ⟨⟨m, rfl⟩⟩⟩)
    | (gi_at_call 28; refine (HWI.out _).mono ?_; rintro e w' ⟨rfl, ⟨⟨m2, rfl⟩⟩⟩)
    | (gi_at_call 22; refine (HFS.out _).mono ?_; rintro e w' ⟨rfl, ⟨⟨m3, rfl⟩⟩⟩))
  have hg1 : (0 : Int) ≤ (s.size : Int) - 2 := by have := HS.out; omega
  have hg2 : (s.size : Int) - 2 ≤ (s.size : Int) := by omega
  have ht : ((s.size : Int) - 2).toNat = 136 := by have := HS.out; omega
  gi_quiet (fail)
  gi_wp2_with fail
  obtain ⟨r, hr⟩ := check_total (s.extract 0 136) (by simp; have := HS.out; omega)
  refine (callsIn_wide.2 (trace_check.calls _ _ r _ hr)).mono ?_
  rintro e w' ⟨rfl, ⟨⟨m4, rfl⟩⟩⟩
  clear hr
  gi_wp2_with fail
  refine (callsIn_wide.2 (whole_any _ _ (by simp; have := HS.out; omega))).mono ?_
  rintro e W1 ⟨rfl, hb1⟩
  have hB1 : Below w.heap.size w W1 := below_step (by repeat (first | exact Below.refl _ _ | apply pw_below_drewN | apply below_alloc)) hb1
  have f0 : W1.cell? ⟨w.heap.size, 0, none⟩ = some (.int .i64 0) := (hb1.cell (p := ⟨w.heap.size, 0, none⟩) (by simp <;> omega)).trans (by simp)
  have f1 : W1.cell? ⟨w.heap.size, 1, none⟩ = some (.int .i64 0) := (hb1.cell (p := ⟨w.heap.size, 1, none⟩) (by simp <;> omega)).trans (by simp)
  have f2 : W1.cell? ⟨w.heap.size, 2, none⟩ = some (.slice none 0 0) := (hb1.cell (p := ⟨w.heap.size, 2, none⟩) (by simp <;> omega)).trans (by simp)
  have f3 : W1.cell? ⟨w.heap.size + 1, 0, none⟩ = some (.int .i64 0) := (hb1.cell (p := ⟨w.heap.size + 1, 0, none⟩) (by simp <;> omega)).trans (by simp)
  have z0 : W1.frozen? ⟨w.heap.size, 0, none⟩ = false := (hb1.frozen (p := ⟨w.heap.size, 0, none⟩) (by simp <;> omega)).trans (by simp)
  have z1 : W1.frozen? ⟨w.heap.size, 1, none⟩ = false := (hb1.frozen (p := ⟨w.heap.size, 1, none⟩) (by simp <;> omega)).trans (by simp)
  have z2 : W1.frozen? ⟨w.heap.size, 2, none⟩ = false := (hb1.frozen (p := ⟨w.heap.size, 2, none⟩) (by simp <;> omega)).trans (by simp)
  have z3 : W1.frozen? ⟨w.heap.size + 1, 0, none⟩ = false := (hb1.frozen (p := ⟨w.heap.size + 1, 0, none⟩) (by simp <;> omega)).trans (by simp)
  have hz : w.heap.size + 1 < W1.heap.size := by have := hb1.size; simp at this; omega
  have HB1 := Aside0.mk hB1
  have Hb1 := Aside0.mk hb1
  clear hb1 hB1
  generalize whOf (s.extract 136 s.size).data.toList = r2 at *
  have hbz : (s.extract 0 136).size = 136 := by simp; have := HS.out; omega
  have hst : StartsFrame p (s.extract 0 136) := by
    obtain ⟨t, ht⟩ := h
    refine ⟨t.take 128, ?_⟩
    rw [Lib.extract_data, ht]
    simp [headOf]
  generalize s.extract 0 136 = bd at *
  have hbs : (136 : Int) ≤ (bd.size : Int) := by omega
  have hbs2 : bd.size ≤ 136 := by omega
  have hb8 : 8 ≤ bd.size := by omega
  have hb8' : (8 : Int) ≤ (bd.size : Int) := by omega
  have HBZ := Aside0.mk hbz
  clear hbz
  have below5 : ∀ (W : World) (v0 v1 v2 v3 : Value), Below w.heap.size w W → Below w.heap.size w ((((W.setCell ⟨w.heap.size, 0, none⟩ v0).setCell ⟨w.heap.size, 1, none⟩ v1).setCell ⟨w.heap.size, 2, none⟩ v2).setCell ⟨w.heap.size + 1, 0, none⟩ v3) := fun W v0 v1 v2 v3 hW => (((hW.setCell (Nat.le_refl _) _).setCell (Nat.le_refl _) _).setCell (Nat.le_refl _) _).setCell (Nat.le_succ _) _
  have B5 := Aside0.mk below5
  clear below5
  by_cases hcmp : r = r2
  · have hcmp' : (r != r2) = false := by simpa using hcmp
    have HC := Aside0.mk hcmp
    clear hcmp
    gi_wp2_with fail
    have hpos := pos_told p hp bd hst
    have HPOS := Aside0.mk hpos
    clear hpos
    refine (callsIn_wide.2 (whole_any _ _ (by simp; have := HBZ.out; omega))).mono ?_
    rintro e W2 ⟨rfl, hb2⟩
    generalize whOf (bd.extract 4 8).data.toList = q4 at *
    have hB2 : Below w.heap.size w W2 := HB1.out.trans (hb2.mono (by omega))
    have g0 : W2.cell? ⟨w.heap.size, 0, none⟩ = some (.int .i64 0) := (hb2.cell (p := ⟨w.heap.size, 0, none⟩) (by simp <;> omega)).trans f0
    have g1 : W2.cell? ⟨w.heap.size, 1, none⟩ = some (.int .i64 0) := (hb2.cell (p := ⟨w.heap.size, 1, none⟩) (by simp <;> omega)).trans f1
    have g2 : W2.cell? ⟨w.heap.size, 2, none⟩ = some (.slice none 0 0) := (hb2.cell (p := ⟨w.heap.size, 2, none⟩) (by simp <;> omega)).trans f2
    have g3 : W2.cell? ⟨w.heap.size + 1, 0, none⟩ = some (.int .i64 0) := (hb2.cell (p := ⟨w.heap.size + 1, 0, none⟩) (by simp <;> omega)).trans f3
    have y0 : W2.frozen? ⟨w.heap.size, 0, none⟩ = false := (hb2.frozen (p := ⟨w.heap.size, 0, none⟩) (by simp <;> omega)).trans z0
    have y1 : W2.frozen? ⟨w.heap.size, 1, none⟩ = false := (hb2.frozen (p := ⟨w.heap.size, 1, none⟩) (by simp <;> omega)).trans z1
    have y2 : W2.frozen? ⟨w.heap.size, 2, none⟩ = false := (hb2.frozen (p := ⟨w.heap.size, 2, none⟩) (by simp <;> omega)).trans z2
    have y3 : W2.frozen? ⟨w.heap.size + 1, 0, none⟩ = false := (hb2.frozen (p := ⟨w.heap.size + 1, 0, none⟩) (by simp <;> omega)).trans z3
    have hzz : w.heap.size + 1 < W2.heap.size := by have := hb2.size; omega
    have HB2 := Aside0.mk hB2
    clear hb2 hB2 f0 f1 f2 f3 z0 z1 z2 z3 HB1 Hb1 HPRE HWI HFS
    gi_wp2_with fail
    have he : wrap64 (wrap32 q4) = p := by have := HPOS.out; rw [IntKind.wrap_i32] at this; unfold wrap64 wrap32; omega
    rw [he]
    have hsm := fun w => callsIn_wide (n := 5).2 (trace_small.calls p 1000000000 true w (small_true p _ (by omega) (by omega) (by omega)))
    refine (hsm _).mono ?_
    rintro e w' ⟨rfl, ⟨⟨m5, rfl⟩⟩⟩
    clear hsm
    have hcv := fun w => Lib.run_convert_string_bytes (P := Tryd.prog) w 9 67 5 (bd.extract 8 bd.size) Tryd.underlying9 Tryd.underlying67 Tryd.underlying5
    gi_wp2_with fail
    clear HPOS
    have hx3 : ∃ W3, Lib.bytesWorld ((W2.alloc (.cells #[.int .i64 p, .int .i64 1, .slice none 0 0] 35)).drewN m5) 5 (bd.extract 8 bd.size) = W3 := ⟨_, rfl⟩
    obtain ⟨W3, hW3⟩ := hx3
    have hbc := Lib.bytesWorld_cell ((W2.alloc (.cells #[.int .i64 p, .int .i64 1, .slice none 0 0] 35)).drewN m5) 5 (bd.extract 8 bd.size)
    have hbb := bytesWorld_below ((W2.alloc (.cells #[.int .i64 p, .int .i64 1, .slice none 0 0] 35)).drewN m5) 5 (bd.extract 8 bd.size)
    have hbz := Lib.bytesWorld_size ((W2.alloc (.cells #[.int .i64 p, .int .i64 1, .slice none 0 0] 35)).drewN m5) 5 (bd.extract 8 bd.size)
    have hge := grownCap_ge ((W2.alloc (.cells #[.int .i64 p, .int .i64 1, .slice none 0 0] 35)).drewN m5) (bd.size - 8) 0 5
    have hle := grownCap_le_maxLen ((W2.alloc (.cells #[.int .i64 p, .int .i64 1, .slice none 0 0] 35)).drewN m5) (bd.size - 8) 0 5 (by unfold maxLen; omega)
    rw [hW3] at hbc hbb hbz
    rw [hW3]
    generalize grownCap ((W2.alloc (.cells #[.int .i64 p, .int .i64 1, .slice none 0 0] 35)).drewN m5) (bd.size - 8) 0 5 = cap at *
    have hb8 : bd.size - 8 = 128 := by have := HBZ.out; omega
    rw [hb8] at hge
    rw [hb8]
    simp at hbc hbb hbz
    have hbc2 : ∀ j, j < 128 → ∃ x : Int, W3.cell? ⟨W2.heap.size + 1, j, none⟩ = some (.int .u8 x) := fun j hj => ⟨_, hbc j (by have := HBZ.out; omega)⟩
    have HBC := Aside0.mk hbc2
    have x3 : Box3 W3 W2.heap.size 35 (.int .i64 p) (.int .i64 1) (.slice none 0 0) := ((Box3.new W2 35 (.int .i64 p) (.int .i64 1) (.slice none 0 0)).below (n₀ := W2.heap.size + 1) (W' := W3) ((below_drewN (Below.refl _ _) m5).trans hbb) (by omega))
    have b3 : Below w.heap.size w W3 := (below_drewN (HB2.out.alloc (by omega) _) m5).trans (hbb.mono (by omega))
    have bx : Below W2.heap.size W2 W3 := (below_drewN ((Below.refl _ W2).alloc (Nat.le_refl _) _) m5).trans (hbb.mono (by omega))
    have hs3 : W2.heap.size + 2 ≤ W3.heap.size := by omega
    clear hbb hbc hbc2 hW3 hbz
    refine (Chunk_in Fence.wide 5 hfK rfl _ _ _ _).mono ?_
    rintro e w' ⟨rfl, rfl⟩
    have k0 : W3.cell? ⟨w.heap.size, 0, none⟩ = some (.int .i64 0) := (bx.cell (p := ⟨w.heap.size, 0, none⟩) (by simp <;> omega)).trans g0
    have k1 : W3.cell? ⟨w.heap.size, 1, none⟩ = some (.int .i64 0) := (bx.cell (p := ⟨w.heap.size, 1, none⟩) (by simp <;> omega)).trans g1
    have k2 : W3.cell? ⟨w.heap.size, 2, none⟩ = some (.slice none 0 0) := (bx.cell (p := ⟨w.heap.size, 2, none⟩) (by simp <;> omega)).trans g2
    have k3 : W3.cell? ⟨w.heap.size + 1, 0, none⟩ = some (.int .i64 0) := (bx.cell (p := ⟨w.heap.size + 1, 0, none⟩) (by simp <;> omega)).trans g3
    have y0 : W3.frozen? ⟨w.heap.size, 0, none⟩ = false := (bx.frozen (p := ⟨w.heap.size, 0, none⟩) (by simp <;> omega)).trans y0
    have y1 : W3.frozen? ⟨w.heap.size, 1, none⟩ = false := (bx.frozen (p := ⟨w.heap.size, 1, none⟩) (by simp <;> omega)).trans y1
    have y2 : W3.frozen? ⟨w.heap.size, 2, none⟩ = false := (bx.frozen (p := ⟨w.heap.size, 2, none⟩) (by simp <;> omega)).trans y2
    have y3 : W3.frozen? ⟨w.heap.size + 1, 0, none⟩ = false := (bx.frozen (p := ⟨w.heap.size + 1, 0, none⟩) (by simp <;> omega)).trans y3
    clear g0 g1 g2 g3 bx
    gi_wp2_with fail
    have h46 : Fence.wide.fn 46 := trivial
    obtain ⟨W4, hW4⟩ : ∃ W4, (W3.alloc (.cells #[.slice (some ⟨W2.heap.size + 1, 0, none⟩) 128 cap] 67)).alloc (.cells #[.int .i64 2] 3) = W4 := ⟨_, rfl⟩
    have hz4 : W4.heap.size = W3.heap.size + 2 := by rw [← hW4]; simp
    have hcs : W4.cell? ⟨W3.heap.size, 0, none⟩ = some (.slice (some ⟨W2.heap.size + 1, 0, none⟩) (2 * 64) cap) := by rw [← hW4]; simp
    have hcn : W4.cell? ⟨W3.heap.size + 1, 0, none⟩ = some (.int .i64 2) := by rw [← hW4]; simp
    have b34 : Below W3.heap.size W3 W4 := by rw [← hW4]; exact ((Below.refl _ _).alloc (Nat.le_refl _) _).alloc (by simp) _
    have x4 := x3.below b34 (by omega)
    have b4 : Below w.heap.size w W4 := b3.trans (b34.mono (by omega))
    rw [hW4]
    refine wpIn_rangeFunc_ownG (S := fun _ => True) (Sp := fun _ => True) (N := 64) rfl (by omega) (gf := 46) (lb := #[.pointer (some ⟨W3.heap.size, 0, none⟩), .pointer (some ⟨W3.heap.size + 1, 0, none⟩)]) rfl h46 (enters_of Tryd.func46 (by kernel_rfl) rfl)
      (chunk_stops Fence.wide 5 h46 rfl (by omega) W3.heap.size (W3.heap.size + 1) (W2.heap.size + 1) 0 64 cap (by omega) (by omega) hle W4 (by omega) (by omega) hcs hcn) two_t (two_b (by omega) (by omega)) (Below.refl _ _) (fun _ => rfl)
      (fun pre W => (∃ v xs, Box3 W W2.heap.size 35 (.int .i64 p) (.int .i64 1) v ∧ W.ownsRow W4.heap.size 69 1 v pre.length xs) ∧ (W.heap[w.heap.size]? = W4.heap[w.heap.size]? ∧ W.heap[w.heap.size + 1]? = W4.heap[w.heap.size + 1]? ∧ W.heap[W2.heap.size + 1]? = W4.heap[W2.heap.size + 1]? ∧ W4.heap.size ≤ W.heap.size) ∧ Below w.heap.size w W)
      (fun c _ W => c = .ret ∧ (W.cell? ⟨w.heap.size, 0, none⟩ = some (.int .i64 0) ∧ W.cell? ⟨w.heap.size, 1, none⟩ = some (.int .i64 0) ∧ W.cell? ⟨w.heap.size, 2, none⟩ = some (.slice none 0 0) ∧ W.cell? ⟨w.heap.size + 1, 0, none⟩ = some (.int .i64 2)) ∧ Below w.heap.size w W)
      ?hI ?hIx ?h0 (fun x => { tmps := #[Value.string s, undef, Value.pointer (some { block := w.heap.size, off := 0 }),
          Value.pointer (some { block := w.heap.size + 1, off := 0 }), Value.int IntKind.i64 1, Value.string bd,
          Value.string (s.extract 136 s.size), Value.pointer (some { block := W2.heap.size, off := 0 }), .slice (some ⟨W2.heap.size + 1, 2 * x.1, none⟩) 2 2, undef,
          Value.string s, Value.int IntKind.i64 ↑s.size, Value.bool (decide ((↑s.size : Int) < 8)),
          Value.bool (decide ((↑s.size : Int) < 8)), Value.string s, Value.bool true, Value.bool false,
          Value.bool (decide ((↑s.size : Int) < 8)), undef, Value.string s, Value.int IntKind.u8 1, Value.int IntKind.i64 1,
          Value.bool false, Value.string s, Value.int IntKind.u8 1, Value.bool false, undef, Value.bool false,
          Value.int IntKind.i64 1, Value.bool true, Value.bool false, undef, Value.bool false, Value.string s,
          Value.int IntKind.i64 ↑s.size, Value.int IntKind.i64 1, Value.int IntKind.i64 138, Value.bool false, undef,
          Value.string s, Value.string s, Value.int IntKind.i64 ↑s.size, Value.int IntKind.i64 (↑s.size - 2),
          Value.string bd, Value.string s, Value.string s, Value.int IntKind.i64 ↑s.size,
          Value.int IntKind.i64 (↑s.size - 2), Value.string (s.extract 136 s.size), Value.string bd,
          Value.int IntKind.i64 r, Value.string (s.extract 136 s.size), Value.int IntKind.i64 r2, Value.bool false,
          undef, Value.string bd, Value.string (bd.extract 4 8), Value.int IntKind.i64 q4,
          Value.int IntKind.i32 (wrap32 q4), Value.int IntKind.i64 p, Value.int IntKind.i64 1,
          Value.agg #[Value.int IntKind.i64 1, Value.slice none 0 0],
          Value.agg #[Value.int IntKind.i64 p, Value.int IntKind.i64 1, Value.slice none 0 0],
          Value.pointer (some { block := W2.heap.size, off := 0 }), Value.int IntKind.i64 p, Value.bool true,
          Value.bool false, undef, Value.string bd, Value.string (bd.extract 8 bd.size),
          Value.slice (some { block := W2.heap.size + 1, off := 0 }) 128 cap,
          Value.func (Fn.func 46) #[]
            #[Value.pointer (some { block := W3.heap.size, off := 0 }),
              Value.pointer (some { block := W3.heap.size + 1, off := 0 })],
          .slice (some ⟨W2.heap.size + 1, 2 * x.1, none⟩) 2 2, undef, undef, undef, undef, undef, undef, undef, undef, undef, undef, undef, undef, undef, undef,
          undef, undef, undef, undef, undef], defers := [] }) ?assign ?body ?done ?stop
    case hI =>
      have k0' := (b34.cell (p := ⟨w.heap.size, 0, none⟩) (by simp <;> omega)).trans k0
      have k3' := (b34.cell (p := ⟨w.heap.size + 1, 0, none⟩) (by simp <;> omega)).trans k3
      obtain ⟨x0, hx0⟩ := HBC.out 0 (by omega)
      have kb' := (b34.cell (p := ⟨W2.heap.size + 1, 0, none⟩) (by simp <;> omega)).trans hx0
      exact OwnFrom.and (Own.from (box3_own W4.heap.size W2.heap.size _ _ 1 _ _ (fun pre : List (Ix 64) => pre.length)) _) (OwnFrom.and (OwnFrom.and (Own.from (lies_own k0') _) (OwnFrom.and (Own.from (lies_own k3') _) (OwnFrom.and (Own.from (lies_own kb') _) (fun _ X Y _ h hg _ => Nat.le_trans h hg.size)))) (ownFrom_below (Nat.le_refl _) (by omega)))
    case hIx =>
      rintro c s X Y row ⟨hc, ⟨h0, h1, h2, h3⟩, hb⟩ hg hr
      have hr2 := fun r e => (hr r e).2
      exact ⟨hc, ⟨cell_kept h0 hg hr2, cell_kept h1 hg hr2, cell_kept h2 hg hr2, cell_kept h3 hg hr2⟩, ownFrom_below (β := Unit) (B := W4.heap.size) (Nat.le_refl _) (by omega) () X Y row hb hg hr⟩
    case h0 => exact ⟨⟨_, [], x4, World.ownsRow_nil _ _ _ _⟩, ⟨rfl, rfl, rfl, Nat.le_refl _⟩, b4⟩
    case assign =>
      intro l x W K hK
      gi_wp2
      exact hK
    case body =>
      rintro l pre x W ⟨⟨v, xs, hx, hrow⟩, ⟨L1, L2, L3, hz⟩, hB⟩ hlt
      obtain ⟨x0, hx0⟩ := HBC.out (2 * x.1) (by have := x.2; omega)
      obtain ⟨x1, hx1⟩ := HBC.out (2 * x.1 + 1) (by have := x.2; omega)
      have e0 : W.cell? ⟨W2.heap.size + 1, 2 * x.1, none⟩ = some (.int .u8 x0) := (World.cell?_of_block (a := ⟨W2.heap.size + 1, 2 * x.1, none⟩) L3).trans ((b34.cell (p := ⟨W2.heap.size + 1, 2 * x.1, none⟩) (by simp <;> omega)).trans hx0)
      have e1 : W.cell? ⟨W2.heap.size + 1, 2 * x.1 + 1, none⟩ = some (.int .u8 x1) := (World.cell?_of_block (a := ⟨W2.heap.size + 1, 2 * x.1 + 1, none⟩) L3).trans ((b34.cell (p := ⟨W2.heap.size + 1, 2 * x.1 + 1, none⟩) (by simp <;> omega)).trans hx1)
      obtain ⟨s2, hs2, hrun⟩ := two_string W (W2.heap.size + 1) (2 * x.1) x0 x1 e0 e1
      gi_wp2_with fail
      refine (CallsIn.inRound l (callsIn_wide.2 (whole_any s2 W (by omega)))).mono ?_
      rintro e W5 ⟨rfl, h5⟩
      generalize whOf s2.data.toList = n5 at *
      have x5 := hx.below h5 hx.lt
      have r5 : W5.ownsRow W4.heap.size 69 1 v pre.length xs := hrow.kept (grown_of_below h5 none) (by cases v.ownBlock <;> simp)
      have t5 : Two W3.heap.size (W3.heap.size + 1) W W5 := Two.below h5 (by omega) (by omega)
      have m1 := (h5.block w.heap.size (by omega)).trans L1
      have m2 := (h5.block (w.heap.size + 1) (by omega)).trans L2
      have m3 := (h5.block (W2.heap.size + 1) (by omega)).trans L3
      have HB5 := Aside0.mk (hB.trans (h5.mono (by omega)))
      have KO5 := Aside0.mk (keepsOthers_of_below h5)
      have hz5 := Nat.le_trans hz h5.size
      have q0 : W5.cell? ⟨w.heap.size, 0, none⟩ = some (.int .i64 0) := (World.cell?_of_block (a := ⟨w.heap.size, 0, none⟩) m1).trans ((b34.cell (p := ⟨w.heap.size, 0, none⟩) (by simp <;> omega)).trans k0)
      have q1 : W5.cell? ⟨w.heap.size, 1, none⟩ = some (.int .i64 0) := (World.cell?_of_block (a := ⟨w.heap.size, 1, none⟩) m1).trans ((b34.cell (p := ⟨w.heap.size, 1, none⟩) (by simp <;> omega)).trans k1)
      have q2 : W5.cell? ⟨w.heap.size, 2, none⟩ = some (.slice none 0 0) := (World.cell?_of_block (a := ⟨w.heap.size, 2, none⟩) m1).trans ((b34.cell (p := ⟨w.heap.size, 2, none⟩) (by simp <;> omega)).trans k2)
      have q3 : W5.cell? ⟨w.heap.size + 1, 0, none⟩ = some (.int .i64 0) := (World.cell?_of_block (a := ⟨w.heap.size + 1, 0, none⟩) m2).trans ((b34.cell (p := ⟨w.heap.size + 1, 0, none⟩) (by simp <;> omega)).trans k3)
      have u0 : W5.frozen? ⟨w.heap.size, 0, none⟩ = false := (World.frozen?_of_block (a := ⟨w.heap.size, 0, none⟩) m1).trans ((b34.frozen (p := ⟨w.heap.size, 0, none⟩) (by simp <;> omega)).trans y0)
      have u1 : W5.frozen? ⟨w.heap.size, 1, none⟩ = false := (World.frozen?_of_block (a := ⟨w.heap.size, 1, none⟩) m1).trans ((b34.frozen (p := ⟨w.heap.size, 1, none⟩) (by simp <;> omega)).trans y1)
      have u2 : W5.frozen? ⟨w.heap.size, 2, none⟩ = false := (World.frozen?_of_block (a := ⟨w.heap.size, 2, none⟩) m1).trans ((b34.frozen (p := ⟨w.heap.size, 2, none⟩) (by simp <;> omega)).trans y2)
      have u3 : W5.frozen? ⟨w.heap.size + 1, 0, none⟩ = false := (World.frozen?_of_block (a := ⟨w.heap.size + 1, 0, none⟩) m2).trans ((b34.frozen (p := ⟨w.heap.size + 1, 0, none⟩) (by simp <;> omega)).trans y3)
      have v0 := x5.c0
      have v1 := x5.c1
      have v2 := x5.c2
      have v3 := x5.z 2
      clear L1 L2 L3 hx hrow hrun hx0 hx1 e0 e1
      gi_wp2_with fail
      obtain ⟨bb, hbb⟩ := small_total (wrap64 (IntKind.i16.wrap n5)) 2047
      refine (CallsIn.inRound l (callsIn_wide.2 (trace_small.calls _ _ bb W5 hbb))).mono ?_
      rintro e w' ⟨rfl, ⟨⟨m6, rfl⟩⟩⟩
      clear hbb
      generalize wrap64 (IntKind.i16.wrap n5) = n6 at *
      obtain ⟨i0, hi, hz0, hz1, hz2⟩ := info_parts f32info
      have x6 : Box3 (W5.drewN m6) W2.heap.size 35 (.int .i64 p) (.int .i64 1) v := x5
      have r6 : (W5.drewN m6).ownsRow W4.heap.size 69 1 v pre.length xs := r5
      have hz6 : W4.heap.size ≤ (W5.drewN m6).heap.size := hz5
      cases bb
      · gi_wp2_with fail
        refine ⟨(((((KO5.out.trans (show KeepsOthers W5 (W5.drewN m6) from ⟨Nat.le_refl _, fun _ _ h _ => h⟩)).trans (KeepsOthers.setCell _ _ _)).trans (KeepsOthers.setCell _ _ _)).trans (KeepsOthers.setCell _ _ _)).trans (KeepsOthers.setCell _ _ _)).from _, rfl, ⟨?_, ?_, ?_, ?_⟩, B5.out _ _ _ _ _ (below_drewN HB5.out m6)⟩
        all_goals simp [go_sem, q0, q1, q2, q3]
      · gi_wp2_with (gi_at_builtin; refine wpListIn_append_own _ rfl _ _ 31 rfl W4.heap.size 69 i0 (.float .f32 0) 1 4 Tryd.underlying31 hi hz0 hz1 hz2 rfl (by decide) _ _ _ rfl (r6.alloc _) ⟨(W5.drewN m6).heap.size, 0, none⟩ 1 1 [.float .f32 (floatOfInt .f32 n6)] rfl rfl (cell_one_new _ _ _) (by simp [Value.oneCell']) (by unfold maxLen; omega) (by omega) (by simp; omega) ?_; intro v' w1 hown' hgrow _; obtain ⟨g', cap', rfl⟩ := ownsRow_succ hown'; obtain ⟨hv1, hv2, hr2, hk2, ho2, hb2, hs2⟩ := x6.collects (by decide) r6 hz6 (by omega) hown' hgrow; have hc1 := hv1.c2; have hf1 := hv1.z 2)
        exact ⟨(KO5.out.trans ((show KeepsOthers W5 (W5.drewN m6) from ⟨Nat.le_refl _, fun _ _ h _ => h⟩).trans hk2)).from _, (show Two _ _ W (W5.drewN m6) from t5).of ho2 (by omega) (by omega) (by omega) (by omega),
          ⟨_, _, hv2, by rw [List.length_append]; exact hr2⟩, ⟨(ho2 w.heap.size (by omega) (by omega)).trans m1, (ho2 (w.heap.size + 1) (by omega) (by omega)).trans m2, (ho2 (W2.heap.size + 1) (by omega) (by omega)).trans m3, Nat.le_trans hz5 hs2⟩, (below_drewN HB5.out m6).trans (hb2.mono (by omega))⟩
    case done =>
      rintro D ys W hD _ ⟨⟨v, xs, hx, hrow⟩, ⟨m1, m2, m3, hz⟩, hB⟩ hK
      have q0 : W.cell? ⟨w.heap.size, 0, none⟩ = some (.int .i64 0) := (World.cell?_of_block (a := ⟨w.heap.size, 0, none⟩) m1).trans ((b34.cell (p := ⟨w.heap.size, 0, none⟩) (by simp <;> omega)).trans k0)
      have q1 : W.cell? ⟨w.heap.size, 1, none⟩ = some (.int .i64 0) := (World.cell?_of_block (a := ⟨w.heap.size, 1, none⟩) m1).trans ((b34.cell (p := ⟨w.heap.size, 1, none⟩) (by simp <;> omega)).trans k1)
      have q2 : W.cell? ⟨w.heap.size, 2, none⟩ = some (.slice none 0 0) := (World.cell?_of_block (a := ⟨w.heap.size, 2, none⟩) m1).trans ((b34.cell (p := ⟨w.heap.size, 2, none⟩) (by simp <;> omega)).trans k2)
      have q3 : W.cell? ⟨w.heap.size + 1, 0, none⟩ = some (.int .i64 0) := (World.cell?_of_block (a := ⟨w.heap.size + 1, 0, none⟩) m2).trans ((b34.cell (p := ⟨w.heap.size + 1, 0, none⟩) (by simp <;> omega)).trans k3)
      have u0 : W.frozen? ⟨w.heap.size, 0, none⟩ = false := (World.frozen?_of_block (a := ⟨w.heap.size, 0, none⟩) m1).trans ((b34.frozen (p := ⟨w.heap.size, 0, none⟩) (by simp <;> omega)).trans y0)
      have u1 : W.frozen? ⟨w.heap.size, 1, none⟩ = false := (World.frozen?_of_block (a := ⟨w.heap.size, 1, none⟩) m1).trans ((b34.frozen (p := ⟨w.heap.size, 1, none⟩) (by simp <;> omega)).trans y1)
      have u2 : W.frozen? ⟨w.heap.size, 2, none⟩ = false := (World.frozen?_of_block (a := ⟨w.heap.size, 2, none⟩) m1).trans ((b34.frozen (p := ⟨w.heap.size, 2, none⟩) (by simp <;> omega)).trans y2)
      have u3 : W.frozen? ⟨w.heap.size + 1, 0, none⟩ = false := (World.frozen?_of_block (a := ⟨w.heap.size + 1, 0, none⟩) m2).trans ((b34.frozen (p := ⟨w.heap.size + 1, 0, none⟩) (by simp <;> omega)).trans y3)
      have v0 := x3
      have c0 := hx.c0
      have c1 := hx.c1
      have c2 := hx.c2
      have hvs : ∃ g n c, v = .slice g n c := by
        rcases hrow.2 with ⟨rfl, _⟩ | ⟨g, cap, cur, rfl, _⟩ <;> exact ⟨_, _, _, rfl⟩
      obtain ⟨g, n, c, rfl⟩ := hvs
      clear m1 m2 m3 hx hrow
      gi_wp2_with fail
      have b6 := B5.out W (.int .i64 p) (.int .i64 1) (.slice g n c) (.int .i64 0) hB
      have hK6 := (((((KeepsOthers.setCell W ⟨w.heap.size, 0, none⟩ (.int .i64 p)).trans (KeepsOthers.setCell _ ⟨w.heap.size, 1, none⟩ (.int .i64 1))).trans (KeepsOthers.setCell _ ⟨w.heap.size, 2, none⟩ (.slice g n c))).trans (KeepsOthers.setCell _ ⟨w.heap.size + 1, 0, none⟩ (.int .i64 0)))).same D _ hK rfl
      have e0 : ((((W.setCell ⟨w.heap.size, 0, none⟩ (.int .i64 p)).setCell ⟨w.heap.size, 1, none⟩ (.int .i64 1)).setCell ⟨w.heap.size, 2, none⟩ (.slice g n c)).setCell ⟨w.heap.size + 1, 0, none⟩ (.int .i64 0)).cell? ⟨w.heap.size, 0, none⟩ = some (.int .i64 p) := by simp [go_sem, q0, q1, q2, q3]
      have e1 : ((((W.setCell ⟨w.heap.size, 0, none⟩ (.int .i64 p)).setCell ⟨w.heap.size, 1, none⟩ (.int .i64 1)).setCell ⟨w.heap.size, 2, none⟩ (.slice g n c)).setCell ⟨w.heap.size + 1, 0, none⟩ (.int .i64 0)).cell? ⟨w.heap.size, 1, none⟩ = some (.int .i64 1) := by simp [go_sem, q0, q1, q2, q3]
      have e2 : ((((W.setCell ⟨w.heap.size, 0, none⟩ (.int .i64 p)).setCell ⟨w.heap.size, 1, none⟩ (.int .i64 1)).setCell ⟨w.heap.size, 2, none⟩ (.slice g n c)).setCell ⟨w.heap.size + 1, 0, none⟩ (.int .i64 0)).cell? ⟨w.heap.size, 2, none⟩ = some (.slice g n c) := by simp [go_sem, q0, q1, q2, q3]
      have e3 : ((((W.setCell ⟨w.heap.size, 0, none⟩ (.int .i64 p)).setCell ⟨w.heap.size, 1, none⟩ (.int .i64 1)).setCell ⟨w.heap.size, 2, none⟩ (.slice g n c)).setCell ⟨w.heap.size + 1, 0, none⟩ (.int .i64 0)).cell? ⟨w.heap.size + 1, 0, none⟩ = some (.int .i64 0) := by simp [go_sem, q0, q1, q2, q3]
      generalize (((W.setCell ⟨w.heap.size, 0, none⟩ (.int .i64 p)).setCell ⟨w.heap.size, 1, none⟩ (.int .i64 1)).setCell ⟨w.heap.size, 2, none⟩ (.slice g n c)).setCell ⟨w.heap.size + 1, 0, none⟩ (.int .i64 0) = W6 at *
      have kp : ∀ {a : Addr} {v : Value}, W6.cell? a = some v → (W6.putObj D (.deferred none)).cell? a = some v := fun h => cell_kept h (grownBy_putObj' W6 D (.deferred none)) (fun r e => by cases e; exact ⟨_, hK6, rfl⟩)
      have e0 := kp e0
      have e1 := kp e1
      have e2 := kp e2
      have e3 := kp e3
      refine ⟨by simp, .inl ⟨_, _, rfl, run_takeDeferred hK6, ⟨.tuple #[.agg #[.int .i64 p, .int .i64 1, .slice g n c], .int .i64 0], ?_, ⟨p, 1, 0, _, rfl, fun _ => ⟨rfl, rfl⟩, _, _, _, rfl⟩, b6.trans (belowK_b (w := w) (Nat.le_refl _) W6 D _ _ (by omega) hK6 rfl rfl)⟩⟩⟩
      simp [results, Tryd.results21, go_sem, e0, e1, e2, e3]
    case stop =>
      rintro D c pre W hD _ ⟨rfl, ⟨q0, q1, q2, q3⟩, hB⟩ hK
      gi_wp2_with fail
      have kp : ∀ {a : Addr} {v : Value}, W.cell? a = some v → (W.putObj D (.deferred none)).cell? a = some v := fun h => cell_kept h (grownBy_putObj' W D (.deferred none)) (fun r e => by cases e; exact ⟨_, hK, rfl⟩)
      have e0 := kp q0
      have e1 := kp q1
      have e2 := kp q2
      have e3 := kp q3
      refine ⟨by simp, .inl ⟨_, _, rfl, run_takeDeferred hK, ⟨.tuple #[.agg #[.int .i64 0, .int .i64 0, .slice none 0 0], .int .i64 2], ?_, ⟨0, 0, 2, _, rfl, by omega, _, _, _, rfl⟩, hB.trans (belowK_b (w := w) (Nat.le_refl _) W D _ _ (by omega) hK rfl rfl)⟩⟩⟩
      simp [results, Tryd.results21, go_sem, e0, e1, e2, e3]
  · have hcmp' : (r != r2) = true := by simpa using hcmp
    have HC := Aside0.mk hcmp
    clear hcmp
    gi_wp2_with fail
    refine ⟨.tuple #[.agg #[.int .i64 0, .int .i64 0, .slice none 0 0], .int .i64 19], ?_, ⟨0, 0, 19, _, rfl, by omega, _, _, _, rfl⟩, B5.out _ _ _ _ _ HB1.out⟩
    simp [results, Tryd.results21, go_sem, f0, f1, f2, f3]
end Go.Proofs.YtbhbabimfkiibaaDoor
