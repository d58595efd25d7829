/- Contracts of small functions of package trace at zero samples, and of a name's check. FormatFrame at a matrix of zero samples: its text has 138 bytes, and its first eight tell the position. -/
import Derived.Test.YtbhbabimfkiibaaDoorPTopScannedAnewx10
import Derived.Test.YtbhbabimfkiibaaDoorPTopScannedAnewx2
import Derived.WalkLawsBesides
import Derived.Lib.Hide
import Derived.Lib.SlBytesConst
namespace Go.Proofs.YtbhbabimfkiibaaDoor
open Go.RowKit Go.Proofs.YtbhbabimfkiibaaDoorW.PrintWords Go.Proofs.YtbhbabimfkiibaaDoorW.PrintLast Go.Proofs.YtbhbabimfkiibaaDoorW.PrintMore PTopScannedAnew
set_option linter.unusedVariables false
set_option linter.unusedSimpArgs false

theorem small_zero (w : World) : Calls Tryd.prog 17 #[.int .i64 0, .int .i64 2047] w fun e w' => e = .returned (.bool true) ∧ Drawn0 w w' :=
  trace_small.calls 0 2047 true w (by simp [trace_small.f, trace_within.f, wrap64])

theorem sampleErr_zero (w : World) : Calls Tryd.prog 57 #[.float .f32 0] w fun e w' => e = .returned (.int .i64 0) ∧ Drawn0 w w' := by
  have h1 : ∀ w, Sem.run Tryd.prog (binOp BinOp.sub 69 (Value.float .f32 0) (Value.float .f32 0)) w = .ok (Value.float .f32 0) w := fun _ => by kernel_rfl
  have h2 : ∀ w, Sem.run Tryd.prog (binOp BinOp.geq 69 (Value.float .f32 0) (Value.float .f32 1266679808)) w = .ok (Value.bool false) w := fun _ => by kernel_rfl
  have h3 : ∀ w, Sem.run Tryd.prog (binOp BinOp.leq 69 (Value.float .f32 0) (Value.float .f32 3414163456)) w = .ok (Value.bool false) w := fun _ => by kernel_rfl
  have h4 : ∀ w, Sem.run Tryd.prog (convert 69 3 (Value.float .f32 0)) w = .ok (Value.int .i64 0) w := fun _ => by kernel_rfl
  have h5 : ∀ w, Sem.run Tryd.prog (convert 3 69 (Value.int .i64 0)) w = .ok (Value.float .f32 0) w := fun _ => by kernel_rfl
  have h6 : ∀ w, Sem.run Tryd.prog (binOp BinOp.neq 69 (Value.float .f32 0) (Value.float .f32 0)) w = .ok (Value.bool false) w := fun _ => by kernel_rfl
  go_enter Tryd.func57, Tryd.ntmps57
  go_wp2_with (go_at_call 17; refine (small_zero _).mono ?_; rintro e w' ⟨rfl, hw⟩)
  go_ret
  exact ⟨rfl, hw⟩

theorem samplesErr_zeros (b off len cap : Nat) (w : World) (hl : len ≤ 1000) (hc : ∀ j, j < len → w.cell? ⟨b, off + j, none⟩ = some (.float .f32 0)) :
    Calls Tryd.prog 44 #[.slice (some ⟨b, off, none⟩) len cap] w fun e w' => e = .returned (.tuple #[.int .i64 0, .int .i64 0]) ∧ Drawn0 w w' := by
  have HC := Lib.hid hc
  clear hc
  go_enter Tryd.func44, Tryd.ntmps44
  go_wp2_with fail
  go_loopw [9] (fun i wr => ∃ k : Nat, k ≤ len ∧ i = .int .i64 k ∧ Drawn0 w wr) (fun i _ => len - (intOf i).toNat)
  case atStart => exact ⟨0, Nat.zero_le _, rfl, Drawn0.refl _⟩
  case round =>
    obtain ⟨k, hk, rfl, ⟨m, rfl⟩⟩ := hrel
    by_cases hlt : k < len
    · have hcell := HC.out k hlt
      have hsc := sampleErr_zero
      clear HC
      go_wp2_with fail
      refine (hsc _).mono ?_
      rintro e w' ⟨rfl, hw⟩
      obtain ⟨⟨m2, rfl⟩⟩ := hw
      clear hsc
      go_wp2_with fail
      go_roundw
      case rel => exact ⟨k + 1, by omega, by go_num, ⟨⟨m + m2, rfl⟩⟩⟩
      case measure => simp [intOf]; omega
    · clear HC
      go_wp2_with fail
      go_ret2
      exact ⟨rfl, (Drawn0.refl w).step m⟩

theorem matrixErr_zeros (b off cap : Nat) (w : World) (hc : ∀ j, j < 64 → w.cell? ⟨b, off + j, none⟩ = some (.float .f32 0)) :
    Calls Tryd.prog 18 #[.agg #[.int .i64 1, .slice (some ⟨b, off, none⟩) 64 cap]] w fun e w' => e = .returned (.int .i64 0) ∧ Below w.heap.size w w' := by
  have HC := Lib.hid hc
  clear hc
  have hwi : ∀ w, Calls Tryd.prog 28 #[.int .i64 1, .int .i64 1, .int .i64 16] w fun e w' => e = .returned (.bool true) ∧ Drawn0 w w' := fun w => trace_within.calls 1 1 16 true w (by simp [trace_within.f])
  have hbl : b < w.heap.size := World.block_lt_of_cell? w _ (HC.out 0 (by omega))
  have hs := fun (W : World) (h : Below w.heap.size w W) => samplesErr_zeros b off 64 cap W (by omega) (fun j hj => (h.cell (p := ⟨b, off + j, none⟩) hbl).trans (HC.out j hj))
  have HS := Lib.hid hs
  clear hs
  go_enter Tryd.func18, Tryd.ntmps18
  go_wp2_with (first | (go_at_call 29; go_in) | (go_at_call 28; refine (hwi _).mono ?_; rintro e w' ⟨rfl, ⟨⟨m, rfl⟩⟩⟩) | (go_at_call 44; refine (HS.out _ ?h1).mono ?_; (case h1 => repeat (first | exact Below.refl _ _ | apply below_alloc | apply pw_below_drewN)); rintro e w' ⟨rfl, ⟨⟨m2, rfl⟩⟩⟩))
  go_ret
  exact ⟨rfl, by repeat (first | exact Below.refl _ _ | apply below_alloc | apply pw_below_drewN)⟩
end Go.Proofs.YtbhbabimfkiibaaDoor

namespace Go.Proofs.YtbhbabimfkiibaaDoor
open Go.RowKit Go.Proofs.YtbhbabimfkiibaaDoorW.PrintWords Go.Proofs.YtbhbabimfkiibaaDoorW.PrintLast Go.Proofs.YtbhbabimfkiibaaDoorW.PrintMore PTopScannedAnew
set_option linter.unusedVariables false
set_option linter.unusedSimpArgs false

theorem appended2 (l : List Int) (a : Int) (hl : l.length < 1000000) : trace_appended.f 4 l a 2 = some (l ++ [a / 256 % 256, a % 256]) := by
  have h1 : l.length < 140737488355328 := by omega
  have h2 : l.length + 1 < 140737488355328 := by omega
  simp [trace_appended.f, trace_appended.l0, wrap64, shr, h1, h2, IntKind.bits]

theorem appended4 (l : List Int) (a : Int) (hl : l.length < 1000000) : trace_appended.f 6 l a 4 = some (l ++ [a / 16777216 % 256, a / 65536 % 256, a / 256 % 256, a % 256]) := by
  have h1 : l.length < 140737488355328 := by omega
  have h2 : l.length + 1 < 140737488355328 := by omega
  have h3 : l.length + 1 + 1 < 140737488355328 := by omega
  have h4 : l.length + 1 + 1 + 1 < 140737488355328 := by omega
  simp [trace_appended.f, trace_appended.l0, wrap64, shr, h1, h2, h3, h4, IntKind.bits]

/-- The eight bytes at the beginning of the frame of one element at a position. -/
def headOf (p : Int) : List Int := [67, 80, 1, 1, p / 16777216 % 256, p / 65536 % 256, p / 256 % 256, p % 256]
def HasHead (p : Int) (n : Nat) (l : List Int) : Prop := l.length = n ∧ ∃ t, l = headOf p ++ t

theorem lit_bytes (W : World) (l : List Int) (hl : l.length ≤ 1000) : Kd.R (Kd.int .u8) 5 (W.alloc (.cells ((l.map fun x => Value.int .u8 x).toArray) 5)) W.heap.size (fun _ => True) (.slice (some ⟨W.heap.size, 0, none⟩) l.length l.length) l := by
  refine ⟨fun _ _ => trivial, l.map fun x => Value.int .u8 x, ?_, ?_⟩
  · exact World.ownsRow_lit (base := W.heap.size) (e := 5) (size := 1) W _ l.length (Nat.le_refl _) (by simp [maxLen]; omega) (by simp)
  · exact Kd.reps_scalar l

theorem two_cells {W : World} {g : Nat} {a b : Value} (h0 : W.cell? ⟨g, 0, none⟩ = some a) (h1 : W.cell? ⟨g, 1, none⟩ = some b) : ∀ j u, [a, b][j]? = some u → W.cell? ((⟨g, 0, none⟩ : Addr).add j) = some u := by
  intro j u hj
  rw [add_plain]
  match j, hj with
  | 0, hj => cases hj; exact h0
  | 1, hj => cases hj; exact h1
  | j + 2, hj => simp at hj

theorem cell_new_fr (W : World) (C : Array Value) (t : TypeId) (fr : Nat × Nat) (j : Nat) (v : Value) (h : C[j]? = some v) : (W.alloc (.cells C t fr)).cell? ⟨W.heap.size, j, none⟩ = some v := by
  have h0 : (W.alloc (.cells C t fr)).heap[W.heap.size]? = some (.cells C t fr) := heap_alloc_new W _
  unfold World.cell?
  simp only [h0]
  simpa using h

theorem ff_cells1 (W : World) (t : TypeId) (fr : Nat × Nat) (a b : Value) (o : Obj) : ∀ j u, [a, b][j]? = some u → ((W.alloc (.cells #[a, b] t fr)).alloc o).cell? ((⟨W.heap.size, 0, none⟩ : Addr).add j) = some u :=
  two_cells (Lib.cell?_alloc_marked _ (cell_new_fr W _ t fr 0 _ rfl)) (Lib.cell?_alloc_marked _ (cell_new_fr W _ t fr 1 _ rfl))

theorem ff_cells2 (W : World) (t : TypeId) (a b : Value) (o : Obj) : ∀ j u, [a, b][j]? = some u → ((W.alloc o).alloc (.cells #[a, b] t)).cell? ((⟨W.heap.size + 1, 0, none⟩ : Addr).add j) = some u := by
  have e : W.heap.size + 1 = (W.alloc o).heap.size := by simp
  rw [e]
  exact two_cells (cell_new_fr (W.alloc o) _ t (0, 0) 0 _ rfl) (cell_new_fr (W.alloc o) _ t (0, 0) 1 _ rfl)

theorem ff_one : ∀ u ∈ [Value.int .u8 1, Value.int .u8 1], u.oneCell' = true := by
  intro u hu
  rcases List.mem_cons.mp hu with rfl | hu
  · rfl
  · rcases List.mem_cons.mp hu with rfl | hu
    · rfl
    · cases hu

theorem check_total (s : ByteArray) (hs : s.size ≤ 1000000) : ∃ r, trace_check.f (s.size + 1) s = some r := by
  have key : ∀ (d k : Nat) (x i : Int), 0 ≤ i → i ≤ s.size → (s.size : Int) - i = d → d < k → ∃ r, trace_check.l0 k s x s.size i = some r := by
    intro d
    induction d with
    | zero =>
      intro k x i h0 h1 hd hk
      obtain ⟨k, rfl⟩ : ∃ m, k = m + 1 := ⟨k - 1, by omega⟩
      exact ⟨x, by simp only [trace_check.l0]; rw [if_neg (by omega)]⟩
    | succ d ih =>
      intro k x i h0 h1 hd hk
      obtain ⟨k, rfl⟩ : ∃ m, k = m + 1 := ⟨k - 1, by omega⟩
      have hw : wrap64 (i + 1) = i + 1 := by unfold wrap64; omega
      obtain ⟨r, hr⟩ := ih k (Int.tmod (wrap64 ((wrap64 ((wrap64 (257 * x)) + (wrap64 (bt s i)))) + 1)) 65521) (i + 1) (by omega) (by omega) (by omega) (by omega)
      refine ⟨r, ?_⟩
      simp only [trace_check.l0]
      rw [if_pos (by omega), if_pos h0, if_pos (by omega), hw]
      exact hr
  exact key s.size (s.size + 1) 1 0 (by omega) (by omega) (by omega) (by omega)

theorem bcell0 {W w1 : World} (hb : Below W.heap.size W w1) : (∀ b o, b < W.heap.size → w1.cell? ⟨b, o, none⟩ = W.cell? ⟨b, o, none⟩) ∧ (∀ b o, b < W.heap.size → w1.frozen? ⟨b, o, none⟩ = W.frozen? ⟨b, o, none⟩) :=
  ⟨fun b o h => hb.cell (p := ⟨b, o, none⟩) h, fun b o h => hb.frozen (p := ⟨b, o, none⟩) h⟩

theorem HasHead.snoc {p : Int} {n : Nat} {l m : List Int} (h : HasHead p n l) : HasHead p (n + m.length) (l ++ m) := by
  obtain ⟨h1, t, rfl⟩ := h
  exact ⟨by simp [← h1]; omega, t ++ m, by simp⟩

theorem small_true (p M : Int) (h : -M ≤ p ∧ p ≤ M) (h0 : 0 ≤ M) (h1 : M ≤ 1000000000000) : trace_small.f p M = some true := by
  have hw : wrap64 (-M) = -M := by unfold wrap64; omega
  simp only [trace_small.f, trace_within.f, hw]
  rw [if_pos h.1]
  simp [h.2]

theorem ff_own (w1 : World) (v1 : Value) (B b : Nat) (h : w1.ownsRow B 5 1 v1 4 [.int .u8 67, .int .u8 80, .int .u8 1, .int .u8 1]) (hb : b ≤ B) : Kd.R (Kd.int .u8) 5 w1 b (fun _ => True) v1 [67, 80, 1, 1] := by
  have h2 : w1.ownsRow B 5 1 v1 ([67, 80, 1, 1] : List Int).length (encs (Value.int .u8) [67, 80, 1, 1]) := h
  have h3 : Kd.R (Kd.int .u8) 5 w1 B (fun _ => True) v1 [67, 80, 1, 1] := Kd.R_of_own (enc := Value.int .u8) (h1 := fun _ => rfl) h2 (fun _ _ => trivial)
  exact Kd.R_lower h3 hb

theorem ff_first (W0 w1 : World) (v1 : Value) (fr : Nat × Nat) (C1 C2 : Array Value)
    (hown : w1.ownsRow ((W0.alloc (.cells C1 5 fr)).alloc (.cells C2 5)).heap.size 5 1 v1 (2 + 2) ([.int .u8 67, .int .u8 80] ++ [.int .u8 1, .int .u8 1]))
    (hg : ((W0.alloc (.cells C1 5 fr)).alloc (.cells C2 5)).grownBy w1 none) :
    Kd.R (Kd.int .u8) 5 w1 W0.heap.size (fun _ => True) v1 [67, 80, 1, 1] ∧ Below W0.heap.size W0 w1 := by
  have hs : ((W0.alloc (.cells C1 5 fr)).alloc (.cells C2 5)).heap.size = W0.heap.size + 2 := by simp
  have hb : Below W0.heap.size W0 w1 := (below_alloc (below_alloc (Below.refl _ W0) _) _).grown hg (by omega) (by simp)
  rw [hs] at hown
  exact ⟨ff_own w1 v1 _ _ hown (by omega), hb⟩

set_option maxRecDepth 100000 in
set_option maxHeartbeats 1000000 in
theorem FormatFrame_any (p : Int) (b off cap : Nat) (w : World) (hp : -2000000 ≤ p ∧ p ≤ 2000000) (hc : ∀ j, j < 64 → w.cell? ⟨b, off + j, none⟩ = some (.float .f32 0)) :
    Calls Tryd.prog 7 #[.agg #[.int .i64 p, .int .i64 1, .slice (some ⟨b, off, none⟩) 64 cap]] w fun e w' =>
      ∃ l : List Int, HasHead p 138 l ∧ e = .returned (.tuple #[.string (strOfNums l), .int .i64 0]) ∧ Below w.heap.size w w' := by
  have HC := Lib.hid hc
  clear hc
  have HP := Lib.hid hp
  have hsm : ∀ w, Calls Tryd.prog 17 #[.int .i64 p, .int .i64 1000000000] w fun e w' => e = .returned (.bool true) ∧ Drawn0 w w' := fun w => trace_small.calls p 1000000000 true w (small_true p _ (by have := HP.out; omega) (by omega) (by omega))
  clear hp
  have hbl : b < w.heap.size := World.block_lt_of_cell? w _ (HC.out 0 (by omega))
  have hs := fun (W : World) (h : Below w.heap.size w W) => matrixErr_zeros b off cap W (fun j hj => (h.cell (p := ⟨b, off + j, none⟩) hbl).trans (HC.out j hj))
  have HS := Lib.hid hs
  clear hs
  have kc := fun (w : World) (C : Array Value) (n c : Nat) => Lib.run_convert_bytes_const (P := Tryd.prog) w 67 5 C n c Tryd.underlying67 Tryd.underlying5
  obtain ⟨i0, hi, hz0, hz1, hz2⟩ := info_parts info5
  have HI := Lib.hid (And.intro hi (And.intro hz0 (And.intro hz1 hz2)))
  clear hi hz0 hz1 hz2
  go_enter Tryd.func7, Tryd.ntmps7
  go_wp2_with (first
    | (go_at_call 17; refine (hsm _).mono ?_; rintro e w' ⟨rfl, ⟨⟨m, rfl⟩⟩⟩)
    | (go_at_call 18; refine (HS.out _ ?h1).mono ?_; (case h1 => repeat (first | exact Below.refl _ _ | apply below_alloc | apply pw_below_drewN)); rintro e W0 ⟨rfl, hb1⟩
       have c0 : W0.cell? ⟨w.heap.size, 0, none⟩ = some (.int .i64 p) := (hb1.cell (p := ⟨w.heap.size, 0, none⟩) (by simp)).trans (by simp)
       have c1 : W0.cell? ⟨w.heap.size, 1, none⟩ = some (.int .i64 1) := (hb1.cell (p := ⟨w.heap.size, 1, none⟩) (by simp)).trans (by simp)
       have c2 : W0.cell? ⟨w.heap.size, 2, none⟩ = some (.slice (some ⟨b, off, none⟩) 64 cap) := (hb1.cell (p := ⟨w.heap.size, 2, none⟩) (by simp)).trans (by simp)
       have hz : w.heap.size < W0.heap.size := by have := hb1.size; simp at this; omega
       have hb0 : Below w.heap.size w W0 := below_step (by repeat (first | exact Below.refl _ _ | apply below_alloc | apply pw_below_drewN)) hb1
       have hbz : ∀ j, j < 64 → W0.cell? ⟨b, off + j, none⟩ = some (.float .f32 0) := fun j hj => (hb0.cell (p := ⟨b, off + j, none⟩) hbl).trans (HC.out j hj)
       have HZ := Lib.hid hbz
       have HB0 := Lib.hid hb0
       clear hb1 hb0 hbz)
    | ((with_reducible refine gate_builtin (b := .append) (xs := #[.tmp 19, .tmp 24]) rfl ?_); at_builtin
       obtain ⟨hi, hz0, hz1, hz2⟩ := HI.out
       refine wpList_append_grows _ rfl (.tmp 19) (.tmp 24) 67 rfl 5 i0 (.int .u8 0) 1 1 Tryd.underlying67 hi hz0 hz1 hz2 rfl (by decide) (some ⟨W0.heap.size, 0, none⟩) 2 2 [.int .u8 67, .int .u8 80] rfl (by simp) rfl ?holds ⟨W0.heap.size + 1, 0, none⟩ 2 2 [.int .u8 1, .int .u8 1] rfl rfl ?hc ?h1c (by omega) (by simp [maxLen]) (by omega) ?_
       (case holds => intro bb hbb; obtain rfl := Option.some.inj hbb; exact ff_cells1 _ _ _ _ _ _)
       (case hc => exact ff_cells2 _ _ _ _ _)
       (case h1c => exact ff_one)
       intro v1 w1 hown hg
       obtain ⟨hR1, hB1⟩ := ff_first _ _ _ _ _ _ hown hg
       have HR1 := Lib.hid hR1
       have HBW := Lib.hid hB1
       have c0' := (hB1.cell (p := ⟨w.heap.size, 0, none⟩) hz).trans c0
       have c1' := (hB1.cell (p := ⟨w.heap.size, 1, none⟩) hz).trans c1
       have c2' := (hB1.cell (p := ⟨w.heap.size, 2, none⟩) hz).trans c2
       clear hi hz0 hz1 hz2 hown hg hR1 hB1)
    | (go_at_call 19
       refine (trace_appended.calls 6 (fun _ => True) _ [67, 80, 1, 1] p 4 _ W0 _ HBW.out HR1.out (appended4 _ p (by simp))).mono ?_
       rintro e w2 ⟨v2, rfl, hR2, hB2, _⟩
       have hR2' := Kd.R_mono hR2 (ok' := fun _ => True) (fun _ _ => trivial)
       have HR2 := Lib.hid hR2'
       have HB2 := Lib.hid hB2
       have d0 := (hB2.cell (p := ⟨w.heap.size, 0, none⟩) hz).trans c0
       have d1 := (hB2.cell (p := ⟨w.heap.size, 1, none⟩) hz).trans c1
       have d2 := (hB2.cell (p := ⟨w.heap.size, 2, none⟩) hz).trans c2
       clear hR2 hR2' hB2))
  clear c0 c1 c2 c0' c1' c2' d0 d1 d2 HR1 HBW kc
  have h4 : ∀ w, Sem.run Tryd.prog (convert 69 3 (Value.float .f32 0)) w = .ok (Value.int .i64 0) w := fun _ => by kernel_rfl
  have hh : HasHead p (8 + 2 * 0) ([67, 80, 1, 1] ++ [p / 16777216 % 256, p / 65536 % 256, p / 256 % 256, p % 256]) := ⟨by simp, [], by simp [headOf]⟩
  have HH := Aside0.mk hh
  clear hh
  go_loopw [5, 34] (fun v i wr => ∃ (k : Nat) (l : List Int), k ≤ 64 ∧ i = .int .i64 k ∧ Aside0 (HasHead p (8 + 2 * k) l) ∧ Aside0 (Kd.R (Kd.int .u8) 5 wr W0.heap.size (fun _ => True) v l) ∧ Aside0 (Below W0.heap.size W0 wr)) (fun _ i _ => 64 - (intOf i).toNat)
  case atStart => exact ⟨0, _, by omega, rfl, HH, ⟨HR2.out⟩, ⟨HB2.out⟩⟩
  case round =>
    clear HH HR2 HB2
    obtain ⟨k, l, hk, rfl, HH, HR, HBr⟩ := hrel
    by_cases hlt : k < 64
    · have hcell := (HBr.out.cell (p := ⟨b, off + k, none⟩) (Nat.lt_trans hbl hz)).trans (HZ.out k hlt)
      have hll : l.length < 1000000 := by have := HH.out.1; omega
      have hcall := trace_appended.calls 4 (fun _ => True) _ l 0 2 _ W0 _ HBr.out HR.out (appended2 l 0 hll)
      have HCALL := Lib.hid hcall
      clear hcall hll
      go_wp2_with fail
      refine HCALL.out.mono ?_
      rintro e w3 ⟨v3, rfl, hR3, hB3, _⟩
      have HR3 := Aside0.mk (Kd.R_mono hR3 (ok' := fun _ => True) (fun _ _ => trivial))
      have HB3 := Aside0.mk hB3
      clear hR3 hB3 HCALL
      go_wp2_with fail
      go_roundw
      case rel =>
        refine ⟨k + 1, _, by omega, by go_num, ⟨?_⟩, HR3, HB3⟩
        have := HH.out.snoc (m := [0 / 256 % 256, 0 % 256])
        simpa [Nat.mul_add, Nat.add_assoc] using this
      case measure => simp [intOf]; omega
    · obtain rfl : k = 64 := by omega
      obtain ⟨A, c, rfl, hle, hC⟩ := Kd.R_reads HR.out
      have hcv := fun (W : World) (hW : (Kd.int .u8).C W A l.length l) (c : Nat) => Kd.C_string (P := Tryd.prog) (src := 67) (dst := 9) (e := 5) (c := c) Tryd.underlying67 Tryd.underlying5 Tryd.underlying9 hW
      have hcv1 := hcv _ hC c
      obtain ⟨r, hr⟩ := check_total (strOfNums l) (by rw [strOfNums_size]; have := HH.out.1; omega)
      have hck := fun W => trace_check.calls _ (strOfNums l) r W hr
      have HCK := Lib.hid hck
      clear hck hcv
      go_wp2_with fail
      refine (HCK.out _).mono ?_
      rintro e w4 ⟨rfl, ⟨⟨m4, rfl⟩⟩⟩
      have hll : l.length < 1000000 := by have := HH.out.1; omega
      have hcall := trace_appended.calls 4 (fun _ => True) _ l r 2 _ W0 _ (pw_below_drewN HBr.out m4) (Kd.R_drewN HR.out m4) (appended2 l r hll)
      have HCALL := Lib.hid hcall
      clear hcall hll HCK
      go_wp2_with fail
      refine HCALL.out.mono ?_
      rintro e w5 ⟨v5, rfl, hR5, hB5, _⟩
      obtain ⟨l5, hl5⟩ : ∃ l5, l5 = l ++ [r / 256 % 256, r % 256] := ⟨_, rfl⟩
      rw [← hl5] at hR5
      have HL5 := Aside0.mk hl5
      clear hl5
      obtain ⟨A5, c5, rfl, hle5, hC5⟩ := Kd.R_reads hR5
      have hcv5 := Kd.C_string (P := Tryd.prog) (src := 67) (dst := 9) (e := 5) (c := c5) Tryd.underlying67 Tryd.underlying5 Tryd.underlying9 hC5
      have HB5 := Aside0.mk (below_step HB0.out hB5)
      clear hR5 hB5 hC5 HCALL hcv1 hC
      go_wp2_with fail
      go_ret2
      refine ⟨_, ?_, rfl, HB5.out⟩
      have := HH.out.snoc (m := [r / 256 % 256, r % 256])
      rw [← HL5.out] at this
      exact this
end Go.Proofs.YtbhbabimfkiibaaDoor
