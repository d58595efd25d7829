/- The plain steps of the law TopScannedAnew. Readable slices of numbers, their copies; the append of one number; the zero samples. -/
import Derived.Test.YtbhbabimfkiibaaDoorBf
import Derived.Test.YtbhbabimfkiibaaDoorAk
import Derived.Laws.MakeOwn
namespace Go.Proofs.YtbhbabimfkiibaaDoor
open Go.RowKit Go.Shelf Go.Proofs.YtbhbabimfkiibaaDoorW.PrintWords Go.Proofs.YtbhbabimfkiibaaDoorW.PrintLast Go.Proofs.YtbhbabimfkiibaaDoorW.PrintMore PTopScannedAnew
set_option linter.unusedVariables false
set_option linter.unusedSimpArgs false

theorem within_f (a lo hi : Int) : couplantbase_Within.f a lo hi = some (decide (lo ≤ a) && decide (a ≤ hi)) := by
  unfold couplantbase_Within.f
  by_cases h : lo ≤ a <;> simp [h]

theorem track_total (f o s r : Int) : ∃ x, couplantref07_CheckTrack.f 1 f o s r = some x ∧ (x = 0 → (0 ≤ f ∧ f ≤ 1000000) ∧ (0 ≤ o ∧ o ≤ 1000000) ∧ (0 ≤ s ∧ s ≤ 1000000) ∧ (0 ≤ r ∧ r ≤ 1000000) ∧ f ≤ o) := by
  unfold couplantref07_CheckTrack.f
  simp only [within_f, Option.bind_some]
  by_cases hf : 0 ≤ f ∧ f ≤ 1000000
  · rw [if_pos (by simp [hf])]
    by_cases ho : 0 ≤ o ∧ o ≤ 1000000
    · rw [if_pos (by simp [ho])]
      by_cases hs : 0 ≤ s ∧ s ≤ 1000000
      · rw [if_pos (by simp [hs])]
        by_cases hr : 0 ≤ r ∧ r ≤ 1000000
        · by_cases hfo : f > o
          · exact ⟨9, by simp [couplantref07_CheckTrack.j0, hr, hfo], by omega⟩
          · exact ⟨0, by simp [couplantref07_CheckTrack.j0, hr, hfo], fun _ => ⟨hf, ho, hs, hr, by omega⟩⟩
        · refine ⟨2, ?_, by omega⟩
          simp only [couplantref07_CheckTrack.j0]
          rw [if_pos]
          rw [Bool.not_eq_true']
          simp only [Bool.and_eq_false_iff, decide_eq_false_iff_not]
          omega
      · refine ⟨2, ?_, by omega⟩
        rw [if_neg (by simp only [Bool.and_eq_true, decide_eq_true_eq]; exact hs)]
        rfl
    · refine ⟨2, ?_, by omega⟩
      rw [if_neg (by simp only [Bool.and_eq_true, decide_eq_true_eq]; exact ho)]
      rfl
  · refine ⟨2, ?_, by omega⟩
    rw [if_neg (by simp only [Bool.and_eq_true, decide_eq_true_eq]; exact hf)]
    rfl

theorem readings_total (zs : List Int) (hl : zs.length ≤ 200) : ∃ x, couplantref07_ReadingsErr.f (zs.length + 1) zs = some x ∧ (x = 0 → ∀ z ∈ zs, -2000000 ≤ z ∧ z ≤ 2000000) := by
  have key : ∀ (d k : Nat) (i : Nat), i + d = zs.length → d < k → ∃ x, couplantref07_ReadingsErr.l0 k zs (i : Int) = some x ∧ (x = 0 → ∀ z ∈ zs.drop i, -2000000 ≤ z ∧ z ≤ 2000000) := by
    intro d
    induction d with
    | zero =>
      intro k i h hk
      obtain ⟨k, rfl⟩ : ∃ m, k = m + 1 := ⟨k - 1, by omega⟩
      refine ⟨0, ?_, fun _ z hz => ?_⟩
      · simp only [couplantref07_ReadingsErr.l0]
        rw [if_neg (by omega)]
      · rw [List.drop_eq_nil_of_le (by omega)] at hz
        cases hz
    | succ d ih =>
      intro k i h hk
      obtain ⟨k, rfl⟩ : ∃ m, k = m + 1 := ⟨k - 1, by omega⟩
      have hw : wrap64 ((i : Int) + 1) = ((i + 1 : Nat) : Int) := by unfold wrap64; omega
      have hi : i < zs.length := by omega
      have hrd : rd zs (i : Int) = zs[i] := by simp [rd, hi]
      simp only [couplantref07_ReadingsErr.l0]
      rw [if_pos (by omega), if_pos (by omega), hw, hrd, within_f, Option.bind_some]
      by_cases hz : -2000000 ≤ zs[i] ∧ zs[i] ≤ 2000000
      · rw [if_pos (by simp [hz])]
        obtain ⟨x, hx, h0⟩ := ih k (i + 1) (by omega) (by omega)
        refine ⟨x, hx, fun hx0 z hzz => ?_⟩
        rw [List.drop_eq_getElem_cons hi] at hzz
        rcases List.mem_cons.1 hzz with rfl | hzz
        · exact hz
        · exact h0 hx0 z hzz
      · rw [if_neg (by simp only [Bool.and_eq_true, decide_eq_true_eq]; exact hz)]
        exact ⟨2, rfl, by omega⟩
  obtain ⟨x, hx, h0⟩ := key zs.length (zs.length + 1) 0 (by omega) (by omega)
  refine ⟨x, ?_, by simpa using h0⟩
  unfold couplantref07_ReadingsErr.f
  rw [if_neg (by omega)]
  exact hx

theorem mod_total (a n : Int) (hn : 0 < n) (hn2 : n ≤ 1000000) : ∃ x, couplantbase_Mod.f a n = some x ∧ 0 ≤ x ∧ x < n := by
  have h1 := Int.tmod_lt_of_pos a hn
  have h2 : -n < Int.tmod a n := by
    have := Int.lt_tmod_of_pos a hn
    omega
  unfold couplantbase_Mod.f
  rw [if_neg (by omega)]
  by_cases hc : Int.tmod a n < 0
  · rw [if_pos hc]
    exact ⟨_, rfl, by unfold wrap64; omega, by unfold wrap64; omega⟩
  · rw [if_neg hc]
    exact ⟨_, rfl, by omega, h1⟩

/-- A text that has just the frames at some positions. -/
def Whole (ps : List Int) (s : ByteArray) : Prop :=
  s.size = 138 * ps.length ∧ ∀ k, k < ps.length → ∀ i, i < 8 → s.data.toList.getD (138 * k + i) 0 = UInt8.ofNat ((headOf (ps.getD k 0)).getD i 0).toNat

theorem Whole.nil : Whole [] ⟨#[]⟩ := ⟨rfl, fun k hk => absurd hk (by simp)⟩
theorem strOf_list (l : List Int) : (strOfNums l).data.toList = l.map fun x => UInt8.ofNat x.toNat := by
  simp [strOfNums]
theorem Whole.snoc {ps : List Int} {s : ByteArray} (h : Whole ps s) {p : Int} {l : List Int} (hl : HasHead p 138 l) : Whole (ps ++ [p]) (s ++ strOfNums l) := by
  obtain ⟨h1, h2⟩ := h
  obtain ⟨h3, t, ht⟩ := hl
  have hd : (s ++ strOfNums l).data.toList = s.data.toList ++ (strOfNums l).data.toList := by simp
  have hs : s.data.toList.length = 138 * ps.length := by rw [← h1]; simp
  refine ⟨by rw [ByteArray.size_append, h1, strOfNums_size, h3]; simp; omega, fun k hk i hi => ?_⟩
  rw [hd]
  by_cases hlt : k < ps.length
  · have h4 := h2 k hlt i hi
    rw [List.getD_eq_getElem?_getD, List.getElem?_append_left (by omega), ← List.getD_eq_getElem?_getD, h4]
    simp [List.getD_eq_getElem?_getD, List.getElem?_append_left hlt]
  · obtain rfl : k = ps.length := by simp at hk; omega
    rw [List.getD_eq_getElem?_getD, List.getElem?_append_right (by omega), hs, show 138 * ps.length + i - 138 * ps.length = i from by omega, strOf_list, ht]
    simp only [List.getD_eq_getElem?_getD, List.getElem?_append_right (Nat.le_refl _), Nat.sub_self, List.map_append]
    match i, hi with
    | 0, _ => rfl
    | 1, _ => rfl
    | 2, _ => rfl
    | 3, _ => rfl
    | 4, _ => rfl
    | 5, _ => rfl
    | 6, _ => rfl
    | 7, _ => rfl

theorem Whole.kept {ps : List Int} {s : ByteArray} (h : Whole ps s) (n : Nat) (hn : n ≤ s.size) : Kept ps (s.extract 0 n) := by
  obtain ⟨h1, h2⟩ := h
  intro k hk
  have hsz : (s.extract 0 n).size = n := by simp; omega
  rw [hsz] at hk
  have hkl : k < ps.length := by omega
  refine ⟨hkl, fun i hi => ?_⟩
  rw [Lib.extract_data, ← h2 k hkl i hi]
  simp only [List.getD_eq_getElem?_getD, List.drop_zero, Nat.sub_zero]
  rw [List.getElem?_take, if_pos (by omega)]
end Go.Proofs.YtbhbabimfkiibaaDoor

namespace Go.Proofs.YtbhbabimfkiibaaDoor
open Go.RowKit Go.Shelf Go.Proofs.YtbhbabimfkiibaaDoorW.PrintWords Go.Proofs.YtbhbabimfkiibaaDoorW.PrintLast Go.Proofs.YtbhbabimfkiibaaDoorW.PrintMore PTopScannedAnew
set_option linter.unusedVariables false
set_option linter.unusedSimpArgs false

/-- A slice value that reads as numbers. -/
def RI (w : World) (sv : Value) (zs : List Int) : Prop :=
  ((∃ q c, sv = .slice q 0 c) ∧ zs = []) ∨ ∃ b off cap, sv = .slice (some ⟨b, off, none⟩) zs.length cap ∧ zs.length ≤ cap ∧ b < w.heap.size ∧ ∀ j, j < zs.length → w.cell? ⟨b, off + j, none⟩ = some (.int .i64 (zs[j]?.getD 0))
theorem RI.below {w w' : World} {sv : Value} {zs : List Int} (hb : Below w.heap.size w w') : RI w sv zs → RI w' sv zs
  | .inl h => .inl h
  | .inr ⟨b, off, cap, h1, h0, h2, h3⟩ => .inr ⟨b, off, cap, h1, h0, Nat.lt_of_lt_of_le h2 hb.size, fun j hj => (hb.cell (p := ⟨b, off + j, none⟩) h2).trans (h3 j hj)⟩
theorem RI.take {w : World} {q : Option Addr} {n cap : Nat} {zs : List Int} (h : RI w (.slice q n cap) zs) (m : Nat) (hm : m ≤ zs.length) : RI w (.slice q m cap) (zs.take m) := by
  rcases h with ⟨h1, rfl⟩ | ⟨b, off, cap', h1, h0, h2, h3⟩
  · obtain rfl : m = 0 := by simpa using hm
    exact .inl ⟨⟨_, _, rfl⟩, rfl⟩
  · cases h1
    have hl : (zs.take m).length = m := by simp; omega
    refine .inr ⟨b, off, cap, by rw [hl], by omega, h2, fun j hj => ?_⟩
    rw [hl] at hj
    rw [List.getElem?_take, if_pos hj]
    exact h3 j (by omega)
theorem add_off (b off j : Nat) : (⟨b, off, none⟩ : Addr).add j = ⟨b, off + j, none⟩ := by unfold Addr.add; split <;> simp_all
theorem RI.form {w : World} {sv : Value} {zs : List Int} (hl : zs.length ≤ 1000000) (h : RI w sv zs) : ∃ A c, sv = .slice A zs.length c ∧ zs.length ≤ c ∧ Kd.C (Kd.int .i64) w A zs.length zs := by
  rcases h with ⟨⟨q, c, rfl⟩, rfl⟩ | ⟨b, off, cap, rfl, h0, h2, h3⟩
  · exact ⟨q, c, rfl, Nat.zero_le _, rfl, by simp, fun h => absurd h (by simp)⟩
  · refine ⟨_, _, rfl, h0, rfl, by omega, fun _ => ⟨_, rfl, ?_⟩⟩
    intro j p hp
    have hj : j < zs.length := (List.getElem?_eq_some_iff.1 hp).1
    have h4 := h3 j hj
    rw [hp] at h4
    refine ⟨[.int .i64 p], rfl, rfl, fun i u hu => ?_⟩
    match i, hu with
    | 0, hu =>
      cases hu
      show w.cell? ((⟨b, off, none⟩ : Addr).add (j * 1 + 0)) = _
      rw [add_off, show j * 1 + 0 = j from by omega]
      exact h4
    | i + 1, hu => simp at hu

theorem RI.of_own {w : World} {base : Nat} {v : Value} {zs : List Int} (h : w.ownsRow base 3 1 v zs.length (zs.map (Value.int .i64))) : RI w v zs := by
  rcases h.2 with ⟨rfl, h0⟩ | ⟨g, cap, cur, rfl, hb, hg, r1, r2, r3, r4⟩
  · exact .inl ⟨⟨none, 0, rfl⟩, List.eq_nil_of_length_eq_zero h0⟩
  · by_cases h0 : 0 < zs.length
    · obtain ⟨g', cap', he, _, hl, hc⟩ := sorted_form h h0
      cases he
      exact .inr ⟨g, 0, cap, rfl, r1, hl, fun j hj => by rw [Nat.zero_add]; exact hc j hj⟩
    · obtain rfl : zs = [] := List.eq_nil_of_length_eq_zero (by omega)
      exact .inr ⟨g, 0, cap, rfl, r1, (Array.getElem?_eq_some_iff.1 hg).1, fun j hj => absurd hj (by simp)⟩

theorem encs_map (zs : List Int) : encs (Value.int .i64) zs = zs.map (Value.int .i64) := by
  induction zs with
  | nil => rfl
  | cons x l ih => simp [encs] at ih ⊢

theorem R_ints {w : World} {base : Nat} {ok : Nat → Prop} {v : Value} {zs : List Int} (h : Kd.R (Kd.int .i64) 3 w base ok v zs) : Ints w.heap.size w v zs := by
  obtain ⟨A, c, he, hle, hC⟩ := Kd.R_reads h
  obtain ⟨inner, ho⟩ := Kd.R_own h
  rcases ho.2 with ⟨rfl, h0⟩ | ⟨g, cap, cur, rfl, hb, hg, r1, r2, r3, r4⟩
  · exact .inl ⟨rfl, List.eq_nil_of_length_eq_zero h0⟩
  · cases he
    refine .inr ⟨g, 0, _, rfl, (Array.getElem?_eq_some_iff.1 hg).1, fun j hj => ?_⟩
    obtain ⟨ad, e1, hc⟩ := hC.2.2 (by omega)
    cases e1
    obtain ⟨c, hcl, hk, hcell⟩ := hc j zs[j] (List.getElem?_eq_getElem hj)
    have hcc : c = [.int .i64 zs[j]] := hk
    have h5 := hcell 0 (.int .i64 zs[j]) (by rw [hcc]; rfl)
    have e2 : (⟨g, 0, none⟩ : Addr).add (j * 1 + 0) = ⟨g, 0 + j, none⟩ := by rw [show j * 1 + 0 = j from by omega]; exact add_off g 0 j
    have h6 : w.cell? ((⟨g, 0, none⟩ : Addr).add (j * 1 + 0)) = some (.int .i64 zs[j]) := h5
    rw [e2] at h6
    rw [h6, List.getElem?_eq_getElem hj]
    rfl

theorem Copy_any (zs : List Int) (hl : zs.length ≤ 1000000) (sv : Value) (w : World) (h : RI w sv zs) :
    Calls Tryd.prog 11 #[sv] w fun e w' => ∃ v, e = .returned v ∧ Ints w'.heap.size w' v zs ∧ Below w.heap.size w w' := by
  obtain ⟨A, c, rfl, hc, hC⟩ := h.form hl
  refine (couplantbase_CopyInts.calls A c zs zs w hC hc ?_).mono ?_
  · unfold couplantbase_CopyInts.f
    simp
    omega
  · rintro e w' ⟨v, rfl, hR, hb⟩
    exact ⟨v, rfl, R_ints hR, hb⟩

/-- append of one number, in whatever world that holds what W with the number's own row holds. -/
theorem list_int {ops : Array Oper} {rest : List Oper} {o : Oper} {a : Act} {Q : Exit → Act → World → Prop} {w W : World} {x0 : Int} (hg : o.guard = none) (s x : Operand)
    (hop : o.op = Op.call { callee := Callee.builtin Builtin.append, args := #[s, x], argTypes := #[24, 24] })
    (hw : w.heap = (W.alloc (.cells #[.int .i64 x0] 3)).heap ∧ w.os = W.os ∧ w.tape = W.tape ∧ w.output = W.output)
    (base : Nat) (v : Value) (k : Nat) (xs : List Value) (hs : a.eval s = v) (hx : a.eval x = .slice (some ⟨W.heap.size, 0, none⟩) 1 1)
    (hown : W.ownsRow base 3 1 v k xs) (hb : base ≤ W.heap.size) (hk : k ≤ 1000)
    (hK : ∀ v' w', w'.ownsRow base 3 1 v' (k + 1) (xs ++ [.int .i64 x0]) → W.grownBy w' v.ownBlock → wpList Tryd.prog ops Q rest (a.put o.dst v') w') :
    wpList Tryd.prog ops Q (o :: rest) a w := by
  obtain ⟨i0, hi0, hz0, hz1, hz2⟩ := info_parts intInfo
  have hown2 : w.ownsRow base 3 1 v k xs := by
    have := hown.alloc (.cells #[.int .i64 x0] 3)
    refine ⟨this.1, ?_⟩
    rcases this.2 with h | ⟨g, cap, cur, rfl, hgg, r1, r2⟩
    · exact .inl h
    · exact .inr ⟨g, cap, cur, rfl, hgg, by rw [hw.1]; exact r1, r2⟩
  have hn := World.alloc_heap_new W (.cells #[.int .i64 x0] 3)
  rw [← hw.1] at hn
  have hcells : ∀ j u, [Value.int .i64 x0][j]? = some u → w.cell? ((⟨W.heap.size, 0, none⟩ : Addr).add j) = some u := by
    intro j u hj
    match j, hj with
    | 0, hj => cases hj; rw [add_off]; simp [World.cell?, hn]
    | j + 1, hj => simp at hj
  have hsz : w.heap.size = W.heap.size + 1 := by rw [hw.1]; simp
  refine wpList_append_own w hg s x 24 hop base 3 i0 _ 1 8 Tryd.underlying24 hi0 hz0 hz1 hz2 rfl (by decide) v k xs hs hown2 ⟨W.heap.size, 0, none⟩ 1 1 [.int .i64 x0] hx rfl hcells (by simp [Value.oneCell']) (by unfold maxLen; omega) (by omega) (by omega) ?_
  intro v' w' r1 r2 _
  refine hK v' w' r1 ⟨r2.os.trans hw.2.1, r2.tape.trans hw.2.2.1, r2.output.trans hw.2.2.2, by have := r2.size; omega, fun j hj hne => (r2.block j (by omega) hne).trans ?_⟩
  rw [hw.1]
  exact Below.heap_alloc W _ j hj

/-- Sixty-four zero samples. -/
def zeros64 : Array Value := madeCells (Value.float .f32 0).cells 64
theorem zeros_at (j : Nat) (h : j < 64) : zeros64[j]? = some (.float .f32 0) := by
  have key : zeros64 = Array.replicate 64 (.float .f32 0) := by kernel_rfl
  rw [key]
  simp [h]
theorem make_zeros (w : World) : (Instr.makeSlice 31 (.int .i64 64) (.int .i64 64)).run Tryd.prog w = .ok (.slice (some ⟨w.heap.size, 0, none⟩) 64 64) (w.alloc (.cells zeros64 69)) := by
  obtain ⟨i, hi, hz, hs, hb⟩ := info_parts (show (Tryd.prog.info? 69).map (fun i => (i.zero, i.size, i.bytes)) = some (some (.float .f32 0), 1, 4) by kernel_rfl)
  have := run_make (P := Tryd.prog) w 31 69 i (.float .f32 0) Tryd.underlying31 hi hz .i64 .i64 64 64 (by omega) (by omega) (by rw [hb]; omega) (by omega)
  rw [this, hs]
  rfl
theorem inside_any (a : List (Int × Int)) (x : Int × Int) : (a.any fun y => decide (y.1 ≤ x.1) && decide (x.2 ≤ y.2)) = true ↔ ∃ y ∈ a, y.1 ≤ x.1 ∧ x.2 ≤ y.2 := by simp
end Go.Proofs.YtbhbabimfkiibaaDoor
