/- Frames kept one behind the other: what a beginning of them says; the step of the append. Frames: the positions of the frames found are the first ones. -/
import Derived.Test.YtbhbabimfkiibaaDoorAf
import Derived.Deep.RegionLaw
import Derived.Deep.AppendLies
namespace Go.Proofs.YtbhbabimfkiibaaDoor
open Go.RowKit Go.Shelf Go.Proofs.YtbhbabimfkiibaaDoorW.PrintWords Go.Proofs.YtbhbabimfkiibaaDoorW.PrintLast Go.Proofs.YtbhbabimfkiibaaDoorW.PrintMore PTopScannedAnew
set_option linter.unusedVariables false
set_option linter.unusedSimpArgs false

/-- Parsing any beginning of a frame, of at least eight bytes. -/
theorem ParseFrame_any (p : Int) (hp : -2000000 ≤ p ∧ p ≤ 2000000) (s : ByteArray) (w : World) (h : StartsFrame p s) (h8 : 8 ≤ s.size) (hs : s.size ≤ 138) :
    Calls Tryd.prog 21 #[.string s] w fun e w' => (s.size < 138 → ¬ ∃ x, e = .returned (.tuple #[x, .int .i64 0])) ∧ Parsed p e ∧ Below w.heap.size w w' := by
  by_cases hlt : s.size < 138
  · refine (ParseFrame_short p s w h h8 hlt).mono ?_
    rintro e w' ⟨rfl, hb⟩
    exact ⟨fun _ ⟨x, hx⟩ => by simp at hx, ⟨0, 0, 10, _, rfl, by omega, _, _, _, rfl⟩, hb⟩
  · refine (ParseFrame_full p hp s w h (by omega)).mono ?_
    rintro e w' ⟨hpd, hb⟩
    exact ⟨fun h => absurd h hlt, hpd, hb⟩

/-- A text whose bytes are the beginning of frames at the positions. -/
def Kept (ps : List Int) (s : ByteArray) : Prop :=
  ∀ k, 138 * k + 8 ≤ s.size → k < ps.length ∧ ∀ i, i < 8 → s.data.toList.getD (138 * k + i) 0 = UInt8.ofNat ((headOf (ps.getD k 0)).getD i 0).toNat

theorem starts_of (p : Int) (s : ByteArray) (h8 : 8 ≤ s.size) (h : ∀ i, i < 8 → s.data.toList.getD i 0 = UInt8.ofNat ((headOf p).getD i 0).toNat) : StartsFrame p s := by
  refine ⟨s.data.toList.drop 8, ?_⟩
  have hl : 8 ≤ s.data.toList.length := by simpa using h8
  generalize s.data.toList = l at *
  rw [← List.take_append_drop 8 l]
  simp only [List.drop_left', List.length_take, Nat.min_eq_left hl]
  congr 1
  apply List.ext_getElem
  · simp [headOf]; omega
  · intro i h1 h2
    have hi : i < 8 := by simp at h1; omega
    have := h i hi
    rw [List.getD_eq_getElem?_getD, List.getElem?_eq_getElem (by omega)] at this
    simp only [Option.getD_some] at this
    rw [List.getElem_take, this, List.getElem_map]
    rw [List.getD_eq_getElem?_getD, List.getElem?_eq_getElem (by simpa [headOf] using hi)]
    rfl

theorem Kept.starts {ps : List Int} {s : ByteArray} (h : Kept ps s) (k e : Nat) (he : 138 * k + 8 ≤ e) (hs : e ≤ s.size) : StartsFrame (ps.getD k 0) (s.extract (138 * k) e) := by
  refine starts_of _ _ (by simp; omega) fun i hi => ?_
  rw [Lib.extract_data]
  have h2 := (h k (by omega)).2 i hi
  rw [← h2, List.getD_eq_getElem?_getD, List.getD_eq_getElem?_getD]
  congr 1
  rw [List.getElem?_take, if_pos (by omega), List.getElem?_drop]

theorem StartsFrame.shorter {p : Int} {s : ByteArray} (h : StartsFrame p s) (n : Nat) (h8 : 8 ≤ n) : StartsFrame p (s.extract 0 n) := by
  obtain ⟨t, ht⟩ := h
  refine ⟨t.take (n - 8), ?_⟩
  have hl : ((headOf p).map (fun x => UInt8.ofNat x.toNat)).length = 8 := by simp [headOf]
  generalize (headOf p).map (fun x => UInt8.ofNat x.toNat) = hd at *
  rw [Lib.extract_data, ht, List.drop_zero, Nat.sub_zero, List.take_append, hl, List.take_of_length_le (by omega)]
end Go.Proofs.YtbhbabimfkiibaaDoor

namespace Go.Proofs.YtbhbabimfkiibaaDoor
open Go.RowKit Go.Shelf Go.Proofs.YtbhbabimfkiibaaDoorW.PrintWords Go.Proofs.YtbhbabimfkiibaaDoorW.PrintLast Go.Proofs.YtbhbabimfkiibaaDoorW.PrintMore PTopScannedAnew
set_option linter.unusedVariables false
set_option linter.unusedSimpArgs false

theorem frameInfo : (Tryd.prog.info? 35).map (fun i => (i.zero, i.size, i.bytes)) = some (some (.agg #[.int .i64 0, .int .i64 0, .slice none 0 0]), 3, 40) := by kernel_rfl

/-- append of one frame, as one step of a region that draws its order: in whatever world that holds what W with the frame's own row holds. -/
theorem step_frames {ops : Array Oper} {o : Oper} {a : Act} {K : Act → World → Prop} {Q : Exit → Act → World → Prop} {E : Prop} {w W : World} {a0 a1 a2 : Value} (hg : o.guard = none) (s x : Operand)
    (hop : o.op = Op.call { callee := Callee.builtin Builtin.append, args := #[s, x], argTypes := #[36, 36] })
    (hw : w.heap = (W.alloc (.cells #[a0, a1, a2] 35)).heap ∧ w.os = W.os ∧ w.tape = W.tape ∧ w.output = W.output)
    (base : Nat) (v : Value) (k : Nat) (xs : List Value) (hs : a.eval s = v) (hx : a.eval x = .slice (some ⟨W.heap.size, 0, none⟩) 1 1) (h1c : a0.oneCell' = true ∧ a1.oneCell' = true ∧ a2.oneCell' = true)
    (hown : W.ownsRow base 35 3 v k xs) (hb : base ≤ W.heap.size) (hk : k ≤ 1000)
    (hK : ∀ v' w', w'.ownsRow base 35 3 v' (k + 1) (xs ++ [a0, a1, a2]) → W.grownBy w' v.ownBlock → K (a.put o.dst v') w') :
    if Region.wanted o (yielded ops a.tmps) = true then Oper.wp Tryd.prog o a w K Q else E := by
  have hwt : Region.wanted o (yielded ops a.tmps) = true := by simp [Region.wanted, hg]
  rw [if_pos hwt]
  obtain ⟨i0, hi, hz0, hz1, hz2⟩ := info_parts frameInfo
  have hown2 : w.ownsRow base 35 3 v k xs := by
    have := hown.alloc (.cells #[a0, a1, a2] 35)
    refine ⟨this.1, ?_⟩
    rcases this.2 with h | ⟨g, cap, cur, rfl, hgg, r1, r2⟩
    · exact .inl h
    · exact .inr ⟨g, cap, cur, rfl, hgg, by rw [hw.1]; exact r1, r2⟩
  have hcells : ∀ j u, [a0, a1, a2][j]? = some u → w.cell? ((⟨W.heap.size, 0, none⟩ : Addr).add j) = some u := by
    intro j u hj
    rw [add_plain]
    have hn := World.alloc_heap_new W (.cells #[a0, a1, a2] 35)
    rw [← hw.1] at hn
    match j, hj with
    | 0, hj => cases hj; simp [World.cell?, hn]
    | 1, hj => cases hj; simp [World.cell?, hn]
    | 2, hj => cases hj; simp [World.cell?, hn]
  have hsz : w.heap.size = W.heap.size + 1 := by rw [hw.1]; simp
  obtain ⟨v', w', hrun, r1, r2, _⟩ := run_append_own (P := Tryd.prog) w base 36 o.type 35 i0 _ 3 40 Tryd.underlying36 hi hz0 hz1 hz2 rfl (by decide) v k xs hown2 ⟨W.heap.size, 0, none⟩ 1 1 [a0, a1, a2] rfl hcells
    (by intro u hu; simp at hu; rcases hu with rfl | rfl | rfl <;> simp [h1c]) (by unfold maxLen; omega) (by omega) (by omega)
  unfold Oper.wp
  simp [execOp, hop, resolve, invoke, builtin, hs, hx, hrun, Result.andThen]
  refine hK v' w' r1 ⟨r2.os.trans hw.2.1, r2.tape.trans hw.2.2.1, r2.output.trans hw.2.2.2, by have := r2.size; omega, fun j hj hne => (r2.block j (by omega) hne).trans ?_⟩
  rw [hw.1]
  exact Below.heap_alloc W _ j hj

/-- What Frames hands back. -/
def Found (ps : List Int) (n₀ : Nat) (e : Ending) (w : World) : Prop := ∃ (v : Value) (n : Int) (m : Nat) (xs : List Value),
  e = .returned (.tuple #[v, .int .i64 n, .int .i64 0]) ∧ 0 ≤ n ∧ m ≤ ps.length ∧ w.ownsRow n₀ 35 3 v m xs ∧ ∀ i, i < m → xs[3 * i]? = some (.int .i64 (ps.getD i 0))

set_option maxRecDepth 100000 in
set_option maxHeartbeats 4000000 in
theorem Frames_any (ps : List Int) (hp : ∀ k, -2000000 ≤ ps.getD k 0 ∧ ps.getD k 0 ≤ 2000000) (hpl : ps.length ≤ 1000) (s : ByteArray) (hs : s.size ≤ 100000) (hk : Kept ps s) (w : World) :
    Calls Tryd.prog 8 #[.string s] w fun e w' => Found ps w.heap.size e w' ∧ Below w.heap.size w w' := by
  have hfs : ∀ w, Calls Tryd.prog 22 #[.int .i64 1] w fun e w' => e = .returned (.int .i64 138) ∧ Drawn0 w w' := fun w => trace_frameSize.calls 1 138 w (by simp [trace_frameSize.f, wrap64])
  have HFS := Lib.hid hfs
  have HK := Aside0.mk hk
  have HP := Aside0.mk hp
  clear hfs hk hp
  go_enter Tryd.func8, Tryd.ntmps8
  go_wp2_with fail
  go_loopw [5, 6] (fun v i wr => ∃ (k : Nat) (xs : List Value), k ≤ ps.length ∧ 138 * k ≤ s.size ∧ i = .int .i64 (138 * (k : Int)) ∧ Aside0 (wr.ownsRow w.heap.size 35 3 v k xs ∧ (∀ i, i < k → xs[3 * i]? = some (.int .i64 (ps.getD i 0))) ∧ Below w.heap.size w wr)) (fun _ i _ => s.size + 1000 - (intOf i).toNat)
  case atStart => exact ⟨0, [], by omega, by omega, rfl, ⟨World.ownsRow_nil _ _ _ _, fun i hi => absurd hi (by omega), Below.refl _ _⟩⟩
  case round =>
    obtain ⟨k, xs, hkl, hks, rfl, HR⟩ := hrel
    by_cases h8 : 138 * k + 8 ≤ s.size
    · have hst := HK.out.starts k s.size h8 (Nat.le_refl _)
      have h3 : ∀ h : 3 < (s.extract (138 * k) s.size).size, (s.extract (138 * k) s.size)[3].toNat = 1 := fun h' => by rw [ba_get _ 3 h', starts_at _ _ hst 3 (by omega)]; rfl
      have hge : ¬ ((s.size - 138 * k : Nat) : Int) < 8 := by omega
      have hsz3 : 3 < (s.extract (138 * k) s.size).size := by simp; omega
      have hz8 : (8 : Int) ≤ ((s.size - 138 * k : Nat) : Int) := by omega
      have hsz : (s.extract (138 * k) s.size).size = s.size - 138 * k := by simp
      have hany : ∀ (n : Nat) (W : World), 8 ≤ n → n ≤ 138 → n ≤ s.size - 138 * k → Calls Tryd.prog 21 #[.string ((s.extract (138 * k) s.size).extract 0 n)] W fun e w' => (n < 138 → ¬ ∃ x, e = .returned (.tuple #[x, .int .i64 0])) ∧ Parsed (ps.getD k 0) e ∧ Below W.heap.size W w' := fun n W h1 h2 h3 => by
        have hn : ((s.extract (138 * k) s.size).extract 0 n).size = n := by simp; omega
        have := ParseFrame_any (ps.getD k 0) (HP.out k) ((s.extract (138 * k) s.size).extract 0 n) W (hst.shorter n h1) (by omega) (by omega)
        rw [hn] at this
        exact this
      have hp1 := HP.out k
      obtain ⟨p, hpp⟩ : ∃ p, ps.getD k 0 = p := ⟨_, rfl⟩
      rw [hpp] at hp1 hst
      simp only [hpp] at hany
      have HPP := Aside0.mk hpp
      have HANY := Lib.hid hany
      clear hany hsz hpp
      go_wp2_with (first
        | (go_at_call 22; refine (HFS.out _).mono ?_; rintro e w' ⟨rfl, ⟨⟨m1, rfl⟩⟩⟩)
        | (go_at_call 21; refine (HANY.out _ _ (by omega) (by omega) (by omega)).mono ?_; rintro e W1 ⟨hsh, ⟨q, el, er, v, rfl, hq, g, n', c, rfl⟩, hb⟩; have HB1 := Aside0.mk ((below_drewN (Below.refl wr.heap.size wr) m1).trans hb); have HQ := Aside0.mk hq; have HSH := Aside0.mk hsh; clear hb hq hsh))
      all_goals (try (
        refine bodyPost_ret (v := .tuple #[u5, .int .i64 (138 * (k : Int)), .int .i64 0]) (by simp [results, Tryd.results8, go_sem]) rfl ⟨⟨u5, 138 * (k : Int), k, xs, rfl, by omega, hkl, ?_, HR.out.2.1⟩, ?_⟩
        · exact (HR.out.1.kept (grown_of_below HB1.out none) (by cases u5.ownBlock <;> simp)).alloc _
        · exact (HR.out.2.2.trans (HB1.out.mono HR.out.2.2.size)).alloc (Nat.le_trans HR.out.2.2.size HB1.out.size) _))
      all_goals
        have her : er = 0 := by first | assumption | omega | (simp only [bne_eq_false_iff_eq] at *; assumption)
        obtain ⟨hqp, rfl⟩ := HQ.out her
        rw [hqp]
        have h138 : 138 * k + 138 ≤ s.size := by first | omega | exact Classical.byContradiction fun hn => HSH.out (by omega) ⟨_, by rw [her]⟩
        have x8 := Box3.new W1 35 (.int .i64 (p)) (.int .i64 1) (.slice g n' c)
        have ho8 : (W1.alloc (.cells #[.int .i64 (p), .int .i64 1, .slice g n' c] 35)).ownsRow w.heap.size 35 3 u5 k xs := (HR.out.1.kept (grown_of_below HB1.out none) (by cases u5.ownBlock <;> simp)).alloc _
        have hne : some W1.heap.size ≠ u5.ownBlock := fun e => by
          have := (HR.out.1.kept (grown_of_below HB1.out none) (by cases u5.ownBlock <;> simp)).lt _ e.symm
          omega
        have hb8 : Below w.heap.size w (W1.alloc (.cells #[.int .i64 (p), .int .i64 1, .slice g n' c] 35)) := (HR.out.2.2.trans (HB1.out.mono HR.out.2.2.size)).alloc (Nat.le_trans HR.out.2.2.size HB1.out.size) _
        have hk1 : k < ps.length := (HK.out k h8).1
        obtain ⟨W8, hW8⟩ : ∃ W8, W1.alloc (.cells #[.int .i64 (p), .int .i64 1, .slice g n' c] 35) = W8 := ⟨_, rfl⟩
        rw [hW8] at x8 ho8 hb8
        rw [hW8]
        have hsz8 := hb8.size
        have c0 := x8.c0
        have c1 := x8.c1
        have c2 := x8.c2
        have c1' := fun o => (x8.alloc o).c1
        have HO8 := Aside0.mk ho8
        have HB8 := Aside0.mk hb8
        clear ho8 hb8 hW8
        go_region_law (first
          | (refine step_frames (a0 := .int .i64 (p)) (a1 := .int .i64 1) (a2 := .slice g n' c) (W := W8) rfl (.tmp 34) (.tmp 36) rfl ⟨rfl, rfl, rfl, rfl⟩ w.heap.size u5 k xs (by simp [Act.eval, Act.put]) (by simp [Act.eval, Act.put]) ⟨rfl, rfl, rfl⟩ HO8.out hsz8 (by omega) ?_; intro v' w1 hown' hgrow; have hc1 := (x8.kept hgrow hne).c1)
          | (go_simp; go_at_call 22; refine (HFS.out _).mono ?_; rintro e w' ⟨rfl, ⟨⟨m2, rfl⟩⟩⟩))
        all_goals
          go_wp2_with fail
          have hfin : Below w.heap.size w w1 := HB8.out.grown hgrow hsz8 (fun j e => (HO8.out.lt j e).1)
          have hpos : ∀ i, i < k + 1 → (xs ++ [Value.int .i64 p, .int .i64 1, .slice g n' c])[3 * i]? = some (.int .i64 (ps.getD i 0)) := fun i hi => by
            have hxl : xs.length = k * 3 := HO8.out.1
            by_cases hik : i < k
            · rw [List.getElem?_append_left (by omega)]
              exact HR.out.2.1 i hik
            · have : i = k := by omega
              subst this
              rw [List.getElem?_append_right (by omega), hxl, show 3 * i - i * 3 = 0 from by omega, HPP.out]
              rfl
          have HPOS := Aside0.mk hpos
          clear hpos
          go_roundw
          case rel => exact ⟨k + 1, by omega, by omega, by first | (rw [IntKind.wrap_i64]; omega) | (unfold wrap64; omega) | omega, xs ++ [Value.int .i64 p, .int .i64 1, .slice g n' c], ⟨hown', HPOS.out, ⟨hfin.os, hfin.tape, hfin.output, hfin.size, hfin.block⟩⟩⟩
          case measure =>
            have hwk : IntKind.i64.wrap (138 * (k : Int) + 138) = 138 * (k : Int) + 138 := by rw [IntKind.wrap_i64]; omega
            have hwk2 : wrap64 (138 * (k : Int) + 138) = 138 * (k : Int) + 138 := by unfold wrap64; omega
            simp [intOf, hwk, hwk2]; omega
    · have hlt : ((s.size - 138 * k : Nat) : Int) < 8 := by omega
      go_wp2_with fail
      exact bodyPost_ret (v := .tuple #[u5, .int .i64 (138 * (k : Int)), .int .i64 0]) (by simp [results, Tryd.results8, go_sem]) rfl ⟨⟨u5, 138 * (k : Int), k, xs, rfl, by omega, hkl, HR.out.1, HR.out.2.1⟩, HR.out.2.2⟩
end Go.Proofs.YtbhbabimfkiibaaDoor
