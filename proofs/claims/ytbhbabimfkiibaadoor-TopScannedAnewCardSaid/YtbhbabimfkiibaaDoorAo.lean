/- CheckTrack at a right track. openTrack at right tracks and readings. -/
import Derived.Test.YtbhbabimfkiibaaDoorAm
import Derived.BigQuiet
import Derived.Deep.QuietTactic
import Derived.BigRegion
namespace Go.Proofs.YtbhbabimfkiibaaDoor
open Go.RowKit Go.Shelf Go.Proofs.YtbhbabimfkiibaaDoorW.PrintWords Go.Proofs.YtbhbabimfkiibaaDoorW.PrintLast Go.Proofs.YtbhbabimfkiibaaDoorW.PrintMore PTopScannedAnew
set_option linter.unusedVariables false
set_option linter.unusedSimpArgs false

theorem arr0 (f o s r : Value) (w : World) : (Instr.index 108 (.agg #[f, o, s, r]) (.int .i64 0)).run Tryd.prog w = .ok f w := by kernel_rfl
theorem arr1 (f o s r : Value) (w : World) : (Instr.index 108 (.agg #[f, o, s, r]) (.int .i64 1)).run Tryd.prog w = .ok o w := by kernel_rfl
theorem arr2 (f o s r : Value) (w : World) : (Instr.index 108 (.agg #[f, o, s, r]) (.int .i64 2)).run Tryd.prog w = .ok s w := by kernel_rfl
theorem arr3 (f o s r : Value) (w : World) : (Instr.index 108 (.agg #[f, o, s, r]) (.int .i64 3)).run Tryd.prog w = .ok r w := by kernel_rfl

set_option maxRecDepth 100000 in
set_option maxHeartbeats 2000000 in
theorem CheckTrack_ok (f o s r : Int) (hf : 0 ≤ f ∧ f ≤ 1000000) (ho : 0 ≤ o ∧ o ≤ 1000000) (hs : 0 ≤ s ∧ s ≤ 1000000) (hr : 0 ≤ r ∧ r ≤ 1000000) (hfo : f ≤ o) (w : World) :
    Calls Tryd.prog 33 #[.agg #[.int .i64 f, .int .i64 o, .int .i64 s, .int .i64 r]] w fun e w' => e = .returned (.int .i64 0) ∧ Below w.heap.size w w' := by
  have hwi : ∀ (x : Int) w, 0 ≤ x ∧ x ≤ 1000000 → Calls Tryd.prog 47 #[.int .i64 x, .int .i64 0, .int .i64 1000000] w fun e w' => e = .returned (.bool true) ∧ Drawn0 w w' := fun x w hx => cover_within.calls x 0 1000000 true w (by simp [cover_within.f, hx])
  have HW := Lib.hid hwi
  clear hwi
  go_enter Tryd.func33, Tryd.ntmps33
  go_wp2_with fail
  go_loopw [14] (fun i wr => ∃ (k m : Nat), k ≤ 4 ∧ i = .int .i64 k ∧ wr = (w.alloc (.cells #[.int .i64 f, .int .i64 o, .int .i64 s, .int .i64 r] 23)).drewN m) (fun i _ => 4 - (intOf i).toNat)
  case atStart => exact ⟨0, 0, by omega, rfl, rfl⟩
  case round =>
    obtain ⟨k, m, hk, rfl, rfl⟩ := hrel
    have hofg : ¬ o < f := by omega
    match k, hk with
    | 0, _ =>
      have ha := arr0 (.int .i64 f) (.int .i64 o) (.int .i64 s) (.int .i64 r)
      go_wp2_with (go_at_call 47; refine (HW.out _ _ (by omega)).mono ?_; rintro e w' ⟨rfl, ⟨⟨m1, rfl⟩⟩⟩)
      go_roundw
      case rel => exact ⟨1, m + m1, by omega, rfl, by simp⟩
      case measure => simp [intOf]
    | 1, _ =>
      have ha := arr1 (.int .i64 f) (.int .i64 o) (.int .i64 s) (.int .i64 r)
      go_wp2_with (go_at_call 47; refine (HW.out _ _ (by omega)).mono ?_; rintro e w' ⟨rfl, ⟨⟨m1, rfl⟩⟩⟩)
      go_roundw
      case rel => exact ⟨2, m + m1, by omega, rfl, by simp⟩
      case measure => simp [intOf]
    | 2, _ =>
      have ha := arr2 (.int .i64 f) (.int .i64 o) (.int .i64 s) (.int .i64 r)
      go_wp2_with (go_at_call 47; refine (HW.out _ _ (by omega)).mono ?_; rintro e w' ⟨rfl, ⟨⟨m1, rfl⟩⟩⟩)
      go_roundw
      case rel => exact ⟨3, m + m1, by omega, rfl, by simp⟩
      case measure => simp [intOf]
    | 3, _ =>
      have ha := arr3 (.int .i64 f) (.int .i64 o) (.int .i64 s) (.int .i64 r)
      go_wp2_with (go_at_call 47; refine (HW.out _ _ (by omega)).mono ?_; rintro e w' ⟨rfl, ⟨⟨m1, rfl⟩⟩⟩)
      go_roundw
      case rel => exact ⟨4, m + m1, by omega, rfl, by simp⟩
      case measure => simp [intOf]
    | 4, _ =>
      go_wp2_with fail
      go_ret
      exact ⟨rfl, below_drewN ((Below.refl _ w).alloc (Nat.le_refl _) _) m⟩
end Go.Proofs.YtbhbabimfkiibaaDoor

namespace Go.Proofs.YtbhbabimfkiibaaDoor
open Go.RowKit Go.Shelf Go.Proofs.YtbhbabimfkiibaaDoorW.PrintWords Go.Proofs.YtbhbabimfkiibaaDoorW.PrintLast Go.Proofs.YtbhbabimfkiibaaDoorW.PrintMore PTopScannedAnew
set_option linter.unusedVariables false
set_option linter.unusedSimpArgs false

def lastOf (out : List (Int × Int)) : Int × Int := out.getLastD (0, 0)
/-- What a reading adds. -/
def mergeStep (f o s r : Int) (out : List (Int × Int)) (p : Int) : List (Int × Int) :=
  if min o (p - s + r) < max f (p + s - r) then out
  else if 0 < out.length ∧ max f (p + s - r) ≤ (lastOf out).2 + 1 then out.dropLast ++ [((lastOf out).1, max (lastOf out).2 (min o (p - s + r)))]
  else out ++ [(max f (p + s - r), min o (p - s + r))]
def scannedOf (f o s r : Int) (l : List Int) : List (Int × Int) := (sorted l).foldl (mergeStep f o s r) []
def flat (l : List (Int × Int)) : List Value := l.flatMap fun x => [.int .i64 x.1, .int .i64 x.2]
theorem flat_append (a b : List (Int × Int)) : flat (a ++ b) = flat a ++ flat b := by simp [flat]
theorem flat_length (a : List (Int × Int)) : (flat a).length = 2 * a.length := by
  induction a with
  | nil => rfl
  | cons x l ih => simp only [flat, List.flatMap_cons, List.length_append, List.length_cons, List.length_nil] at ih ⊢; omega

theorem sorted_length (l : List Int) : (sorted l).length = l.length := by simp [sorted]
theorem mem_sorted (l : List Int) (x : Int) : x ∈ sorted l ↔ x ∈ l := by simp [sorted, List.mem_mergeSort]

theorem mergeStep_length (f o s r : Int) (out : List (Int × Int)) (p : Int) : (mergeStep f o s r out p).length ≤ out.length + 1 := by
  unfold mergeStep
  split
  · omega
  · split
    · simp <;> omega
    · simp

theorem rangeInfo : (Tryd.prog.info? 46).map (fun i => (i.zero, i.size, i.bytes)) = some (some (.agg #[.int .i64 0, .int .i64 0]), 2, 16) := by kernel_rfl

/-- The last element's second cell, read and written in place. -/
theorem own_last {W : World} {base g cap : Nat} {out : List (Int × Int)} (h : W.ownsRow base 46 2 (.slice (some ⟨g, 0, none⟩) out.length cap) out.length (flat out)) (h0 : 0 < out.length) :
    W.cell? ⟨g, 2 * (out.length - 1) + 1, none⟩ = some (.int .i64 (lastOf out).2) ∧ W.frozen? ⟨g, 2 * (out.length - 1) + 1, none⟩ = false ∧
      ∀ x : Int, (W.setCell ⟨g, 2 * (out.length - 1) + 1, none⟩ (.int .i64 x)).ownsRow base 46 2 (.slice (some ⟨g, 0, none⟩) out.length cap) out.length (flat (out.dropLast ++ [((lastOf out).1, x)])) := by
  obtain ⟨init, la, rfl⟩ : ∃ init la, out = init ++ [la] := ⟨out.dropLast, out.getLast (by intro e; simp [e] at h0), (List.dropLast_concat_getLast _).symm⟩
  have hl : lastOf (init ++ [la]) = la := by simp [lastOf, List.getLastD_eq_getLast?]
  rw [hl, List.dropLast_concat]
  rcases h.2 with ⟨hh, _⟩ | ⟨g', cap', cur, he, hb, hg, r1, r2, r3, r4⟩
  · cases hh
  · cases he
    have hlen : (init ++ [la]).length - 1 = init.length := by simp
    rw [hlen]
    have hfl := flat_length init
    have hcur : cur.toList.take ((init ++ [la]).length * 2) = flat init ++ [.int .i64 la.1, .int .i64 la.2] := by rw [r4, flat_append]; rfl
    have hsz : 2 * init.length + 1 < cur.size := by simp at r1; omega
    have hat : cur[2 * init.length + 1]? = some (.int .i64 la.2) := by
      have h1 : (cur.toList.take ((init ++ [la]).length * 2))[2 * init.length + 1]? = some (.int .i64 la.2) := by
        rw [hcur, List.getElem?_append_right (by omega), hfl, show 2 * init.length + 1 - 2 * init.length = 1 from by omega]
        rfl
      rw [List.getElem?_take, if_pos (by simp; omega)] at h1
      simpa using h1
    refine ⟨by simp [World.cell?, hg, hat], by simp [World.frozen?, hg], fun x => ⟨by rw [flat_length]; simp; omega, .inr ⟨g, cap, cur.setIfInBounds (2 * init.length + 1) (.int .i64 x), rfl, hb, blk_set hg _ _, r1, r2, by simp [r3], ?_⟩⟩⟩
    rw [Array.toList_setIfInBounds, List.take_set, hcur, flat_append, List.set_append_right _ _ (by omega), hfl, show 2 * init.length + 1 - 2 * init.length = 1 from by omega]
    rfl

theorem own_last' {W : World} {base g cap : Nat} {out : List (Int × Int)} (h : W.ownsRow base 46 2 (.slice (some ⟨g, 0, none⟩) out.length cap) out.length (flat out)) (h0 : 0 < out.length) :
    W.cell? ⟨g, (out.length - 1) * 2 + 1, none⟩ = some (.int .i64 (lastOf out).2) ∧ W.frozen? ⟨g, (out.length - 1) * 2 + 1, none⟩ = false ∧
      ∀ x : Int, (W.setCell ⟨g, (out.length - 1) * 2 + 1, none⟩ (.int .i64 x)).ownsRow base 46 2 (.slice (some ⟨g, 0, none⟩) out.length cap) out.length (flat (out.dropLast ++ [((lastOf out).1, x)])) := by
  rw [Nat.mul_comm (out.length - 1) 2]
  exact own_last h h0

/-- append of one range, at a builtin: in whatever world that holds what W with the range's own row holds. -/
theorem list_ranges {ops : Array Oper} {rest : List Oper} {o : Oper} {a : Act} {Q : Exit → Act → World → Prop} {w W : World} {lo hi : Int} (hg : o.guard = none) (s x : Operand)
    (hop : o.op = Op.call { callee := Callee.builtin Builtin.append, args := #[s, x], argTypes := #[40, 40] })
    (hw : w.heap = (W.alloc (.cells #[.int .i64 lo, .int .i64 hi] 46)).heap ∧ w.os = W.os ∧ w.tape = W.tape ∧ w.output = W.output)
    (base : Nat) (v : Value) (k : Nat) (xs : List Value) (hs : a.eval s = v) (hx : a.eval x = .slice (some ⟨W.heap.size, 0, none⟩) 1 1)
    (hown : W.ownsRow base 46 2 v k xs) (hb : base ≤ W.heap.size) (hk : k ≤ 1000)
    (hK : ∀ v' w', w'.ownsRow base 46 2 v' (k + 1) (xs ++ [.int .i64 lo, .int .i64 hi]) → W.grownBy w' v.ownBlock → wpList Tryd.prog ops Q rest (a.put o.dst v') w') :
    wpList Tryd.prog ops Q (o :: rest) a w := by
  obtain ⟨i0, hi0, hz0, hz1, hz2⟩ := info_parts rangeInfo
  have hown2 : w.ownsRow base 46 2 v k xs := by
    have := hown.alloc (.cells #[.int .i64 lo, .int .i64 hi] 46)
    refine ⟨this.1, ?_⟩
    rcases this.2 with h | ⟨g, cap, cur, rfl, hgg, r1, r2⟩
    · exact .inl h
    · exact .inr ⟨g, cap, cur, rfl, hgg, by rw [hw.1]; exact r1, r2⟩
  have hn := World.alloc_heap_new W (.cells #[.int .i64 lo, .int .i64 hi] 46)
  rw [← hw.1] at hn
  have hcells := two_cells (W := w) (g := W.heap.size) (a := .int .i64 lo) (b := .int .i64 hi) (by simp [World.cell?, hn]) (by simp [World.cell?, hn])
  have hsz : w.heap.size = W.heap.size + 1 := by rw [hw.1]; simp
  refine wpList_append_own w hg s x 40 hop base 46 i0 _ 2 16 Tryd.underlying40 hi0 hz0 hz1 hz2 rfl (by decide) v k xs hs hown2 ⟨W.heap.size, 0, none⟩ 1 1 [.int .i64 lo, .int .i64 hi] hx rfl hcells (by simp [Value.oneCell']) (by unfold maxLen; omega) (by omega) (by omega) ?_
  intro v' w' r1 r2 _
  refine hK v' w' r1 ⟨r2.os.trans hw.2.1, r2.tape.trans hw.2.2.1, r2.output.trans hw.2.2.2, by have := r2.size; omega, fun j hj hne => (r2.block j (by omega) hne).trans ?_⟩
  rw [hw.1]
  exact Below.heap_alloc W _ j hj

theorem sorted_form {W : World} {base n : Nat} {v : Value} {l : List Int} (h : W.ownsRow base 3 1 v n (l.map (Value.int .i64))) (h0 : 0 < n) :
    ∃ g cap, v = .slice (some ⟨g, 0, none⟩) n cap ∧ base ≤ g ∧ g < W.heap.size ∧ ∀ j, j < n → W.cell? ⟨g, j, none⟩ = some (.int .i64 (l[j]?.getD 0)) := by
  rcases h.2 with ⟨_, hh⟩ | ⟨g, cap, cur, rfl, hb, hg, r1, r2, r3, r4⟩
  · omega
  · have hl : l.length = n := by simpa using h.1
    refine ⟨g, cap, rfl, hb, (Array.getElem?_eq_some_iff.1 hg).1, fun j hj => ?_⟩
    have h1 : (cur.toList.take (n * 1))[j]? = some (.int .i64 (l[j]?.getD 0)) := by
      rw [r4, List.getElem?_map, List.getElem?_eq_getElem (by omega)]
      rfl
    rw [List.getElem?_take, if_pos (by omega)] at h1
    have h2 : cur[j]? = some (.int .i64 (l[j]?.getD 0)) := by simpa using h1
    simp only [World.cell?, hg]
    rw [h2]
    rfl

theorem foldl_take_succ {α β : Type} (g : β → α → β) (l : List α) (k : Nat) (h : k < l.length) (i : β) : (l.take (k + 1)).foldl g i = g ((l.take k).foldl g i) l[k] := by
  rw [List.take_succ_eq_append_getElem h, List.foldl_append]
  rfl

/-- Ranges that lie within the track. -/
def InT (f o : Int) (l : List (Int × Int)) : Prop := ∀ x ∈ l, f ≤ x.1 ∧ x.1 ≤ x.2 ∧ x.2 ≤ o
theorem InT.last {f o : Int} {l : List (Int × Int)} (h : InT f o l) (h0 : 0 < l.length) : f ≤ (lastOf l).1 ∧ (lastOf l).1 ≤ (lastOf l).2 ∧ (lastOf l).2 ≤ o := by
  have he : lastOf l = l.getLast (by intro e; simp [e] at h0) := by simp [lastOf, List.getLastD_eq_getLast?, List.getLast?_eq_some_getLast (by intro e; simp [e] at h0 : l ≠ [])]
  rw [he]
  exact h _ (List.getLast_mem _)
theorem InT.step {f o s r : Int} {l : List (Int × Int)} (h : InT f o l) (p : Int) : InT f o (mergeStep f o s r l p) := by
  unfold mergeStep
  split
  · exact h
  · split
    · rename_i h1 h2
      have hl := h.last h2.1
      intro x hx
      rcases List.mem_append.1 hx with hx | hx
      · exact h x (List.dropLast_subset l hx)
      · obtain rfl := List.mem_singleton.1 hx
        simp only
        omega
    · intro x hx
      rcases List.mem_append.1 hx with hx | hx
      · exact h x hx
      · obtain rfl := List.mem_singleton.1 hx
        simp only
        omega
theorem wrapI_small (x : Int) (h : -100000000 ≤ x ∧ x ≤ 100000000) : IntKind.i64.wrap x = x := by rw [IntKind.wrap_i64]; omega
theorem wrap64_small (x : Int) (h : -100000000 ≤ x ∧ x ≤ 100000000) : wrap64 x = x := by unfold wrap64; omega
theorem row_form {W : World} {base n : Nat} {v : Value} {e : TypeId} {sz : Nat} {xs : List Value} (h : W.ownsRow base e sz v n xs) : ∃ q c, v = .slice q n c ∧ (0 < n → ∃ g, q = some ⟨g, 0, none⟩ ∧ base ≤ g ∧ g < W.heap.size) := by
  rcases h.2 with ⟨rfl, rfl⟩ | ⟨g, cap, cur, rfl, hb, hg, _⟩
  · exact ⟨none, 0, rfl, fun h => absurd h (by omega)⟩
  · exact ⟨_, _, rfl, fun _ => ⟨g, rfl, hb, (Array.getElem?_eq_some_iff.1 hg).1⟩⟩
end Go.Proofs.YtbhbabimfkiibaaDoor
