/- The row of the law TopScannedAnew: for every track, every list of readings and every cut the law returns true, and its arguments read as they did; the two listed variables hold what the program's text lays in them. -/
import Derived.Test.YtbhbabimfkiibaaDoorRows
import Derived.Test.YtbhbabimfkiibaaDoorCd
import Derived.WalkKit
import Derived.ProofKit
import Derived.LaidMore
import Derived.OpenShut
import Derived.Stop.Joined
import Derived.ShutString
import Derived.ChangeOld
import Derived.Below
import Derived.SizedLaws
import Derived.Lib.SmallJoins
namespace Go.Proofs.YtbhbabimfkiibaaDoor.Anew
open Go.ChangeShapes Go.WideShapes Go.ChangeAt Go.RowKit Go.Joins
open Go.ChangeMaps (open_string shut_string)
set_option linter.unusedVariables false

theorem own : ownKnob Tryd.prog.godebug = none := by kernel_rfl
theorem laidOut : laidOutB Tryd.prog = true := by kernel_rfl
theorem gBegin : Tryd.prog.globalNamed "couplant/cover.begin" = some 0 := by kernel_rfl
theorem gEnd : Tryd.prog.globalNamed "couplant/cover.end" = some 1 := by kernel_rfl
theorem tBegin : (Tryd.prog.globals[0]?).map (·.type) = some 49 := by kernel_rfl
theorem tEnd : (Tryd.prog.globals[1]?).map (·.type) = some 49 := by kernel_rfl
theorem cellsP : Tryd.prog.cellsOf 49 = 2 := by kernel_rfl
theorem cellsI : Tryd.prog.cellsOf 3 = 1 := by kernel_rfl
theorem cellsT : Tryd.prog.cellsOf 23 = 4 := by kernel_rfl

/-- What is listed. -/
abbrev laid2 {H : Type} : List (String × DataW H) := [("couplant/cover.begin", Rows.laid_couplant_cover_begin), ("couplant/cover.end", Rows.laid_couplant_cover_end)]

theorem door_met (os : Os) (args : Array Value) : laidMetH Tryd.prog laid2 ((World.doorLaid Tryd.prog 19 os).forCall (fun _ _ => 0) ⟨#[], args, []⟩).memory :=
  laidMetH_of_parts3 (fuel := 8) (laidMet_of_run' 8 (by kernel_rfl) (by kernel_rfl)) (by kernel_rfl) (by kernel_rfl)

set_option maxRecDepth 100000 in
/-- Two numbers in a variable of two cells. -/
theorem two_of {H : Type} {enc : TypeId × Value → H} {W : World} {sp : Nat → Bool} {held : Bool} {fuel : Nat} {cs : Array Value} {a b : Int} {p : List MemPlace}
    (h : DataW.trod enc Tryd.prog W 0 sp held fuel 49 cs.toList = some (.agg [.lit (.int .i64 a), .lit (.int .i64 b)], p)) : cs = #[.int .i64 a, .int .i64 b] := by
  obtain ⟨y0, y1, n, hx, hl, h0, h1⟩ := trod_struct2 Tryd.underlying49 h
  rw [cellsP] at hl
  have hsz : cs.size = 2 := by simpa using hl
  obtain ⟨c0, c1, rfl⟩ := array2 hsz
  simp only [cellsI] at h0 h1
  have h0' : DataW.trod enc Tryd.prog W 0 sp held n 3 [c0] = some y0 := h0
  have h1' : DataW.trod enc Tryd.prog W 0 sp held n 3 [c1] = some y1 := h1
  obtain ⟨k0, e0, d0, _⟩ := DataW.trod_int Tryd.underlying3 h0'
  obtain ⟨k1, e1, d1, _⟩ := DataW.trod_int Tryd.underlying3 h1'
  rw [d0, d1] at hx
  simp at hx e0 e1
  obtain ⟨⟨ha, hb⟩, _⟩ := hx
  subst ha hb e0 e1
  rfl

theorem of_laid {W : World} (h : laidMetH Tryd.prog laid2 W) : Ends W := by
  rw [MakeChecks.laidMetH_plain _ _ _ (by kernel_rfl)] at h
  obtain ⟨ps, ⟨g0, t0, cs0, f0, p0, q0, hg0, ht0, hv0, hd0, ⟨g1, t1, cs1, f1, p1, q1, hg1, ht1, hv1, hd1, _, _⟩, _⟩, _, _⟩ := h
  obtain rfl := Option.some.inj (gBegin.symm.trans hg0)
  obtain rfl := Option.some.inj (gEnd.symm.trans hg1)
  obtain rfl := Option.some.inj (tBegin.symm.trans ht0)
  obtain rfl := Option.some.inj (tEnd.symm.trans ht1)
  obtain rfl := two_of (a := 0) (b := 1) hd0
  obtain rfl := two_of (a := 1) (b := 1) hd1
  have a0 := World.var?_cell hg0 hv0 0
  have a1 := World.var?_cell hg0 hv0 1
  have b0 := World.var?_cell hg1 hv1 0
  have b1 := World.var?_cell hg1 hv1 1
  simp at a0 a1 b0 b1
  exact ⟨a0, a1, b0, b1⟩

set_option maxRecDepth 100000 in
theorem lifted (os : Os) (started : os.Started) (H : Type) (enc : TypeId × Value → H) :
    ReturnsInHanded {} Tryd.checked os 3 .any (fun w args => (Rows.topScannedAnewSpec.pre enc Tryd.prog Tryd.f3 [] false w args ∧ laidMetH Tryd.prog laid2 w) ∧ sizedMet enc Tryd.prog Tryd.f3 (OpenSpec.ofChange Rows.topScannedAnewSpec) false w args)
      (Rows.topScannedAnewSpec.post enc Tryd.prog Tryd.f3 false true false false) := by
  refine returnsInHanded_of_change_and (C := Tryd.checked) (X := fun w _ => laidMetH Tryd.prog laid2 w) (fun _ _ _ hh h => h.of_heap hh) own started (by kernel_rfl) Tryd.func3
    (ChangeSpec.witness_shaped (enc := enc) (C := Tryd.checked) (os := os) (X := fun w _ => laidMetH Tryd.prog laid2 w) false (World.doorLaid Tryd.prog 19 os) #[.agg #[.int .i64 0, .int .i64 0, .int .i64 0, .int .i64 0], .slice none 0 0, .int .i64 0] 8 rfl (World.shaped_of_RefB (by kernel_rfl) (by kernel_rfl)) (by kernel_rfl) (by kernel_rfl) (by kernel_rfl) (door_met os _)) ?_
  intro W base args ds gs before hval0 hW _ _ hL _
  have hval : ∀ (j : Nat) t v, Tryd.f3.params[j]? = some t → args[j]? = some v → Value.okWide Tryd.prog W .any base t v := hval0
  have hW' := hW
  obtain ⟨p, q, hA0, hV, rfl, hfz, hnd⟩ := hW
  have hA : DataW.TrodAll enc Tryd.prog W 0 (fun _ => true) true Tryd.f3.params.toList args.toList ds p := hA0
  rw [Tryd.params3] at hA hval
  obtain ⟨v0, v1, v2, d0, d1, d2, p0, p1, p2, rfl, rfl, rfl, h0, h1, h2⟩ := trodAll_three hA
  obtain ⟨rfl, rfl⟩ := trodVars_none hV
  have k0 := h0
  have k1 := h1
  have lt0 : ∀ x ∈ p0, x.block < W.heap.size := by obtain ⟨m, hm⟩ := k0; exact DataW.trod_lt m _ _ _ hm
  have lt1 : ∀ x ∈ p1, x.block < W.heap.size := by obtain ⟨m, hm⟩ := k1; exact DataW.trod_lt m _ _ _ hm
  obtain ⟨c0, c1, c2, c3, y0, y1, y2, y3, m, rfl, _, _, e0, e1, e2, e3⟩ := open_agg4 Tryd.underlying23 (by kernel_rfl) cellsT (hval 0 23 v0 rfl rfl) h0
  obtain ⟨f, hf, _, _⟩ := DataW.trod_int Tryd.underlying3 (show DataW.trod _ Tryd.prog W 0 _ _ m 3 [c0] = some y0 from e0)
  obtain ⟨o, ho, _, _⟩ := DataW.trod_int Tryd.underlying3 (show DataW.trod _ Tryd.prog W 0 _ _ m 3 [c1] = some y1 from e1)
  obtain ⟨s, hs, _, _⟩ := DataW.trod_int Tryd.underlying3 (show DataW.trod _ Tryd.prog W 0 _ _ m 3 [c2] = some y2 from e2)
  obtain ⟨r, hr, _, _⟩ := DataW.trod_int Tryd.underlying3 (show DataW.trod _ Tryd.prog W 0 _ _ m 3 [c3] = some y3 from e3)
  simp at hf ho hs hr
  subst hf ho hs hr
  obtain ⟨a1, len1, cap1, rfl⟩ := okWide_slice Tryd.underlying24 (hval 1 24 v1 rfl rfl)
  obtain ⟨zs, hzl, hR⟩ : ∃ zs : List Int, zs.length = len1 ∧ RI W (.slice a1 len1 cap1) zs := by
    obtain ⟨fuel, hff⟩ := h1
    rcases open_ints Tryd.underlying24 Tryd.underlying3 (by kernel_rfl) hff with ⟨hcs, _⟩ | ⟨x, l, c, zs, hcs, hlt, hl, hm, hz, _, hcell, hwz⟩
    · simp [Value.cells] at hcs
      obtain ⟨rfl, rfl, rfl⟩ := hcs
      exact ⟨[], rfl, .inl ⟨⟨_, _, rfl⟩, rfl⟩⟩
    · simp [Value.cells] at hcs
      obtain ⟨rfl, rfl, rfl⟩ := hcs
      have hzc : zs.length = cap1 := by simpa using hz
      by_cases hl0 : len1 = 0
      · subst hl0
        exact ⟨[], rfl, .inl ⟨⟨_, _, rfl⟩, rfl⟩⟩
      · obtain ⟨b, off, rfl, hc⟩ := ints_at hcell (by omega)
        have hlt1 : (zs.take len1).length = len1 := by simp; omega
        refine ⟨zs.take len1, hlt1, .inr ⟨b, off, cap1, by rw [hlt1], by omega, World.block_lt_of_cell? W _ (hc 0 (by omega)), fun j hj => ?_⟩⟩
        have hj2 : j < len1 := by omega
        rw [List.getElem?_take, if_pos hj2, ← List.getD_eq_getElem?_getD]
        exact hc j (by omega)
  subst hzl
  obtain ⟨cut, rfl, rfl, rfl, wc⟩ := open_int Tryd.underlying3 (hval 2 3 v2 rfl rfl) h2
  have hE := of_laid hL
  clear hA0 hval0
  refine (law_any f o s r zs a1 cap1 cut W hE hR).mono fun e W' ⟨he, bel⟩ => ?_
  subst he
  exact ⟨_, rfl, _, _, _, [], _, [], hW', trodAll_mk1 (shut_bool Tryd.underlying4 _),
    trodAll_mk3 (Below.trod laidOut (by kernel_rfl) (of_decide_eq_true (by kernel_rfl)) k0 bel lt0) (Below.trod laidOut (by kernel_rfl) (of_decide_eq_true (by kernel_rfl)) k1 bel lt1) (shut_int Tryd.underlying3 wc), rfl, bel.frame _, fun h => by cases h⟩

theorem over : Rows.topScannedAnewRow.holds Tryd.pinned (OpenSpec.ofChange Rows.topScannedAnewSpec) :=
  OpenClaim.holds_of_wide 3 Tryd.f3 rfl rfl rfl rfl rfl rfl rfl ⟨rfl, rfl, rfl, rfl, rfl⟩ rfl rfl rfl rfl rfl (by kernel_rfl) Tryd.func3 (by kernel_rfl)
    (of_decide_eq_true (by kernel_rfl)) (by unfold Func.isWrapper; first | (rw [if_pos (by decide +kernel)]; kernel_rfl) | (rw [if_neg (by decide +kernel)]; exact ⟨rfl, rfl⟩))
    (fun os started H enc _ => lifted os started H enc)
end Go.Proofs.YtbhbabimfkiibaaDoor.Anew
