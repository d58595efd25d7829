/- The examples of chapter 7 are so. -/
import Derived.Test.YtbhbabimfkiibaaDoorBe
import Derived.Test.YtbhbabimfkiibaaDoorAs
namespace Go.Proofs.YtbhbabimfkiibaaDoor
open Go.RowKit Go.Shelf Go.Proofs.YtbhbabimfkiibaaDoorW.PrintWords Go.Proofs.YtbhbabimfkiibaaDoorW.PrintLast Go.Proofs.YtbhbabimfkiibaaDoorW.PrintMore PTopScannedAnew
set_option linter.unusedVariables false
set_option linter.unusedSimpArgs false

def toS (x : Int × Int) : S46 := ⟨x.1, x.2⟩
theorem C_of_cells {W : World} {g : Nat} {L : List (Int × Int)} (hl : L.length ≤ 1000000) (h : ∀ k, k < L.length → W.cell? ⟨g, k * 2, none⟩ = some (.int .i64 (L[k]?.getD (0, 0)).1) ∧ W.cell? ⟨g, k * 2 + 1, none⟩ = some (.int .i64 (L[k]?.getD (0, 0)).2)) :
    Kd.C k46 W (some ⟨g, 0, none⟩) (L.map toS).length (L.map toS) := by
  refine ⟨rfl, by rw [List.length_map]; omega, fun _ => ⟨_, rfl, ?_⟩⟩
  intro j p hp
  rw [List.getElem?_map] at hp
  obtain ⟨x, hx, rfl⟩ := Option.map_eq_some_iff.1 hp
  have hj : j < L.length := (List.getElem?_eq_some_iff.1 hx).1
  obtain ⟨h1, h2⟩ := h j hj
  rw [hx] at h1 h2
  refine ⟨[.int .i64 x.1, .int .i64 x.2], rfl, k46_mk W (toS x), ?_⟩
  intro i u hu
  have ha : (⟨g, 0, none⟩ : Addr).add (j * 2 + i) = ⟨g, j * 2 + i, none⟩ := add_plain g _
  show W.cell? ((⟨g, 0, none⟩ : Addr).add (j * 2 + i)) = _
  rw [ha]
  match i, hu with
  | 0, hu => cases hu; exact h1
  | 1, hu => cases hu; exact h2
  | i + 2, hu => simp at hu

theorem ranges_C {W : World} {base : Nat} {v : Value} {L : List (Int × Int)} (hl : L.length ≤ 1000000) (h : W.ownsRow base 46 2 v L.length (flat L)) :
    ∃ A c, v = .slice A (L.map toS).length c ∧ (L.map toS).length ≤ c ∧ Kd.C k46 W A (L.map toS).length (L.map toS) := by
  by_cases h0 : 0 < L.length
  · obtain ⟨g, cap, rfl, _, _, hc⟩ := own_cells h h0
    refine ⟨some ⟨g, 0, none⟩, cap, by rw [List.length_map], ?_, C_of_cells hl hc⟩
    rcases h.2 with ⟨hh, _⟩ | ⟨g', cap', cur, he, hb, hg, r1, r2, r3, r4⟩
    · cases hh
    · cases he
      rw [List.length_map]
      omega
  · obtain rfl : L = [] := List.eq_nil_of_length_eq_zero (by omega)
    obtain ⟨q, c, rfl, _⟩ := row_form h
    exact ⟨q, c, rfl, by simp, rfl, by simp, fun h => absurd h (by simp)⟩

theorem Ranges_same (l : List S46) (hl : l.length ≤ 1000000) : couplantbase_Ranges.f (l.length + 1) l l = some true := by
  have key : ∀ (d k : Nat) (i : Nat), i + d = l.length → d < k → couplantbase_Ranges.l0 k l l (i : Int) = some true := by
    intro d
    induction d with
    | zero =>
      intro k i h hk
      obtain ⟨k, rfl⟩ : ∃ m, k = m + 1 := ⟨k - 1, by omega⟩
      simp only [couplantbase_Ranges.l0]
      rw [if_neg (by omega)]
    | succ d ih =>
      intro k i h hk
      obtain ⟨k, rfl⟩ : ∃ m, k = m + 1 := ⟨k - 1, by omega⟩
      have hw : wrap64 ((i : Int) + 1) = ((i + 1 : Nat) : Int) := by unfold wrap64; omega
      simp only [couplantbase_Ranges.l0]
      rw [if_pos (by omega), if_pos (by omega), if_pos (by omega), hw]
      rw [if_neg (by simp)]
      exact ih k (i + 1) (by omega) (by omega)
  unfold couplantbase_Ranges.f
  rw [if_pos rfl]
  exact key l.length _ 0 (by omega) (by omega)

theorem direct_at (w : World) : Calls Tryd.prog 15 #[] w fun e w' => e = .returned (.agg setupA) ∧ Below w.heap.size w w' :=
  couplantlaw07_Direct.calls ⟨#[97]⟩ (-1000) 1 1 0 1 3 1 1 1 w rfl

theorem sorted_example : sorted [38, 20] = [20, 38] := by
  simp [sorted, List.mergeSort, List.MergeSort.Internal.splitInTwo, List.merge]
theorem anew_example : anewOf 0 100 2 10 [38, 20] = [(0, 11), (29, 29), (47, 100)] := by
  unfold anewOf scannedOf
  rw [sorted_example]
  decide +kernel

set_option maxRecDepth 100000 in
set_option maxHeartbeats 4000000 in
theorem covering_at (w : World) (hE : Ends w) :
    Calls Tryd.prog 4 #[] w fun e w' => e = .returned (.bool true) ∧ Below w.heap.size w w' := by
  have HE := Aside0.mk hE
  clear hE
  have he : ∀ w, Sem.run Tryd.prog (binOp BinOp.eql 51 (.agg #[.int .i64 0, .int .i64 1, .int .i64 1, .int .i64 2]) (.agg #[.int .i64 0, .int .i64 1, .int .i64 1, .int .i64 2])) w = .ok (Value.bool true) w := fun _ => by kernel_rfl
  go_enter Tryd.func4, Tryd.ntmps4
  go_wp2_with fail
  refine (slant_at _).mono ?_
  rintro e w1 ⟨g, rfl, hk, hb1⟩
  have HK := Aside0.mk hk
  have HB1 := Aside0.mk hb1
  clear hk hb1
  go_wp2_with fail
  refine (direct_at _).mono ?_
  rintro e w2 ⟨rfl, hb2⟩
  have HB2 := Aside0.mk hb2
  clear hb2
  go_wp2_with fail
  refine (PartOf_at g _ (HK.out.below HB2.out HK.out.lt) (HE.out.below (below_step HB1.out HB2.out))).mono ?_
  rintro e w3 ⟨rfl, hb3⟩
  have HB3 := Aside0.mk (below_step (below_step HB1.out HB2.out) hb3)
  clear hb3
  go_wp2_with fail
  have hI : Ints ((w3.alloc (.cells #[.int .i64 0, .int .i64 1, .int .i64 1, .int .i64 2] 51)).alloc (.cells #[.int .i64 38, .int .i64 20] 3)).heap.size ((w3.alloc (.cells #[.int .i64 0, .int .i64 1, .int .i64 1, .int .i64 2] 51)).alloc (.cells #[.int .i64 38, .int .i64 20] 3)) (.slice (some ⟨w3.heap.size + 1, 0, none⟩) 2 2) [38, 20] := by
    refine .inr ⟨w3.heap.size + 1, 0, 2, rfl, by simp, fun j hj => ?_⟩
    have hb := Blk.new2 w3 3 #[.int .i64 38, .int .i64 20] (.cells #[.int .i64 0, .int .i64 1, .int .i64 1, .int .i64 2] 51)
    rw [Nat.zero_add]
    match j, hj with
    | 0, _ => exact hb.cell 0
    | 1, _ => exact hb.cell 1
  refine (Anew_any 0 100 2 10 (by decide) (by decide) (by decide) (by decide) (by decide) [38, 20] (by decide) (by decide) _ _ hI).mono ?_
  rintro e w4 ⟨v4, rfl, hrow, hb4⟩
  rw [anew_example] at hrow
  have kp := (show Blk ((w3.alloc (.cells #[.int .i64 0, .int .i64 1, .int .i64 1, .int .i64 2] 51)).alloc (.cells #[.int .i64 38, .int .i64 20] 3)) w3.heap.size 51 _ from Blk.new1 w3 _ _ _).below hb4 (by simp <;> omega)
  have c0 := kp.cell 0
  have c1 := kp.cell 1
  have c2 := kp.cell 2
  have c3 := kp.cell 3
  simp at c0 c1 c2 c3
  have HB4 := Aside0.mk (below_step HB3.out (below_step (show Below w3.heap.size w3 _ from below_alloc (below_alloc (Below.refl _ _) _) _) hb4))
  obtain ⟨A4, cp4, rfl, hc4, hC4⟩ := ranges_C (L := [(0, 11), (29, 29), (47, 100)]) (by decide) hrow
  have HC4 := Aside0.mk hC4
  clear kp hrow hb4 hI hC4
  go_wp2_with fail
  obtain ⟨W, hW⟩ : ∃ W, w4.alloc (.cells #[.int .i64 0, .int .i64 11, .int .i64 29, .int .i64 29, .int .i64 47, .int .i64 100] 46) = W := ⟨_, rfl⟩
  have hbW : Below w4.heap.size w4 W := by rw [← hW]; exact below_alloc (Below.refl _ _) _
  have hF : Blk W w4.heap.size 46 #[.int .i64 0, .int .i64 11, .int .i64 29, .int .i64 29, .int .i64 47, .int .i64 100] := by rw [← hW]; exact World.alloc_heap_new w4 _
  have hC2 : Kd.C k46 W (some ⟨w4.heap.size, 0, none⟩) 3 ([(0, 11), (29, 29), (47, 100)].map toS) := C_of_cells (L := [(0, 11), (29, 29), (47, 100)]) (by decide) (fun k hk => by
    match k, hk with
    | 0, _ => exact ⟨hF.cell 0, hF.cell 1⟩
    | 1, _ => exact ⟨hF.cell 2, hF.cell 3⟩
    | 2, _ => exact ⟨hF.cell 4, hF.cell 5⟩)
  have hrs := couplantbase_Ranges.calls 4 A4 cp4 ([(0, 11), (29, 29), (47, 100)].map toS) (some ⟨w4.heap.size, 0, none⟩) 3 ([(0, 11), (29, 29), (47, 100)].map toS) true W (Kd.C_below HC4.out hbW) hc4 hC2 (by decide) (Ranges_same _ (by decide))
  rw [hW]
  refine hrs.mono ?_
  rintro e w5 ⟨rfl, ⟨⟨m, rfl⟩⟩⟩
  have HBW := Aside0.mk (below_step HB4.out hbW)
  clear hrs hC2 hF hbW hW
  go_wp2_with fail
  go_ret
  exact ⟨rfl, by repeat (first | exact HBW.out | apply pw_below_drewN)⟩
end Go.Proofs.YtbhbabimfkiibaaDoor
