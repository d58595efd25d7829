/- openTrack at right tracks and readings. -/
import Derived.Test.YtbhbabimfkiibaaDoorAo
namespace Go.Proofs.YtbhbabimfkiibaaDoor
open Go.RowKit Go.Shelf Go.Proofs.YtbhbabimfkiibaaDoorW.PrintWords Go.Proofs.YtbhbabimfkiibaaDoorW.PrintLast Go.Proofs.YtbhbabimfkiibaaDoorW.PrintMore PTopScannedAnew
set_option linter.unusedVariables false
set_option linter.unusedSimpArgs false

set_option maxRecDepth 100000 in
set_option maxHeartbeats 4000000 in
theorem openTrack_some (f o s r : Int) (hf : 0 ≤ f ∧ f ≤ 1000000) (ho : 0 ≤ o ∧ o ≤ 1000000) (hs : 0 ≤ s ∧ s ≤ 1000000) (hr : 0 ≤ r ∧ r ≤ 1000000) (hfo : f ≤ o)
    (zs : List Int) (hz : ∀ x ∈ zs, -2000000 ≤ x ∧ x ≤ 2000000) (hzl : zs.length ≤ 200) (hz0 : 0 < zs.length) (b off cap : Nat) (w : World) (hb : b < w.heap.size) (hc : ∀ j, j < zs.length → w.cell? ⟨b, off + j, none⟩ = some (.int .i64 (zs[j]?.getD 0))) :
    Calls Tryd.prog 23 #[.agg #[.int .i64 f, .int .i64 o, .int .i64 s, .int .i64 r], .slice (some ⟨b, off, none⟩) zs.length cap] w fun e w' =>
      ∃ v, e = .returned (.tuple #[v, .int .i64 0]) ∧ w'.ownsRow w.heap.size 46 2 v (scannedOf f o s r zs).length (flat (scannedOf f o s r zs)) ∧ Below w.heap.size w w' := by
  have hsm : ∀ (x : Int) w, -2000000 ≤ x ∧ x ≤ 2000000 → Calls Tryd.prog 34 #[.int .i64 x, .int .i64 2000000] w fun e w' => e = .returned (.bool true) ∧ Drawn0 w w' := fun x w hx => cover_small.calls x 2000000 true w (by simp [cover_small.f, cover_within.f, wrap64, hx])
  have HSM := Lib.hid hsm
  have hct := fun w => CheckTrack_ok f o s r hf ho hs hr hfo w
  have HCT := Lib.hid hct
  have HC := Aside0.mk hc
  have HZ := Aside0.mk hz
  clear hsm hct hc hz
  go_enter Tryd.func23, Tryd.ntmps23
  go_wp2_with (go_at_call 33; refine (HCT.out _).mono ?_; rintro e w1 ⟨rfl, hb1⟩)
  have B0 : Below w.heap.size w w1 := ((Below.refl _ w).alloc (Nat.le_refl _) _).trans (hb1.mono (by simp))
  have hz1 : w.heap.size + 1 ≤ w1.heap.size := by have := hb1.size; simp at this; omega
  have c0 : w1.cell? ⟨w.heap.size, 0, none⟩ = some (.int .i64 f) := (hb1.cell (p := ⟨w.heap.size, 0, none⟩) (by simp)).trans (by simp)
  have c1 : w1.cell? ⟨w.heap.size, 1, none⟩ = some (.int .i64 o) := (hb1.cell (p := ⟨w.heap.size, 1, none⟩) (by simp)).trans (by simp)
  have c2 : w1.cell? ⟨w.heap.size, 2, none⟩ = some (.int .i64 s) := (hb1.cell (p := ⟨w.heap.size, 2, none⟩) (by simp)).trans (by simp)
  have c3 : w1.cell? ⟨w.heap.size, 3, none⟩ = some (.int .i64 r) := (hb1.cell (p := ⟨w.heap.size, 3, none⟩) (by simp)).trans (by simp)
  have HB0 := Aside0.mk B0
  have hrd : ∀ j, j < zs.length → w1.cell? ⟨b, off + j, none⟩ = some (.int .i64 (zs[j]?.getD 0)) := fun j hj => (B0.cell (p := ⟨b, off + j, none⟩) hb).trans (HC.out j hj)
  have HRD := Aside0.mk hrd
  clear B0 hb1 hrd HC
  obtain ⟨i0, hi, hzv, hsv, hbv⟩ := info_parts rangeInfo
  have hzl' : ¬ (200 : Int) < (zs.length : Int) := by omega
  go_wp2_with fail
  go_loopw [25] (fun i wr => ∃ (k m : Nat), k ≤ zs.length ∧ i = .int .i64 k ∧ wr = w1.drewN m) (fun i _ => zs.length - (intOf i).toNat)
  case atStart => exact ⟨0, 0, by omega, rfl, rfl⟩
  case round =>
    obtain ⟨k, m, hk, rfl, rfl⟩ := hrel
    by_cases hlt : k < zs.length
    · have hcell := HRD.out k hlt
      have hzz := HZ.out (zs[k]?.getD 0) (by rw [List.getElem?_eq_getElem hlt]; exact List.getElem_mem hlt)
      obtain ⟨x, hx⟩ : ∃ x, zs[k]?.getD 0 = x := ⟨_, rfl⟩
      rw [hx] at hcell hzz
      go_wp2_with (go_at_call 34; refine (HSM.out _ _ hzz).mono ?_; rintro e w' ⟨rfl, ⟨⟨m1, rfl⟩⟩⟩)
      go_roundw
      case rel => exact ⟨k + 1, m + m1, by omega, by go_num, by simp⟩
      case measure => simp [intOf]; omega
    · have hcv := fun w => (callsIn_wide (n := 5)).1 (values_in Fence.wide 5 trivial rfl (some ⟨b, off, none⟩) zs.length cap w)
      obtain ⟨W2, hW2⟩ : ∃ W2, (w1.alloc (.cells #[.slice (some ⟨b, off, none⟩) zs.length cap] 24)).drewN m = W2 := ⟨_, rfl⟩
      have hb12 : Below w1.heap.size w1 W2 := by rw [← hW2]; exact below_drewN ((Below.refl _ w1).alloc (Nat.le_refl _) _) m
      have hz2 : W2.heap.size = w1.heap.size + 1 := by rw [← hW2]; simp
      have hbx : W2.cell? ⟨w1.heap.size, 0, none⟩ = some (.slice (some ⟨b, off, none⟩) zs.length cap) := by rw [← hW2]; simp
      have hI : Ints W2.heap.size W2 (.slice (some ⟨b, off, none⟩) zs.length cap) zs := .inr ⟨b, off, cap, rfl, by omega, fun j hj => (hb12.cell (p := ⟨b, off + j, none⟩) (by simp; omega)).trans (HRD.out j hj)⟩
      have hsc := Sorted_calls w1.heap.size _ zs (by omega) W2 (by omega) hbx hI
      have d0 := (hb12.cell (p := ⟨w.heap.size, 0, none⟩) (by simp; omega)).trans c0
      have d1 := (hb12.cell (p := ⟨w.heap.size, 1, none⟩) (by simp; omega)).trans c1
      have d2 := (hb12.cell (p := ⟨w.heap.size, 2, none⟩) (by simp; omega)).trans c2
      have d3 := (hb12.cell (p := ⟨w.heap.size, 3, none⟩) (by simp; omega)).trans c3
      have B2 := HB0.out.trans (hb12.mono (by omega))
      clear c0 c1 c2 c3 hI hbx HRD HCT
      go_wp2_with (first
        | (go_at_call 36; refine (hcv _).mono ?_; rintro e w' ⟨rfl, rfl⟩)
        | (go_at_call 35; rw [show ((w1.drewN m).alloc (.cells #[.slice (some ⟨b, off, none⟩) zs.length cap] 24)) = W2 from hW2]; refine hsc.mono ?_; rintro e W3 ⟨v, rfl, hrow, hb3⟩; obtain ⟨g, cs, rfl, hg1, hg2, hcells⟩ := sorted_form hrow hz0))
      have e0 := (hb3.cell (p := ⟨w.heap.size, 0, none⟩) (by simp; omega)).trans d0
      have e1 := (hb3.cell (p := ⟨w.heap.size, 1, none⟩) (by simp; omega)).trans d1
      have e2 := (hb3.cell (p := ⟨w.heap.size, 2, none⟩) (by simp; omega)).trans d2
      have e3 := (hb3.cell (p := ⟨w.heap.size, 3, none⟩) (by simp; omega)).trans d3
      have HB3 := Aside0.mk (B2.trans (hb3.mono (by omega)))
      have hz3 : w.heap.size < W3.heap.size := by have := hb3.size; omega
      have HCL := Aside0.mk hcells
      clear d0 d1 d2 d3 B2 hb3 hcells hrow hsc hcv
      go_loopw [10, 38] (fun v i wr => ∃ (k : Nat) (out : List (Int × Int)), k ≤ zs.length ∧ i = .int .i64 k ∧ Aside0 (out = ((sorted zs).take k).foldl (mergeStep f o s r) [] ∧ out.length ≤ k ∧ InT f o out) ∧ Aside0 (wr.ownsRow W3.heap.size 46 2 v out.length (flat out)) ∧ Aside0 (Below W3.heap.size W3 wr)) (fun _ i _ => zs.length - (intOf i).toNat)
      case atStart => exact ⟨0, [], by omega, rfl, ⟨rfl, by simp, fun x hx => by simp at hx⟩, ⟨World.ownsRow_nil _ _ _ _⟩, ⟨Below.refl _ _⟩⟩
      case round =>
        obtain ⟨k2, out, hk2, rfl, HOUT, HOWN, HBW⟩ := hrel
        by_cases hlt2 : k2 < zs.length
        · have hcell := (HBW.out.cell (p := ⟨g, k2, none⟩) hg2).trans (HCL.out k2 hlt2)
          have hkl : k2 < (sorted zs).length := by rw [sorted_length]; exact hlt2
          have hpz := HZ.out (sorted zs)[k2] ((mem_sorted _ _).1 (List.getElem_mem hkl))
          obtain ⟨p, hp⟩ : ∃ p, (sorted zs)[k2] = p := ⟨_, rfl⟩
          have hp2 : (sorted zs)[k2]?.getD 0 = p := by rw [List.getElem?_eq_getElem hkl, hp]; rfl
          have hstep : ((sorted zs).take (k2 + 1)).foldl (mergeStep f o s r) [] = mergeStep f o s r out p := by rw [foldl_take_succ _ _ _ hkl, hp, HOUT.out.1]
          have HSTEP := Aside0.mk hstep
          rw [hp2] at hcell
          rw [hp] at hpz
          clear hp hp2 hstep hkl
          have x0 := (HBW.out.cell (p := ⟨w.heap.size, 0, none⟩) (by simp; omega)).trans e0
          have x1 := (HBW.out.cell (p := ⟨w.heap.size, 1, none⟩) (by simp; omega)).trans e1
          have x2 := (HBW.out.cell (p := ⟨w.heap.size, 2, none⟩) (by simp; omega)).trans e2
          have x3 := (HBW.out.cell (p := ⟨w.heap.size, 3, none⟩) (by simp; omega)).trans e3
          clear e0 e1 e2 e3 HCL
          have w1' : wrap64 (p + s) = p + s := by unfold wrap64; omega
          have w2' : wrap64 (p + s - r) = p + s - r := by unfold wrap64; omega
          have w3' : wrap64 (p - s) = p - s := by unfold wrap64; omega
          have w4' : wrap64 (p - s + r) = p - s + r := by unfold wrap64; omega
          have hin2 : InT f o (mergeStep f o s r out p) := HOUT.out.2.2.step p
          have hl2 : (mergeStep f o s r out p).length ≤ k2 + 1 := by have := mergeStep_length f o s r out p; have := HOUT.out.2.1; omega
          have HIN2 := Aside0.mk hin2
          have HL2 := Aside0.mk hl2
          clear hin2 hl2
          obtain ⟨q, cq, rfl, hq⟩ := row_form HOWN.out
          have hnl : out.length ≤ 200 := by have := HOUT.out.2.1; omega
          by_cases hgt : min o (p - s + r) < max f (p + s - r)
          · have he : mergeStep f o s r out p = out := by unfold mergeStep; rw [if_pos hgt]
            have HE := Aside0.mk he
            clear he
            go_wp2_with fail
            go_roundw
            case rel => exact ⟨k2 + 1, out, by omega, by go_num, ⟨by rw [HSTEP.out, HE.out], by have := HOUT.out.2.1; omega, HOUT.out.2.2⟩, ⟨HOWN.out.alloc _⟩, ⟨HBW.out.alloc HBW.out.size _⟩⟩
            case measure => simp [intOf]; omega
          · have HGT := Aside0.mk hgt
            by_cases hn : 0 < out.length
            · obtain ⟨g2, rfl, hg2b, hg2l⟩ := hq hn
              have hla := HOUT.out.2.2.last hn
              obtain ⟨a1, a2, a3⟩ := own_last' HOWN.out hn
              obtain ⟨n', hn'⟩ : ∃ n', out.length = n' + 1 := ⟨out.length - 1, by omega⟩
              have a3' : ∀ (oo : Obj) (x : Int), ((wr.alloc oo).setCell ⟨g2, n' * 2 + 1, none⟩ (.int .i64 x)).ownsRow W3.heap.size 46 2 (.slice (some ⟨g2, 0, none⟩) (n' + 1) cq) (n' + 1) (flat (out.dropLast ++ [((lastOf out).1, x)])) := fun oo x => by have := (own_last' (HOWN.out.alloc oo) hn).2.2 x; rw [hn'] at this; exact this
              have A3 := Aside0.mk a3'
              clear a3 a3'
              obtain ⟨y, hy⟩ : ∃ y, (lastOf out).2 = y := ⟨_, rfl⟩
              rw [hy] at a1 hla
              rw [show out.length - 1 = n' from by omega] at a1 a2
              have hown3 := HOWN.out
              rw [hn'] at hown3
              have a1o := fun o => (((Below.refl _ wr).alloc (Nat.le_refl _) o).cell (p := ⟨g2, n' * 2 + 1, none⟩) hg2l).trans a1
              have a2o := fun o => (((Below.refl _ wr).alloc (Nat.le_refl _) o).frozen (p := ⟨g2, n' * 2 + 1, none⟩) hg2l).trans a2
              have HOWN3 := Aside0.mk hown3
              clear hown3
              go_wp2_with fail
              try simp only [hn']
              have hk1000 : n' + 1 ≤ 1000 := by omega
              have hgl : (0 : Int) < ((n' + 1 : Nat) : Int) := by omega
              have hge : (0 : Int) ≤ (n' : Int) := by omega
              have hlt3 : (n' : Int) < ((n' + 1 : Nat) : Int) := by omega
              have hlt4 : (n' : Int) < (n' : Int) + 1 := by omega
              have hnb : -100000000 ≤ (n' : Int) ∧ (n' : Int) ≤ 100000000 := by omega
              have hyb : -100000000 ≤ y + 1 ∧ y + 1 ≤ 100000000 := by omega
              have wn2 := wrap64_small _ hnb
              have wn3 := wrapI_small _ hnb
              have wy := wrap64_small _ hyb
              have wy2 := wrapI_small _ hyb
              clear hnb hyb
              by_cases hcon : max f (p + s - r) ≤ y + 1
              · have he : mergeStep f o s r out p = out.dropLast ++ [((lastOf out).1, max y (min o (p - s + r)))] := by unfold mergeStep; rw [if_neg (by have := HGT.out; omega), if_pos ⟨hn, by rw [hy]; exact hcon⟩, hy]
                have HE := Aside0.mk he
                clear he
                go_quiet (fail)
                go_wp2_with fail
                go_region
                all_goals
                  go_wp2_with fail
                  go_roundw
                  case rel => exact ⟨k2 + 1, out.dropLast ++ [((lastOf out).1, max y (min o (p - s + r)))], by omega, by go_num, ⟨by rw [HSTEP.out, HE.out], by have := HL2.out; rw [HE.out] at this; exact this, by have := HIN2.out; rw [HE.out] at this; exact this⟩, ⟨by rw [show (out.dropLast ++ [((lastOf out).1, max y (min o (p - s + r)))]).length = n' + 1 from by simp [hn']]; exact A3.out _ _⟩, ⟨(below_drewN (HBW.out.alloc HBW.out.size _) _).setCell (p := ⟨g2, n' * 2 + 1, none⟩) hg2b _⟩⟩
                  case measure => simp [intOf]; omega
              · have he : mergeStep f o s r out p = out ++ [(max f (p + s - r), min o (p - s + r))] := by unfold mergeStep; rw [if_neg (by have := HGT.out; omega), if_neg (fun h => hcon (by rw [← hy]; exact h.2))]
                have HE := Aside0.mk he
                clear he
                go_quiet (fail)
                clear wn2 wn3 wy wy2 w1' w2' w3' w4' hcon hgt a1 a2 a1o a2o hla
                obtain ⟨W5, hW5⟩ : ∃ W5, wr.alloc (.cells #[.int .i64 (max f (p + s - r)), .int .i64 (min o (p - s + r))] 46) = W5 := ⟨_, rfl⟩
                have HO5 : W5.ownsRow W3.heap.size 46 2 (.slice (some ⟨g2, 0, none⟩) (n' + 1) cq) (n' + 1) (flat out) := by rw [← hW5]; exact HOWN3.out.alloc _
                have HB5 : Below W3.heap.size W3 W5 := by rw [← hW5]; exact HBW.out.alloc HBW.out.size _
                have hz5 := HB5.size
                have t0 : W5.cell? ⟨wr.heap.size, 0, none⟩ = some (.int .i64 (max f (p + s - r))) := by rw [← hW5]; simp
                have t1 : W5.cell? ⟨wr.heap.size, 1, none⟩ = some (.int .i64 (min o (p - s + r))) := by rw [← hW5]; simp
                rw [hW5]
                clear hW5
                go_wp2_with (at_builtin; refine list_ranges (W := W5) rfl (.tmp 98) (.tmp 100) rfl ⟨rfl, rfl, rfl, rfl⟩ W3.heap.size _ _ _ rfl rfl HO5 hz5 hk1000 ?_; intro v' w9 hown' hgrow)
                have hfin : w9.ownsRow W3.heap.size 46 2 v' (out ++ [(max f (p + s - r), min o (p - s + r))]).length (flat (out ++ [(max f (p + s - r), min o (p - s + r))])) := by rw [flat_append, List.length_append, hn']; exact hown'
                have hbel : Below W3.heap.size W3 w9 := HB5.grown hgrow hz5 (fun j e => (HO5.lt j e).1)
                have HFIN := Aside0.mk hfin
                have HBEL := Aside0.mk hbel
                clear hfin hbel hown' hgrow
                go_roundw
                case rel => exact ⟨k2 + 1, out ++ [(max f (p + s - r), min o (p - s + r))], by omega, by go_num, ⟨by rw [HSTEP.out, HE.out], by have := HL2.out; rw [HE.out] at this; exact this, by have := HIN2.out; rw [HE.out] at this; exact this⟩, ⟨HFIN.out⟩, ⟨HBEL.out⟩⟩
                case measure => simp [intOf]; omega
            · obtain rfl : out = [] := List.eq_nil_of_length_eq_zero (by omega)
              have he : mergeStep f o s r [] p = [(max f (p + s - r), min o (p - s + r))] := by unfold mergeStep; rw [if_neg (by have := HGT.out; omega), if_neg (by simp)]; rfl
              have HE := Aside0.mk he
              clear he
              go_wp2_with fail
              go_quiet (fail)
              obtain ⟨W5, hW5⟩ : ∃ W5, wr.alloc (.cells #[.int .i64 (max f (p + s - r)), .int .i64 (min o (p - s + r))] 46) = W5 := ⟨_, rfl⟩
              have HO5 : W5.ownsRow W3.heap.size 46 2 (.slice q 0 cq) 0 (flat []) := by rw [← hW5]; exact HOWN.out.alloc _
              have HB5 : Below W3.heap.size W3 W5 := by rw [← hW5]; exact HBW.out.alloc HBW.out.size _
              have hz5 := HB5.size
              have t0 : W5.cell? ⟨wr.heap.size, 0, none⟩ = some (.int .i64 (max f (p + s - r))) := by rw [← hW5]; simp
              have t1 : W5.cell? ⟨wr.heap.size, 1, none⟩ = some (.int .i64 (min o (p - s + r))) := by rw [← hW5]; simp
              rw [hW5]
              clear hW5
              go_wp2_with (at_builtin; refine list_ranges (W := W5) rfl (.tmp 98) (.tmp 100) rfl ⟨rfl, rfl, rfl, rfl⟩ W3.heap.size _ _ _ rfl rfl HO5 hz5 (by omega) ?_; intro v' w9 hown' hgrow)
              have hfin : w9.ownsRow W3.heap.size 46 2 v' ([] ++ [(max f (p + s - r), min o (p - s + r))]).length (flat ([] ++ [(max f (p + s - r), min o (p - s + r))])) := by rw [flat_append, List.length_append]; exact hown'
              have hbel : Below W3.heap.size W3 w9 := HB5.grown hgrow hz5 (fun j e => (HO5.lt j e).1)
              have HFIN := Aside0.mk hfin
              have HBEL := Aside0.mk hbel
              clear hfin hbel hown' hgrow
              go_roundw
              case rel => exact ⟨k2 + 1, [] ++ [(max f (p + s - r), min o (p - s + r))], by omega, by go_num, ⟨by rw [HSTEP.out, HE.out]; rfl, by have := HL2.out; rw [HE.out] at this; exact this, by have := HIN2.out; rw [HE.out] at this; exact this⟩, ⟨HFIN.out⟩, ⟨HBEL.out⟩⟩
              case measure => simp [intOf]; omega
        · go_wp2_with fail
          have hall : (sorted zs).take k2 = sorted zs := List.take_of_length_le (by rw [sorted_length]; omega)
          have hout : out = scannedOf f o s r zs := by rw [HOUT.out.1, hall]; rfl
          rw [← hout]
          exact bodyPost_ret (v := .tuple #[u10, .int .i64 0]) (by simp [results, Tryd.results23, go_sem]) rfl ⟨u10, rfl, own_weaken HOWN.out (by omega), HB3.out.trans (HBW.out.mono (by omega))⟩
end Go.Proofs.YtbhbabimfkiibaaDoor
