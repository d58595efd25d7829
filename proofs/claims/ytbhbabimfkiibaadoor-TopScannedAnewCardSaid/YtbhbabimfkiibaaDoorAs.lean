/- openTrack without readings; and with any right readings. Anew at right tracks and readings. -/
import Derived.Test.YtbhbabimfkiibaaDoorAp
import Derived.Test.YtbhbabimfkiibaaDoorAq
namespace Go.Proofs.YtbhbabimfkiibaaDoor
open Go.RowKit Go.Shelf Go.Proofs.YtbhbabimfkiibaaDoorW.PrintWords Go.Proofs.YtbhbabimfkiibaaDoorW.PrintLast Go.Proofs.YtbhbabimfkiibaaDoorW.PrintMore PTopScannedAnew
set_option linter.unusedVariables false
set_option linter.unusedSimpArgs false

set_option maxRecDepth 100000 in
set_option maxHeartbeats 4000000 in
theorem openTrack_none (f o s r : Int) (hf : 0 ≤ f ∧ f ≤ 1000000) (ho : 0 ≤ o ∧ o ≤ 1000000) (hs : 0 ≤ s ∧ s ≤ 1000000) (hr : 0 ≤ r ∧ r ≤ 1000000) (hfo : f ≤ o)
    (q : Option Addr) (cap : Nat) (w : World) (hI : Ints w.heap.size w (.slice q 0 cap) []) :
    Calls Tryd.prog 23 #[.agg #[.int .i64 f, .int .i64 o, .int .i64 s, .int .i64 r], .slice q 0 cap] w fun e w' =>
      e = .returned (.tuple #[.slice none 0 0, .int .i64 0]) ∧ Below w.heap.size w w' := by
  have hct := fun w => CheckTrack_ok f o s r hf ho hs hr hfo w
  have HCT := Lib.hid hct
  have HI := Aside0.mk hI
  clear hct hI
  go_enter Tryd.func23, Tryd.ntmps23
  go_wp2_with (go_at_call 33; refine (HCT.out _).mono ?_; rintro e w1 ⟨rfl, hb1⟩)
  have B0 : Below w.heap.size w w1 := ((Below.refl _ w).alloc (Nat.le_refl _) _).trans (hb1.mono (by simp))
  have hz1 : w.heap.size + 1 ≤ w1.heap.size := by have := hb1.size; simp at this; omega
  have HB0 := Aside0.mk B0
  clear B0 hb1
  go_wp2_with fail
  go_loopw [25] (fun i wr => i = .int .i64 0 ∧ wr = w1) (fun _ _ => 0)
  case atStart => exact ⟨rfl, rfl⟩
  case round =>
    obtain ⟨rfl, rfl⟩ := hrel
    have hcv := fun w => (callsIn_wide (n := 5)).1 (values_in Fence.wide 5 trivial rfl q 0 cap w)
    obtain ⟨W2, hW2⟩ : ∃ W2, (wr.alloc (.cells #[.slice q 0 cap] 24)) = W2 := ⟨_, rfl⟩
    have hb12 : Below wr.heap.size wr W2 := by rw [← hW2]; exact (Below.refl _ wr).alloc (Nat.le_refl _) _
    have hz2 : W2.heap.size = wr.heap.size + 1 := by rw [← hW2]; simp
    have hbx : W2.cell? ⟨wr.heap.size, 0, none⟩ = some (.slice q 0 cap) := by rw [← hW2]; simp
    have hI2 : Ints W2.heap.size W2 (.slice q 0 cap) [] := ((HI.out.below (HB0.out.trans (hb12.mono (by omega)))).mono (by omega))
    have hsc := Sorted_calls wr.heap.size _ [] (by simp) W2 (by omega) hbx hI2
    have B2 := HB0.out.trans (hb12.mono (by omega))
    clear hI2 hbx HCT
    go_wp2_with (first
      | (go_at_call 36; refine (hcv _).mono ?_; rintro e w' ⟨rfl, rfl⟩)
      | (go_at_call 35; (try rw [show (wr.alloc (.cells #[.slice q 0 cap] 24)) = W2 from hW2]); refine hsc.mono ?_; rintro e W3 ⟨v, rfl, hrow, hb3⟩; obtain ⟨q3, c3, rfl, _⟩ := row_form hrow))
    have HB3 := Aside0.mk (B2.trans (hb3.mono (by omega)))
    clear B2 hb3 hrow hsc hcv
    go_loopw [10, 38] (fun v i wr => v = .slice none 0 0 ∧ i = .int .i64 0 ∧ wr = W3) (fun _ _ _ => 0)
    case atStart => exact ⟨rfl, rfl, rfl⟩
    case round =>
      obtain ⟨rfl, rfl, rfl⟩ := hrel
      go_wp2_with fail
      exact bodyPost_ret (v := .tuple #[.slice none 0 0, .int .i64 0]) (by simp [results, Tryd.results23, go_sem]) rfl ⟨rfl, HB3.out⟩

/-- openTrack at a right track and right readings. -/
theorem openTrack_any (f o s r : Int) (hf : 0 ≤ f ∧ f ≤ 1000000) (ho : 0 ≤ o ∧ o ≤ 1000000) (hs : 0 ≤ s ∧ s ≤ 1000000) (hr : 0 ≤ r ∧ r ≤ 1000000) (hfo : f ≤ o)
    (zs : List Int) (hz : ∀ x ∈ zs, -2000000 ≤ x ∧ x ≤ 2000000) (hzl : zs.length ≤ 200) (sv : Value) (w : World) (hI : Ints w.heap.size w sv zs) :
    Calls Tryd.prog 23 #[.agg #[.int .i64 f, .int .i64 o, .int .i64 s, .int .i64 r], sv] w fun e w' =>
      ∃ v, e = .returned (.tuple #[v, .int .i64 0]) ∧ w'.ownsRow w.heap.size 46 2 v (scannedOf f o s r zs).length (flat (scannedOf f o s r zs)) ∧ Below w.heap.size w w' := by
  have none_ : ∀ (q : Option Addr) (cap : Nat), Ints w.heap.size w (.slice q 0 cap) [] → Calls Tryd.prog 23 #[.agg #[.int .i64 f, .int .i64 o, .int .i64 s, .int .i64 r], .slice q 0 cap] w fun e w' =>
      ∃ v, e = .returned (.tuple #[v, .int .i64 0]) ∧ w'.ownsRow w.heap.size 46 2 v (scannedOf f o s r []).length (flat (scannedOf f o s r [])) ∧ Below w.heap.size w w' := fun q cap h =>
    (openTrack_none f o s r hf ho hs hr hfo q cap w h).mono fun e w' ⟨he, hb⟩ => ⟨_, he, by simpa [scannedOf, sorted, flat] using World.ownsRow_nil w' w.heap.size 46 2, hb⟩
  rcases hI with ⟨rfl, rfl⟩ | ⟨b, off, cap, rfl, hb, hc⟩
  · exact none_ none 0 (.inl ⟨rfl, rfl⟩)
  · by_cases h0 : 0 < zs.length
    · exact openTrack_some f o s r hf ho hs hr hfo zs hz hzl h0 b off cap w hb hc
    · obtain rfl : zs = [] := List.eq_nil_of_length_eq_zero (by omega)
      exact none_ _ _ (.inr ⟨b, off, cap, rfl, hb, hc⟩)
end Go.Proofs.YtbhbabimfkiibaaDoor

namespace Go.Proofs.YtbhbabimfkiibaaDoor
open Go.RowKit Go.Shelf Go.Proofs.YtbhbabimfkiibaaDoorW.PrintWords Go.Proofs.YtbhbabimfkiibaaDoorW.PrintLast Go.Proofs.YtbhbabimfkiibaaDoorW.PrintMore PTopScannedAnew
set_option linter.unusedVariables false
set_option linter.unusedSimpArgs false

theorem flat_get : ∀ (L : List (Int × Int)) (k : Nat), k < L.length → (flat L)[k * 2]? = some (.int .i64 (L[k]?.getD (0, 0)).1) ∧ (flat L)[k * 2 + 1]? = some (.int .i64 (L[k]?.getD (0, 0)).2)
  | x :: L, 0, _ => ⟨rfl, rfl⟩
  | x :: L, k + 1, h => by
    have := flat_get L k (by simpa using h)
    have e : flat (x :: L) = .int .i64 x.1 :: .int .i64 x.2 :: flat L := rfl
    rw [e, show (k + 1) * 2 = k * 2 + 1 + 1 from by omega, List.getElem?_cons_succ, List.getElem?_cons_succ, List.getElem?_cons_succ, List.getElem?_cons_succ, List.getElem?_cons_succ]
    exact this

theorem own_cells {W : World} {base : Nat} {v : Value} {L : List (Int × Int)} (h : W.ownsRow base 46 2 v L.length (flat L)) (h0 : 0 < L.length) :
    ∃ g cap, v = .slice (some ⟨g, 0, none⟩) L.length cap ∧ base ≤ g ∧ g < W.heap.size ∧ ∀ k, k < L.length → W.cell? ⟨g, k * 2, none⟩ = some (.int .i64 (L[k]?.getD (0, 0)).1) ∧ W.cell? ⟨g, k * 2 + 1, none⟩ = some (.int .i64 (L[k]?.getD (0, 0)).2) := by
  rcases h.2 with ⟨_, hh⟩ | ⟨g, cap, cur, rfl, hb, hg, r1, r2, r3, r4⟩
  · omega
  · refine ⟨g, cap, rfl, hb, (Array.getElem?_eq_some_iff.1 hg).1, fun k hk => ?_⟩
    have key : ∀ j u, j < L.length * 2 → (flat L)[j]? = some u → W.cell? ⟨g, j, none⟩ = some u := by
      intro j u hj hu
      have h1 : (cur.toList.take (L.length * 2))[j]? = some u := by rw [r4]; exact hu
      rw [List.getElem?_take, if_pos hj] at h1
      have h2 : cur[j]? = some u := by simpa using h1
      simp [World.cell?, hg, h2]
    obtain ⟨h1, h2⟩ := flat_get L k hk
    exact ⟨key _ _ (by omega) h1, key _ _ (by omega) h2⟩

theorem scanned_in (f o s r : Int) (l : List Int) : ∀ x ∈ scannedOf f o s r l, f ≤ x.1 ∧ x.1 ≤ x.2 ∧ x.2 ≤ o := by
  obtain ⟨h1, h2⟩ := scanned_facts f o s r l
  intro x hx
  have h3 := h1.2 x hx
  obtain ⟨p, _, h5, h6⟩ := (h2 x.1).1 ⟨x, hx, by omega, by omega⟩
  obtain ⟨q, _, h7, h8⟩ := (h2 x.2).1 ⟨x, hx, by omega, by omega⟩
  omega

/-- What the loop of Anew holds. -/
def AnewAt (f : Int) (L : List (Int × Int)) (k : Nat) (out : List (Int × Int)) (at_ : Int) : Prop := (L.take k).foldl anewStep ([], f) = (out, at_) ∧ out.length ≤ k

theorem AnewAt.step {f : Int} {L : List (Int × Int)} {k : Nat} {out : List (Int × Int)} {at_ : Int} (h : AnewAt f L k out at_) (hk : k < L.length) {lo hi : Int} (hx : L[k]?.getD (0, 0) = (lo, hi)) :
    (at_ < lo → AnewAt f L (k + 1) (out ++ [(at_, lo - 1)]) (hi + 1)) ∧ (¬ at_ < lo → AnewAt f L (k + 1) out (hi + 1)) := by
  have e : L[k] = (lo, hi) := by rw [List.getElem?_eq_getElem hk] at hx; exact hx
  obtain ⟨h1, h2⟩ := h
  unfold AnewAt
  rw [foldl_take_succ _ _ _ hk, h1, e]
  refine ⟨fun hl => ⟨?_, by simp; omega⟩, fun hl => ⟨?_, by omega⟩⟩
  · simp [anewStep, hl]
  · simp [anewStep, hl]

set_option maxRecDepth 100000 in
set_option maxHeartbeats 4000000 in
theorem Anew_any (f o s r : Int) (hf : 0 ≤ f ∧ f ≤ 1000000) (ho : 0 ≤ o ∧ o ≤ 1000000) (hs : 0 ≤ s ∧ s ≤ 1000000) (hr : 0 ≤ r ∧ r ≤ 1000000) (hfo : f ≤ o)
    (zs : List Int) (hz : ∀ x ∈ zs, -2000000 ≤ x ∧ x ≤ 2000000) (hzl : zs.length ≤ 200) (sv : Value) (w : World) (hI : Ints w.heap.size w sv zs) :
    Calls Tryd.prog 10 #[.agg #[.int .i64 f, .int .i64 o, .int .i64 s, .int .i64 r], sv] w fun e w' =>
      ∃ v, e = .returned (.tuple #[v, .int .i64 0]) ∧ w'.ownsRow w.heap.size 46 2 v (anewOf f o s r zs).length (flat (anewOf f o s r zs)) ∧ Below w.heap.size w w' := by
  have hot : ∀ W, Below w.heap.size w W → _ := fun W h => openTrack_any f o s r hf ho hs hr hfo zs hz hzl sv W ((hI.below h).mono h.size)
  have HOT := Aside0.mk hot
  obtain ⟨sc, hsc⟩ : ∃ sc, scannedOf f o s r zs = sc := ⟨_, rfl⟩
  have hin := scanned_in f o s r zs
  have hsl := scanned_length f o s r zs
  have hfin : ((sc ++ [(o + 1, o + 1)]).foldl anewStep ([], f)).1 = anewOf f o s r zs := by rw [← hsc]; rfl
  rw [hsc] at hin hsl
  have HSC := Aside0.mk hsc
  have HIN := Aside0.mk hin
  have HFIN := Aside0.mk hfin
  clear hsc hin hfin hot hI hz
  go_enter Tryd.func10, Tryd.ntmps10
  go_wp2_with fail
  refine (HOT.out _ ((Below.refl _ w).alloc (Nat.le_refl _) _)).mono ?_
  rintro e w1 ⟨v1, rfl, hrow, hb1⟩
  have B0 : Below w.heap.size w w1 := ((Below.refl _ w).alloc (Nat.le_refl _) _).trans (hb1.mono (by simp))
  have hz1 : w.heap.size + 1 ≤ w1.heap.size := by have := hb1.size; simp at this; omega
  have c0 : w1.cell? ⟨w.heap.size, 0, none⟩ = some (.int .i64 f) := (hb1.cell (p := ⟨w.heap.size, 0, none⟩) (by simp)).trans (by simp)
  have c1 : w1.cell? ⟨w.heap.size, 1, none⟩ = some (.int .i64 o) := (hb1.cell (p := ⟨w.heap.size, 1, none⟩) (by simp)).trans (by simp)
  rw [HSC.out, World.size_alloc] at hrow
  obtain ⟨q1, cp1, rfl, _⟩ := row_form hrow
  have HROW := Aside0.mk hrow
  have HB0 := Aside0.mk B0
  have hk1000 : sc.length ≤ 1000 := by omega
  have w1' : wrap64 (o + 1) = o + 1 := wrap64_small _ (by omega)
  have w2' : IntKind.i64.wrap (o + 1) = o + 1 := wrapI_small _ (by omega)
  clear hrow B0 hb1
  go_wp2_with (at_builtin; refine Aside0.out ?_)
  refine Aside0.mk ?_
  refine list_ranges (W := w1) rfl (.tmp 23) (.tmp 31) rfl ⟨rfl, rfl, rfl, rfl⟩ (w.heap.size + 1) (.slice q1 sc.length cp1) sc.length _ rfl rfl HROW.out hz1 hk1000 ?_
  intro v2 w2 hown2 hg2
  obtain ⟨L, hL⟩ : ∃ L, sc ++ [(o + 1, o + 1)] = L := ⟨_, rfl⟩
  have hLl : L.length = sc.length + 1 := by rw [← hL]; simp
  have hLb : ∀ x ∈ L, f ≤ x.1 ∧ x.1 ≤ o + 1 ∧ f ≤ x.2 ∧ x.2 ≤ o + 1 := by
    intro x hx
    rw [← hL] at hx
    rcases List.mem_append.1 hx with hx | hx
    · have := HIN.out x hx
      omega
    · obtain rfl := List.mem_singleton.1 hx
      simp only
      omega
  have hown : w2.ownsRow (w.heap.size + 1) 46 2 v2 L.length (flat L) := by rw [hLl, ← hL, flat_append]; exact hown2
  obtain ⟨g, cp2, rfl, hgb, hgl, hcells⟩ := own_cells hown (by omega)
  have B2 : Below w.heap.size w w2 := HB0.out.grown hg2 (by omega) (fun j e => by have := (HROW.out.lt j e).1; omega)
  have d0 : w2.cell? ⟨w.heap.size, 0, none⟩ = some (.int .i64 f) := (World.cell?_of_block (hg2.block w.heap.size (by omega) (fun e => by have := (HROW.out.lt _ e.symm).1; omega))).trans c0
  have HB2 := Aside0.mk B2
  have HCL := Aside0.mk hcells
  have HLB := Aside0.mk hLb
  have HL := Aside0.mk hL
  have hL200 : L.length ≤ 201 := by omega
  clear B2 hcells hLb hL hown hown2 hg2 HROW HB0 c0 c1 w1' w2' hLl hz1
  go_wp2_with fail
  go_loopw [8, 9, 34] (fun v at_ i wr => ∃ (k : Nat) (out : List (Int × Int)) (a : Int), k ≤ L.length ∧ i = .int .i64 k ∧ at_ = .int .i64 a ∧ 0 ≤ a ∧ a ≤ 1000002 ∧ Aside0 (AnewAt f L k out a) ∧ Aside0 (wr.ownsRow w2.heap.size 46 2 v out.length (flat out)) ∧ Aside0 (Below w2.heap.size w2 wr)) (fun _ _ i _ => L.length - (intOf i).toNat)
  case atStart => exact ⟨0, [], f, by omega, rfl, rfl, by omega, by omega, ⟨⟨rfl, by simp⟩⟩, ⟨World.ownsRow_nil _ _ _ _⟩, ⟨Below.refl _ _⟩⟩
  case round =>
    obtain ⟨k, out, a, hk, rfl, rfl, ha0, ha1, HAT, HOWN, HBW⟩ := hrel
    by_cases hlt : k < L.length
    · obtain ⟨e0, e1⟩ := HCL.out k hlt
      obtain ⟨⟨lo, hi⟩, hx⟩ : ∃ x, L[k]?.getD (0, 0) = x := ⟨_, rfl⟩
      have hxb := HLB.out (lo, hi) (by rw [← hx, List.getElem?_eq_getElem hlt]; exact List.getElem_mem hlt)
      rw [hx] at e0 e1
      simp only at e0 e1 hxb
      have x0 := (HBW.out.cell (p := ⟨g, k * 2, none⟩) hgl).trans e0
      have x1 := (HBW.out.cell (p := ⟨g, k * 2 + 1, none⟩) hgl).trans e1
      obtain ⟨s1, s2⟩ := HAT.out.step hlt hx
      have S1 := Aside0.mk s1
      have S2 := Aside0.mk s2
      obtain ⟨q, cq, rfl, hq⟩ := row_form HOWN.out
      have hol : out.length ≤ 1000 := by have := HAT.out.2; omega
      have v1' : wrap64 (lo - 1) = lo - 1 := wrap64_small _ (by omega)
      have v2' : IntKind.i64.wrap (lo - 1) = lo - 1 := wrapI_small _ (by omega)
      have v3' : wrap64 (hi + 1) = hi + 1 := wrap64_small _ (by omega)
      have v4' : IntKind.i64.wrap (hi + 1) = hi + 1 := wrapI_small _ (by omega)
      have hz2 : w2.heap.size ≤ wr.heap.size := HBW.out.size
      clear s1 s2 e0 e1 hx hq
      obtain ⟨W5, hW5⟩ : ∃ W5, wr.alloc (.cells #[.int .i64 lo, .int .i64 hi] 46) = W5 := ⟨_, rfl⟩
      have HO5 : W5.ownsRow w2.heap.size 46 2 (.slice q out.length cq) out.length (flat out) := by rw [← hW5]; exact HOWN.out.alloc _
      have HB5 : Below w2.heap.size w2 W5 := by rw [← hW5]; exact HBW.out.alloc HBW.out.size _
      have hz5 := HB5.size
      have hn1 : a ≤ lo - 1 ∨ ¬ a < lo := by omega
      have t1 : W5.cell? ⟨wr.heap.size, 1, none⟩ = some (.int .i64 hi) := by rw [← hW5]; simp
      have hsz5 : W5.heap.size = wr.heap.size + 1 := by rw [← hW5]; simp
      have HW5 := Aside0.mk hW5
      have hown_lt : ∀ j, (Value.slice q out.length cq).ownBlock = some j → j < wr.heap.size := fun j e => (HOWN.out.lt j e).2
      have HLT := Aside0.mk hown_lt
      have mround : L.length - (k + 1) < L.length - k := by omega
      have kround : k + 1 ≤ L.length := by omega
      have around : 0 ≤ hi + 1 ∧ hi + 1 ≤ 1000002 := by omega
      clear hW5 hown_lt
      by_cases hal : a < lo
      · have S1' := Aside0.mk (S1.out hal)
        clear S1 S2
        go_wp2_with (at_builtin; refine Aside0.out ?_)
        refine Aside0.mk ?_
        rw [HW5.out]
        refine list_ranges (W := W5) rfl (.tmp 42) (.tmp 48) rfl ⟨rfl, rfl, rfl, rfl⟩ w2.heap.size (.slice q out.length cq) out.length _ rfl (by rw [hsz5]; rfl) HO5 hz5 hol ?_
        intro v' w9 hown' hg9
        have hown9 : w9.ownsRow w2.heap.size 46 2 v' (out ++ [(a, lo - 1)]).length (flat (out ++ [(a, lo - 1)])) := by rw [flat_append, List.length_append]; exact hown'
        have hb9 : Below w2.heap.size w2 w9 := HB5.grown hg9 hz5 (fun j e => (HO5.lt j e).1)
        have t9 : w9.cell? ⟨wr.heap.size, 1, none⟩ = some (.int .i64 hi) := (World.cell?_of_block (hg9.block wr.heap.size (by omega) (fun e => by have := HLT.out _ e.symm; omega))).trans t1
        have HOWN9 := Aside0.mk hown9
        have HB9 := Aside0.mk hb9
        clear hown9 hb9 hown' hg9 HO5 HB5 t1 v1' v2'
        go_wp2_with fail
        go_roundw
        case rel => exact ⟨k + 1, out ++ [(a, lo - 1)], hi + 1, kround, by go_num, rfl, around.1, around.2, S1', HOWN9, HB9⟩
        case measure => simp [intOf]; exact mround
      · have S2' := Aside0.mk (S2.out hal)
        clear S1 S2
        go_wp2_with fail
        go_roundw
        case rel => exact ⟨k + 1, out, hi + 1, kround, by go_num, rfl, around.1, around.2, S2', ⟨by rw [HW5.out]; exact HO5⟩, ⟨by rw [HW5.out]; exact HB5⟩⟩
        case measure => simp [intOf]; exact mround
    · go_wp2_with fail
      have hall : L.take k = L := List.take_of_length_le (by omega)
      have hout : out = anewOf f o s r zs := by
        have h1 := HAT.out.1
        rw [hall, ← HL.out] at h1
        rw [← HFIN.out, h1]
      rw [← hout]
      exact bodyPost_ret (v := .tuple #[u8, .int .i64 0]) (by simp [results, Tryd.results10, go_sem]) rfl ⟨u8, rfl, own_weaken HOWN.out (by omega), HB2.out.trans (HBW.out.mono (by omega))⟩
end Go.Proofs.YtbhbabimfkiibaaDoor
