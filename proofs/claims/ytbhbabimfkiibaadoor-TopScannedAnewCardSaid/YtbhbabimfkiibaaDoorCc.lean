/- The law TopScannedAnew returns true: its walk. -/
import Derived.Test.YtbhbabimfkiibaaDoorCb
namespace Go.Proofs.YtbhbabimfkiibaaDoor
open Go.RowKit Go.Shelf Go.Proofs.YtbhbabimfkiibaaDoorW.PrintWords Go.Proofs.YtbhbabimfkiibaaDoorW.PrintLast Go.Proofs.YtbhbabimfkiibaaDoorW.PrintMore PTopScannedAnew
set_option linter.unusedVariables false
set_option linter.unusedSimpArgs false

set_option maxRecDepth 100000 in
set_option maxHeartbeats 4000000 in
theorem law_main (f o s r : Int) (hf : 0 ≤ f ∧ f ≤ 1000000) (ho : 0 ≤ o ∧ o ≤ 1000000) (hs : 0 ≤ s ∧ s ≤ 1000000) (hr : 0 ≤ r ∧ r ≤ 1000000) (hfo : f ≤ o)
    (zs : List Int) (hz : ∀ x ∈ zs, -2000000 ≤ x ∧ x ≤ 2000000) (hzl : zs.length ≤ 6) (A : Option Addr) (cap : Nat) (cut : Int) (w : World) (hE : Ends w) (hR : RI w (.slice A zs.length cap) zs)
    (h1 : couplantref07_CheckTrack.f 1 f o s r = some 0) (h2 : couplantref07_ReadingsErr.f (zs.length + 1) zs = some 0) :
    Calls Tryd.prog 3 #[.agg #[.int .i64 f, .int .i64 o, .int .i64 s, .int .i64 r], .slice A zs.length cap, .int .i64 cut] w fun e w' => e = .returned (.bool true) ∧ Below w.heap.size w w' := by
  have HR := Aside0.mk hR
  have HZ := Aside0.mk hz
  have HE := Aside0.mk hE
  have H1 := Aside0.mk h1
  have H2 := Aside0.mk h2
  clear hR hz hE h1 h2
  have hlen : decide ((6 : Int) < (zs.length : Int)) = false := decide_eq_false (by omega)
  go_enter Tryd.func3, Tryd.ntmps3
  go_wp2_with fail
  refine (covering_at _ (HE.out.below (show Below w.heap.size w _ from below_alloc (Below.refl _ _) _))).mono ?_
  rintro e w1 ⟨rfl, hb1⟩
  have kt := (show Blk (w.alloc (.cells #[.int .i64 f, .int .i64 o, .int .i64 s, .int .i64 r] 23)) w.heap.size 23 _ from Blk.new w _ _).below hb1 (by simp)
  have HB1 := Aside0.mk (below_step (show Below w.heap.size w _ from below_alloc (Below.refl _ _) _) hb1)
  have c0 := kt.cell 0
  have c1 := kt.cell 1
  have c2 := kt.cell 2
  have c3 := kt.cell 3
  simp at c0 c1 c2 c3
  have KT := Aside0.mk kt
  clear kt hb1
  go_wp2_with fail
  refine (couplantref07_CheckTrack.calls 1 f o s r 0 _ H1.out).mono ?_
  rintro e w2 ⟨rfl, hb2⟩
  have HB2 := Aside0.mk (below_step HB1.out hb2)
  have KT2 := Aside0.mk (KT.out.below hb2 KT.out.lt)
  clear hb2 c0 c1 c2 c3
  obtain ⟨A0, cp0, he0, hcp, hC⟩ := (HR.out.below HB2.out).form (by omega)
  cases he0
  have hrc := couplantref07_ReadingsErr.calls (zs.length + 1) A cap zs 0 w2 hC hcp H2.out
  have HRC := Lib.hid hrc
  clear hrc hC
  go_wp2_with fail
  refine HRC.out.mono ?_
  rintro e w3 ⟨rfl, ⟨⟨m3, rfl⟩⟩⟩
  clear HRC
  go_wp2_with fail
  have hp : ∀ k, -2000000 ≤ zs.getD k 0 ∧ zs.getD k 0 ≤ 2000000 := fun k => by
    by_cases hk : k < zs.length
    · rw [List.getD_eq_getElem?_getD, List.getElem?_eq_getElem hk]
      exact HZ.out _ (List.getElem_mem hk)
    · rw [List.getD_eq_getElem?_getD, List.getElem?_eq_none (by omega)]
      simp
  have HPZ := Aside0.mk hp
  clear hp hlen
  go_loopw [7, 8] (fun v i wr => ∃ (k : Nat) (t : ByteArray), k ≤ zs.length ∧ i = .int .i64 k ∧ v = .string t ∧ Aside0 (Whole (zs.take k) t) ∧ Aside0 (Below w2.heap.size w2 wr)) (fun _ i _ => zs.length - (intOf i).toNat)
  case atStart => exact ⟨0, ⟨#[]⟩, by omega, rfl, rfl, ⟨by simpa using Whole.nil⟩, ⟨by repeat (first | exact Below.refl _ _ | apply pw_below_drewN)⟩⟩
  case round =>
    obtain ⟨k, t, hk, rfl, rfl, HWH, HBW⟩ := hrel
    by_cases hlt : k < zs.length
    · have hri := (HR.out.below (below_step HB2.out HBW.out))
      obtain ⟨b, off, rfl, hbl, hcell⟩ : ∃ b off, A = some ⟨b, off, none⟩ ∧ b < wr.heap.size ∧ wr.cell? ⟨b, off + k, none⟩ = some (.int .i64 (zs.getD k 0)) := by
        rcases hri with ⟨_, hh⟩ | ⟨b, off, cap', he, _, h2, h3⟩
        · rw [hh] at hlt
          simp at hlt
        · cases he
          exact ⟨b, off, rfl, h2, by rw [List.getD_eq_getElem?_getD]; exact h3 k hlt⟩
      have hpp := HPZ.out k
      have hks : zs.take (k + 1) = zs.take k ++ [zs.getD k 0] := by
        rw [List.take_succ_eq_append_getElem hlt, List.getD_eq_getElem?_getD, List.getElem?_eq_getElem hlt]
        rfl
      have HKS := Aside0.mk hks
      obtain ⟨p, hpe⟩ : ∃ p, zs.getD k 0 = p := ⟨_, rfl⟩
      rw [hpe] at hcell hpp
      have HPE := Aside0.mk hpe
      have hi0 : (0 : Int) ≤ (k : Int) := by omega
      have hi1 : (k : Int) < (zs.length : Int) := by omega
      have hmk := make_zeros
      have hne : wr.heap.size ≠ b := by omega
      clear hpe hks hri
      go_wp2_with fail
      go_region_held3 (fun w' => w'.cell? ⟨b, off + k, none⟩ = some (.int .i64 p)) (go_keep)
        ((go_at_call 7; refine (FormatFrame_any p wr.heap.size 0 64 _ hpp ?_).mono ?_; (exact fun j hj => by rw [Nat.zero_add]; exact ((show Blk _ wr.heap.size 69 zeros64 from by first | exact Blk.new _ _ _ | exact (Blk.new _ _ _).drew).cell j).trans (zeros_at j hj)); rintro e w5 ⟨l, hhead, rfl, hb5⟩; have B5 := below_step (show Below wr.heap.size wr _ from by repeat (first | exact Below.refl _ _ | apply below_alloc | apply below_drew)) hb5; have hk5 := (B5.cell (p := ⟨b, off + k, none⟩) hbl); have HB5 := Aside0.mk B5; have HHD := Aside0.mk hhead; clear B5 hb5 hhead))
      all_goals
        have hsz : (strOfNums l).size = 138 := by rw [strOfNums_size]; exact HHD.out.1
        have HSZ := Aside0.mk hsz
        have hg : ¬ (1000 : Int) < ((strOfNums l).size : Int) := by omega
        have hg2 : decide ((1000 : Int) < ((strOfNums l).size : Int)) = false := decide_eq_false hg
        have hws : t.size = 138 * k := by have := HWH.out.1; rw [this]; simp; omega
        have hws2 : t.size ≤ 2000 := by omega
        clear hmk hg hcell hk5
        go_wp2_with fail
        go_roundw
        case rel => exact ⟨k + 1, t ++ strOfNums l, by omega, by go_num, rfl, ⟨by rw [HKS.out]; exact HWH.out.snoc (by rw [HPE.out]; exact HHD.out)⟩, ⟨below_step HBW.out HB5.out⟩⟩
        case measure => simp [intOf]; omega
    · obtain rfl : k = zs.length := by omega
      have hw : Whole zs t := by have := HWH.out; rwa [List.take_of_length_le (Nat.le_refl _)] at this
      have hts : t.size ≤ 828 := by rw [hw.1]; omega
      obtain ⟨x, hx, hx0, hx1⟩ := mod_total cut ((t.size : Int) + 1) (by omega) (by omega)
      have HX := Aside0.mk hx
      have hmd := fun W => couplantbase_Mod.calls cut ((t.size : Int) + 1) x W hx
      have HMD := Lib.hid hmd
      obtain ⟨n, rfl⟩ : ∃ n : Nat, x = (n : Int) := ⟨x.toNat, by omega⟩
      have hnt : n ≤ t.size := by omega
      have hkept := hw.kept n hnt
      have hes : (t.extract 0 n).size ≤ 100000 := by simp; omega
      have hfr := fun W => Frames_any zs HPZ.out (by omega) (t.extract 0 n) hes hkept W
      have HFR := Lib.hid hfr
      clear hx hmd hkept hes hfr hw HWH
      go_wp2_with fail
      refine (HMD.out _).mono ?_
      rintro e w4 ⟨rfl, ⟨⟨m4, rfl⟩⟩⟩
      go_wp2_with fail
      refine (HFR.out _).mono ?_
      rintro e w5 ⟨⟨v5, n5, m, xs, rfl, hn0, hm, hrow, hxs⟩, hb5⟩
      obtain ⟨q5, c5, rfl, hq5⟩ := row_form hrow
      have HB5 := Aside0.mk (below_step (show Below w2.heap.size w2 _ from by repeat (first | exact HBW.out | apply pw_below_drewN | apply below_drew)) hb5)
      have HROW := Aside0.mk hrow
      have HXS := Aside0.mk hxs
      have hgm : decide (zs.length < m) = false := decide_eq_false (by omega)
      have hgn : decide (n5 < 0) = false := decide_eq_false (by omega)
      clear hrow hxs hb5 HFR HMD HX hx0 hx1
      go_wp2_with fail
      clear hgm hgn
      go_loopw [14, 15] (fun v i wr => ∃ k : Nat, k ≤ m ∧ i = .int .i64 k ∧ Aside0 (wr.ownsRow w5.heap.size 3 1 v k ((zs.take k).map (Value.int .i64))) ∧ Aside0 (Below w5.heap.size w5 wr)) (fun _ i _ => m - (intOf i).toNat)
      case atStart => exact ⟨0, by omega, rfl, ⟨World.ownsRow_nil _ _ _ _⟩, ⟨Below.refl _ _⟩⟩
      case round =>
        obtain ⟨k, hk, rfl, HOW, HBX⟩ := hrel
        by_cases hlt2 : k < m
        · have hkz : k < zs.length := by omega
          obtain ⟨b, off, rfl, hbl, hcell⟩ : ∃ b off, A = some ⟨b, off, none⟩ ∧ b < wr.heap.size ∧ wr.cell? ⟨b, off + k, none⟩ = some (.int .i64 (zs.getD k 0)) := by
            rcases (HR.out.below (below_step (below_step HB2.out HB5.out) HBX.out)) with ⟨_, hh⟩ | ⟨b, off, cap', he, _, h2, h3⟩
            · rw [hh] at hkz
              simp at hkz
            · cases he
              exact ⟨b, off, rfl, h2, by rw [List.getD_eq_getElem?_getD]; exact h3 k hkz⟩
          obtain ⟨g5, rfl, hg5b, hg5l⟩ := hq5 (by omega)
          have hfc : wr.cell? ⟨g5, k * 3, none⟩ = some (.int .i64 (zs.getD k 0)) := by
            refine (HBX.out.cell (p := ⟨g5, k * 3, none⟩) hg5l).trans ?_
            rcases HROW.out.2 with ⟨hh, _⟩ | ⟨g, cap', cur, he, _, hg, r1, r2, r3, r4⟩
            · cases hh
            · cases he
              have h6 := HXS.out k hlt2
              rw [← r4, List.getElem?_take, if_pos (by omega)] at h6
              have h7 : cur[3 * k]? = some (.int .i64 (zs.getD k 0)) := by simpa using h6
              rw [Nat.mul_comm] at h7
              simp [World.cell?, hg, h7]
          have hks : (zs.take (k + 1)).map (Value.int .i64) = (zs.take k).map (Value.int .i64) ++ [.int .i64 (zs.getD k 0)] := by
            rw [List.take_succ_eq_append_getElem hkz, List.getD_eq_getElem?_getD, List.getElem?_eq_getElem hkz, List.map_append]
            rfl
          obtain ⟨p, hpe⟩ : ∃ p, zs.getD k 0 = p := ⟨_, rfl⟩
          rw [hpe] at hcell hfc hks
          have HKS := Aside0.mk hks
          have i0 : (0 : Int) ≤ (k : Int) := by omega
          have i1 : (k : Int) < (zs.length : Int) := by omega
          have i2 : (k : Int) < (m : Int) := by omega
          have hk1000 : k ≤ 1000 := by omega
          obtain ⟨q, cq, rfl, hq⟩ := row_form HOW.out
          have hz5 := HBX.out.size
          clear hpe hks hq
          go_wp2_with fail
          go_quiet (fail)
          go_wp2_with (at_builtin; refine Aside0.out ?_)
          refine Aside0.mk ?_
          refine list_int (W := wr.drewN nq) rfl (.tmp 108) (.tmp 114) rfl ⟨rfl, rfl, rfl, rfl⟩ w5.heap.size (.slice q k cq) k _ rfl rfl (pw_own_drewN HOW.out nq) hz5 hk1000 ?_
          intro v' w9 hown' hg9
          have HOW9 := Aside0.mk hown'
          have HB9 := Aside0.mk ((pw_below_drewN HBX.out nq).grown hg9 hz5 (fun j e => (HOW.out.lt j e).1))
          clear hown' hg9
          go_wp2_with fail
          go_roundw
          case rel => exact ⟨k + 1, by omega, by go_num, ⟨by rw [HKS.out]; exact HOW9.out⟩, HB9⟩
          case measure => simp [intOf]; omega
        · obtain rfl : k = m := by omega
          obtain ⟨ys, hys⟩ : ∃ ys, zs.take k = ys := ⟨_, rfl⟩
          have hyl : ys.length = k := by rw [← hys, List.length_take]; omega
          have hyz : ∃ rest, zs = ys ++ rest := ⟨zs.drop k, by rw [← hys, List.take_append_drop]⟩
          have hyb : ∀ x ∈ ys, -2000000 ≤ x ∧ x ≤ 2000000 := by rw [← hys]; exact fun x hx => HZ.out x (List.mem_of_mem_take hx)
          have hri := RI.of_own (by rw [hyl, ← hys]; exact HOW.out : wr.ownsRow w5.heap.size 3 1 _ ys.length (ys.map (Value.int .i64)))
          have hyl6 : ys.length ≤ 6 := by omega
          have kt := KT2.out.below (below_step HB5.out HBX.out) KT2.out.lt
          have HRY := Aside0.mk hri
          have HYZ := Aside0.mk hyz
          have HYB := Aside0.mk hyb
          have HYL := Aside0.mk hyl
          have HYS := Aside0.mk hys
          have HKT := Aside0.mk kt
          have ltk := kt.lt
          have ks : ∀ V, Below wr.heap.size wr V → (V.cell? ⟨w.heap.size, 0, none⟩ = some (.int .i64 f) ∧ V.cell? ⟨w.heap.size, 1, none⟩ = some (.int .i64 o) ∧ V.cell? ⟨w.heap.size, 2, none⟩ = some (.int .i64 s) ∧ V.cell? ⟨w.heap.size, 3, none⟩ = some (.int .i64 r)) := fun V h =>
            ⟨(HKT.out.below h ltk).cell 0, (HKT.out.below h ltk).cell 1, (HKT.out.below h ltk).cell 2, (HKT.out.below h ltk).cell 3⟩
          have KS := Aside0.mk ks
          have HRZ := Aside0.mk (HR.out.below (below_step (below_step HB2.out HB5.out) HBX.out))
          have HBA := Aside0.mk (below_step (below_step HB2.out HB5.out) HBX.out)
          obtain ⟨q, cq, rfl, _⟩ := row_form HOW.out
          clear hri hyz hyb hyl hys kt ks HROW HXS hq5
          go_wp2_with fail
          obtain ⟨s0, s1, s2, s3⟩ := KS.out wr (Below.refl _ _)
          go_region_held3 (fun V => V.cell? ⟨w.heap.size, 0, none⟩ = some (.int .i64 f) ∧ V.cell? ⟨w.heap.size, 1, none⟩ = some (.int .i64 o) ∧ V.cell? ⟨w.heap.size, 2, none⟩ = some (.int .i64 s) ∧ V.cell? ⟨w.heap.size, 3, none⟩ = some (.int .i64 r)) (exact KS.out _ (by repeat (first | exact Below.refl _ _ | exact HP2.out | exact HP1.out | apply below_drew)))
            (first
              | (go_at_call 11; refine (Copy_any ys (by omega) _ _ (HRY.out.below (show Below wr.heap.size wr _ from by repeat (first | exact Below.refl _ _ | apply below_drew)))).mono ?_; rintro e wa ⟨va, rfl, hra, hba⟩; have HP1 := Aside0.mk (below_step (show Below wr.heap.size wr _ from by repeat (first | exact Below.refl _ _ | apply below_drew)) hba); have HRA := Aside0.mk hra; clear hba hra)
              | (go_at_call 10; refine (Anew_any f o s r hf ho hs hr hfo ys HYB.out (by omega) _ _ HRA.out).mono ?_; rintro e wb ⟨vb, rfl, hrb, hbb⟩; have HP2 := Aside0.mk (below_step HP1.out hbb); have HRB := Aside0.mk hrb; clear hbb hrb))
          go_wp2_with fail
          have HBb := Aside0.mk HP2.out
          have HRY2 := Aside0.mk (HRZ.out.below HP2.out)
          have hkc0 : (0 : Int) ≤ (k : Int) := by omega
          have hkc1 : (k : Int) ≤ (cap : Int) := by omega
          have hkc2 : k ≤ cap := by omega
          have HRT : Aside0 (RI wb (.slice A k cap) ys) := ⟨by have := HRY2.out.take k hm; rwa [HYS.out] at this⟩
          clear s0 s1 s2 s3
          obtain ⟨s0, s1, s2, s3⟩ := KS.out wb HBb.out
          go_region_held3 (fun V => V.cell? ⟨w.heap.size, 0, none⟩ = some (.int .i64 f) ∧ V.cell? ⟨w.heap.size, 1, none⟩ = some (.int .i64 o) ∧ V.cell? ⟨w.heap.size, 2, none⟩ = some (.int .i64 s) ∧ V.cell? ⟨w.heap.size, 3, none⟩ = some (.int .i64 r)) (exact KS.out _ (by repeat (first | exact HBb.out | exact below_step HBb.out HP4.out | exact below_step HBb.out HP3.out | apply below_drew)))
            (first
              | (go_at_call 11; refine (Copy_any ys (by omega) _ _ (HRT.out.below (show Below wb.heap.size wb _ from by repeat (first | exact Below.refl _ _ | apply below_drew)))).mono ?_; rintro e wc ⟨vwc, rfl, hra, hba⟩; have HP3 := Aside0.mk (below_step (show Below wb.heap.size wb _ from by repeat (first | exact Below.refl _ _ | apply below_drew)) hba); have HRAwc := Aside0.mk hra; clear hba hra)
              | (go_at_call 10; refine (Anew_any f o s r hf ho hs hr hfo ys HYB.out (by omega) _ _ HRAwc.out).mono ?_; rintro e wd ⟨vwd, rfl, hrb, hbb⟩; have HP4 := Aside0.mk (below_step HP3.out hbb); have HRBwd := Aside0.mk hrb; clear hbb hrb))
          go_wp2_with fail
          have HBd := Aside0.mk (below_step HBb.out HP4.out)
          have HRZ3 := Aside0.mk (HRZ.out.below HBd.out)
          clear s0 s1 s2 s3 hkc0 hkc1 hkc2
          obtain ⟨s0, s1, s2, s3⟩ := KS.out wd HBd.out
          go_region_held3 (fun V => V.cell? ⟨w.heap.size, 0, none⟩ = some (.int .i64 f) ∧ V.cell? ⟨w.heap.size, 1, none⟩ = some (.int .i64 o) ∧ V.cell? ⟨w.heap.size, 2, none⟩ = some (.int .i64 s) ∧ V.cell? ⟨w.heap.size, 3, none⟩ = some (.int .i64 r)) (exact KS.out _ (by repeat (first | exact HBd.out | exact below_step HBd.out HP6.out | exact below_step HBd.out HP5.out | apply below_drew)))
            (first
              | (go_at_call 11; refine (Copy_any zs (by omega) _ _ (HRZ3.out.below (show Below wd.heap.size wd _ from by repeat (first | exact Below.refl _ _ | apply below_drew)))).mono ?_; rintro e we ⟨vwe, rfl, hra, hba⟩; have HP5 := Aside0.mk (below_step (show Below wd.heap.size wd _ from by repeat (first | exact Below.refl _ _ | apply below_drew)) hba); have HRAwe := Aside0.mk hra; clear hba hra)
              | (go_at_call 10; refine (Anew_any f o s r hf ho hs hr hfo zs HZ.out (by omega) _ _ HRAwe.out).mono ?_; rintro e wg ⟨vwg, rfl, hrb, hbb⟩; have HP6 := Aside0.mk (below_step HP5.out hbb); have HRBwg := Aside0.mk hrb; clear hbb hrb))
          go_wp2_with fail
          have hla := anew_length f o s r ys
          have hlz := anew_length f o s r zs
          have hmore : ∀ x ∈ anewOf f o s r zs, ∃ y ∈ anewOf f o s r ys, y.1 ≤ x.1 ∧ x.2 ≤ y.2 := by
            obtain ⟨rest, hrest⟩ := HYZ.out
            intro x hx
            rw [hrest] at hx
            exact anew_more f o s r hfo ys rest x hx
          have hra := pw_own_below HRB.out (below_step HP4.out HP6.out)
          have hrd := pw_own_below HRBwd.out HP6.out
          have hrg := HRBwg.out
          obtain ⟨La, hLa⟩ : ∃ La, anewOf f o s r ys = La := ⟨_, rfl⟩
          obtain ⟨Lz, hLz⟩ : ∃ Lz, anewOf f o s r zs = Lz := ⟨_, rfl⟩
          rw [hLa] at hla hmore hra hrd
          rw [hLz] at hlz hmore hrg
          have hla7 : La.length ≤ 7 := by omega
          have hlz7 : Lz.length ≤ 7 := by omega
          obtain ⟨A1, c1, h1, hc1, hC1⟩ := ranges_C (by omega) hra
          obtain ⟨A2, c2, h2, hc2, hC2⟩ := ranges_C (by omega) hrd
          obtain ⟨A3, c3, h3, _⟩ := row_form hrg
          rw [List.length_map] at h1 h2
          subst h1 h2 h3
          have hrs := couplantbase_Ranges.calls _ A1 c1 _ A2 c2 _ true wg hC1 hc1 hC2 hc2 (Ranges_same (La.map toS) (by rw [List.length_map]; omega))
          rw [List.length_map] at hrs
          have HRS := Lib.hid hrs
          have HMORE := Aside0.mk hmore
          have HRAa := Aside0.mk hra
          have HRGg := Aside0.mk hrg
          have hd7a : decide ((7 : Int) < (La.length : Int)) = false := decide_eq_false (by omega)
          have hd7z : decide ((7 : Int) < (Lz.length : Int)) = false := decide_eq_false (by omega)
          have HBg := Aside0.mk (below_step HBd.out HP6.out)
          clear hmore hra hrd hrg hLa hLz hla hlz hC1 hC2 hc1 hc2 hrs s0 s1 s2 s3
          refine HRS.out.mono ?_
          rintro e w7 ⟨rfl, ⟨⟨m7, rfl⟩⟩⟩
          clear HRS
          go_wp2_with fail
          clear hd7a hd7z HRB HRBwd HRBwg HRAwc HRAwe HRA HRT HRY HRY2 HRZ HRZ3 HP1 HP2 HP3 HP4 HP5 HP6 HKT KS
          go_loopw [22] (fun i wr => ∃ (k n : Nat), k ≤ Lz.length ∧ i = .int .i64 k ∧ wr = wg.drewN n) (fun i _ => Lz.length - (intOf i).toNat)
          case atStart => exact ⟨0, _, by omega, rfl, rfl⟩
          case round =>
            obtain ⟨kz, nz, hkz, rfl, rfl⟩ := hrel
            by_cases hlt3 : kz < Lz.length
            · obtain ⟨g3, cp3, he3, _, _, hc3⟩ := own_cells HRGg.out (by omega)
              cases he3
              obtain ⟨e0, e1⟩ := hc3 kz hlt3
              have hxm : Lz[kz]?.getD (0, 0) ∈ Lz := by rw [List.getElem?_eq_getElem hlt3]; exact List.getElem_mem hlt3
              obtain ⟨⟨xl, xh⟩, hx⟩ : ∃ x, Lz[kz]?.getD (0, 0) = x := ⟨_, rfl⟩
              rw [hx] at e0 e1 hxm
              simp only at e0 e1
              have HM := Aside0.mk (HMORE.out _ hxm)
              have E0 := Aside0.mk e0
              have E1 := Aside0.mk e1
              clear hx hxm hc3 e0 e1
              go_wp2_with fail
              go_loopw [23, 24] (fun b j wr => ∃ (jn n2 : Nat) (bb : Bool), jn ≤ La.length ∧ j = .int .i64 jn ∧ b = .bool bb ∧ Aside0 (bb = (La.take jn).any fun y => decide (y.1 ≤ xl) && decide (xh ≤ y.2)) ∧ wr = wg.drewN n2) (fun _ j _ => La.length - (intOf j).toNat)
              case atStart => exact ⟨0, _, false, by omega, rfl, rfl, ⟨rfl⟩, rfl⟩
              case round =>
                obtain ⟨jn, n2, bb, hjn, rfl, rfl, HBB, rfl⟩ := hrel
                by_cases hlt4 : jn < La.length
                · obtain ⟨g1, cp1, he1, _, _, hc1⟩ := own_cells HRAa.out (by omega)
                  cases he1
                  obtain ⟨d0, d1⟩ := hc1 jn hlt4
                  have hstep : ∀ P : Int × Int → Bool, (La.take (jn + 1)).any P = ((La.take jn).any P || P (La[jn]?.getD (0, 0))) := fun P => by
                    rw [List.take_succ_eq_append_getElem hlt4, List.any_append, List.getElem?_eq_getElem hlt4]
                    simp
                  obtain ⟨⟨yl, yh⟩, hy⟩ : ∃ y, La[jn]?.getD (0, 0) = y := ⟨_, rfl⟩
                  rw [hy] at d0 d1 hstep
                  simp only at d0 d1
                  have HSTEP := Aside0.mk (hstep (fun y => decide (y.1 ≤ xl) && decide (xh ≤ y.2)))
                  have e0 := E0.out
                  have e1 := E1.out
                  have b0 : (0 : Int) ≤ (jn : Int) := by omega
                  have b1 : (jn : Int) < (La.length : Int) := by omega
                  have b2 : (0 : Int) ≤ (kz : Int) := by omega
                  have b3 : (kz : Int) < (Lz.length : Int) := by omega
                  clear hy hstep hc1
                  by_cases hyx : yl ≤ xl
                  · by_cases hxy : xh ≤ yh
                    · go_wp2_with fail
                      go_quiet (fail)
                      go_wp2_with fail
                      go_roundw
                      case rel => exact ⟨jn + 1, _, true, by omega, by go_num, rfl, ⟨by rw [HSTEP.out, ← HBB.out]; simp [hyx, hxy]⟩, rfl⟩
                      case measure => simp [intOf]; omega
                    · go_wp2_with fail
                      go_quiet (fail)
                      go_wp2_with fail
                      go_roundw
                      case rel => exact ⟨jn + 1, _, bb, by omega, by go_num, rfl, ⟨by rw [HSTEP.out, ← HBB.out]; have h9 : ¬ xh ≤ yh := (by omega); simp [h9]⟩, rfl⟩
                      case measure => simp [intOf]; omega
                  · have hd : decide (yl ≤ xl) = false := decide_eq_false hyx
                    go_wp2_with fail
                    go_quiet (fail)
                    go_wp2_with fail
                    go_roundw
                    case rel => exact ⟨jn + 1, _, bb, by omega, by go_num, rfl, ⟨by rw [HSTEP.out, ← HBB.out]; have h9 : ¬ yl ≤ xl := (by omega); simp [h9]⟩, rfl⟩
                    case measure => simp [intOf]; omega
                · have hbt : bb = true := by
                    rw [HBB.out, List.take_of_length_le (by omega)]
                    exact (inside_any La (xl, xh)).2 HM.out
                  subst hbt
                  go_wp2_with fail
                  go_roundw
                  case rel => exact ⟨kz + 1, _, by omega, by go_num, rfl⟩
                  case measure => simp [intOf]; omega
            · go_wp2_with fail
              go_ret
              exact ⟨rfl, pw_below_drewN (below_step HBA.out HBg.out) _⟩
end Go.Proofs.YtbhbabimfkiibaaDoor
