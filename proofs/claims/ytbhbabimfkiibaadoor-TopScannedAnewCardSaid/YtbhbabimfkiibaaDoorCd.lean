/- The law TopScannedAnew returns true: wherever its readings or its track are not right, too. -/
import Derived.Test.YtbhbabimfkiibaaDoorCc
namespace Go.Proofs.YtbhbabimfkiibaaDoor
open Go.RowKit Go.Shelf Go.Proofs.YtbhbabimfkiibaaDoorW.PrintWords Go.Proofs.YtbhbabimfkiibaaDoorW.PrintLast Go.Proofs.YtbhbabimfkiibaaDoorW.PrintMore PTopScannedAnew
set_option linter.unusedVariables false
set_option linter.unusedSimpArgs false

set_option maxRecDepth 100000 in
set_option maxHeartbeats 4000000 in
theorem law_long (f o s r : Int) (n : Nat) (hn : 6 < n) (A : Option Addr) (cap : Nat) (cut : Int) (w : World) (hE : Ends w) :
    Calls Tryd.prog 3 #[.agg #[.int .i64 f, .int .i64 o, .int .i64 s, .int .i64 r], .slice A n cap, .int .i64 cut] w fun e w' => e = .returned (.bool true) ∧ Below w.heap.size w w' := by
  have HE := Aside0.mk hE
  clear hE
  have hlen : decide ((6 : Int) < (n : Int)) = true := decide_eq_true (by omega)
  go_enter Tryd.func3, Tryd.ntmps3
  go_wp2_with fail
  refine (covering_at _ (HE.out.below (show Below w.heap.size w _ from below_alloc (Below.refl _ _) _))).mono ?_
  rintro e w1 ⟨rfl, hb1⟩
  have HB1 := Aside0.mk (below_step (show Below w.heap.size w _ from below_alloc (Below.refl _ _) _) hb1)
  clear hb1
  go_wp2_with fail
  go_ret
  exact ⟨rfl, HB1.out⟩

set_option maxRecDepth 100000 in
set_option maxHeartbeats 4000000 in
theorem law_track (f o s r x : Int) (hx : x ≠ 0) (n : Nat) (hn : n ≤ 6) (A : Option Addr) (cap : Nat) (cut : Int) (w : World) (hE : Ends w) (h1 : couplantref07_CheckTrack.f 1 f o s r = some x) :
    Calls Tryd.prog 3 #[.agg #[.int .i64 f, .int .i64 o, .int .i64 s, .int .i64 r], .slice A n cap, .int .i64 cut] w fun e w' => e = .returned (.bool true) ∧ Below w.heap.size w w' := by
  have HE := Aside0.mk hE
  have H1 := Aside0.mk h1
  clear hE h1
  have hlen : decide ((6 : Int) < (n : Int)) = false := decide_eq_false (by omega)
  have hxb : (x != 0) = true := by simpa using hx
  have hxc : (x == 0) = false := by simpa using hx
  go_enter Tryd.func3, Tryd.ntmps3
  go_wp2_with fail
  refine (covering_at _ (HE.out.below (show Below w.heap.size w _ from below_alloc (Below.refl _ _) _))).mono ?_
  rintro e w1 ⟨rfl, hb1⟩
  have kt := (show Blk (w.alloc (.cells #[.int .i64 f, .int .i64 o, .int .i64 s, .int .i64 r] 23)) w.heap.size 23 _ from Blk.new w _ _).below hb1 (by simp)
  have HB1 := Aside0.mk (below_step (show Below w.heap.size w _ from below_alloc (Below.refl _ _) _) hb1)
  have c0 := kt.cell 0
  have c1 := kt.cell 1
  have c2 := kt.cell 2
  have c3 := kt.cell 3
  simp at c0 c1 c2 c3
  clear kt hb1
  go_wp2_with fail
  refine (couplantref07_CheckTrack.calls 1 f o s r x _ H1.out).mono ?_
  rintro e w2 ⟨rfl, hb2⟩
  have HB2 := Aside0.mk (below_step HB1.out hb2)
  clear hb2 c0 c1 c2 c3
  go_wp2_with fail
  go_ret
  exact ⟨rfl, HB2.out⟩

set_option maxRecDepth 100000 in
set_option maxHeartbeats 4000000 in
theorem law_readings (f o s r x : Int) (hx : x ≠ 0) (zs : List Int) (hzl : zs.length ≤ 6) (A : Option Addr) (cap : Nat) (cut : Int) (w : World) (hE : Ends w) (hR : RI w (.slice A zs.length cap) zs)
    (h1 : couplantref07_CheckTrack.f 1 f o s r = some 0) (h2 : couplantref07_ReadingsErr.f (zs.length + 1) zs = some x) :
    Calls Tryd.prog 3 #[.agg #[.int .i64 f, .int .i64 o, .int .i64 s, .int .i64 r], .slice A zs.length cap, .int .i64 cut] w fun e w' => e = .returned (.bool true) ∧ Below w.heap.size w w' := by
  have HE := Aside0.mk hE
  have HR := Aside0.mk hR
  have H1 := Aside0.mk h1
  have H2 := Aside0.mk h2
  clear hE h1 h2 hR
  have hlen : decide ((6 : Int) < (zs.length : Int)) = false := decide_eq_false (by omega)
  have hxb : (x != 0) = true := by simpa using hx
  have hxc : (x == 0) = false := by simpa using hx
  go_enter Tryd.func3, Tryd.ntmps3
  go_wp2_with fail
  refine (covering_at _ (HE.out.below (show Below w.heap.size w _ from below_alloc (Below.refl _ _) _))).mono ?_
  rintro e w1 ⟨rfl, hb1⟩
  have kt := (show Blk (w.alloc (.cells #[.int .i64 f, .int .i64 o, .int .i64 s, .int .i64 r] 23)) w.heap.size 23 _ from Blk.new w _ _).below hb1 (by simp)
  have HB1 := Aside0.mk (below_step (show Below w.heap.size w _ from below_alloc (Below.refl _ _) _) hb1)
  have c0 := kt.cell 0
  have c1 := kt.cell 1
  have c2 := kt.cell 2
  have c3 := kt.cell 3
  simp at c0 c1 c2 c3
  clear kt hb1
  go_wp2_with fail
  refine (couplantref07_CheckTrack.calls 1 f o s r 0 _ H1.out).mono ?_
  rintro e w2 ⟨rfl, hb2⟩
  have HB2 := Aside0.mk (below_step HB1.out hb2)
  clear hb2 c0 c1 c2 c3
  obtain ⟨A0, cp0, he0, hcp, hC⟩ := (HR.out.below HB2.out).form (by omega)
  cases he0
  have hrc := couplantref07_ReadingsErr.calls (zs.length + 1) A cap zs x w2 hC hcp H2.out
  have HRC := Lib.hid hrc
  clear hrc hC
  go_wp2_with fail
  refine HRC.out.mono ?_
  rintro e w3 ⟨rfl, ⟨⟨m3, rfl⟩⟩⟩
  clear HRC
  go_wp2_with fail
  go_ret
  exact ⟨rfl, pw_below_drewN HB2.out _⟩

/-- The law at whatever track, readings and cut. -/
theorem law_any (f o s r : Int) (zs : List Int) (A : Option Addr) (cap : Nat) (cut : Int) (w : World) (hE : Ends w) (hR : RI w (.slice A zs.length cap) zs) :
    Calls Tryd.prog 3 #[.agg #[.int .i64 f, .int .i64 o, .int .i64 s, .int .i64 r], .slice A zs.length cap, .int .i64 cut] w fun e w' => e = .returned (.bool true) ∧ Below w.heap.size w w' := by
  by_cases hl : 6 < zs.length
  · exact law_long f o s r zs.length hl A cap cut w hE
  obtain ⟨x, hx, hx0⟩ := track_total f o s r
  by_cases h0 : x = 0
  · subst h0
    obtain ⟨hf, ho, hs, hr, hfo⟩ := hx0 rfl
    obtain ⟨y, hy, hy0⟩ := readings_total zs (by omega)
    by_cases h1 : y = 0
    · subst h1
      exact law_main f o s r hf ho hs hr hfo zs (hy0 rfl) (by omega) A cap cut w hE hR hx hy
    · exact law_readings f o s r y h1 zs (by omega) A cap cut w hE hR hx hy
  · exact law_track f o s r x h0 zs.length (by omega) A cap cut w hE hx
end Go.Proofs.YtbhbabimfkiibaaDoor
