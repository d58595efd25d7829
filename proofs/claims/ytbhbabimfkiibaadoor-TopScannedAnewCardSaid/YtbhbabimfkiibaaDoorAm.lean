/- slices.Sorted(slices.Values(s)) of ints. -/
import Derived.Test.YtbhbabimfkiibaaDoorAl
import Derived.Shelf.SlIterI.Nil
import Derived.Test.YtbhbabimfkiibaaDoorSh
namespace Go.Proofs.YtbhbabimfkiibaaDoor
open Go.RowKit Go.Shelf Go.Sort Go.Maps Go.Proofs.YtbhbabimfkiibaaDoorW.PrintWords Go.Proofs.YtbhbabimfkiibaaDoorW.PrintLast Go.Proofs.YtbhbabimfkiibaaDoorW.PrintMore PTopScannedAnew
set_option linter.unusedVariables false
set_option linter.unusedSimpArgs false
attribute [local go_sem] Oper.semAt_some

def sorted (zs : List Int) : List Int := zs.mergeSort fun x y => decide (x ≤ y)

theorem Sort_calls (blk off cap : Nat) (zs : List Int) (W : World) (hH : Holds (Value.int .i64) W blk off zs.toArray) (hblk : blk < W.heap.size) (hsz : zs.length < 4611686018427387904) :
    Calls Tryd.prog 49 #[.slice (some ⟨blk, off, none⟩) zs.length cap] W fun e w' => e = .returned (.tuple #[]) ∧ ∃ k os, w' = grow (putRow (Value.int .i64) (Sort.ahead W k) blk off (zs.mergeSort fun x y => decide (x ≤ y)).toArray) os := AnyM.slices_Sort_int Tryd.sortA blk off cap zs W hH hblk hsz
theorem Sort_none (p : Option Addr) (cap : Nat) (W : World) :
    Calls Tryd.prog 49 #[.slice p 0 cap] W fun e w' => e = .returned (.tuple #[]) ∧ w' = W := AnyM.slices_Sort_int_none Tryd.sortA p cap W

set_option maxRecDepth 100000 in
set_option maxHeartbeats 2000000 in
theorem Sorted_calls (Bs : Nat) (sv : Value) (zs : List Int) (hlen : zs.length ≤ 1000000) (w : World) (hBs : Bs < w.heap.size) (hc : w.cell? ⟨Bs, 0, none⟩ = some sv) (hI : Ints w.heap.size w sv zs) :
    Calls Tryd.prog 35 #[.func (.func 50) #[] #[.pointer (some ⟨Bs, 0, none⟩)]] w fun e W' => ∃ v, e = .returned v ∧ W'.ownsRow w.heap.size 3 1 v zs.length ((sorted zs).map (Value.int .i64)) ∧ Below w.heap.size w W' := by
  refine (callsIn_wide (n := 6)).1 ?_
  have h35 : Fence.wide.fn 35 := trivial
  have h48 : Fence.wide.fn 48 := trivial
  have h49 : Fence.wide.fn 49 := trivial
  refine callsIn_of_wp Tryd.func35 rfl h35 ?_ rfl
  simp only [Tryd.ntmps35, List.size_toArray, List.length_cons, List.length_nil, Nat.reduceAdd, Nat.reduceSub, Array.replicate_succ, Array.replicate_zero, List.push_toArray, List.append_toArray, List.nil_append, List.cons_append]
  gi_wp2_with (gi_at_call 48; refine (Collect_in Fence.wide 5 h48 trivial trivial rfl (by omega) Bs sv zs hlen _ hBs hc hI).mono ?_; rintro e W ⟨v, rfl, hrow, hb⟩)
  rcases hrow.2 with ⟨rfl, hz⟩ | ⟨gb, cap, cur, rfl, hbase, hgb, r1, r2, r3, r4⟩
  · have hss : zs = [] := List.eq_nil_of_length_eq_zero hz
    subst hss
    gi_wp2_with (gi_at_call 49; refine (callsIn_wide.2 (Sort_none none 0 W)).mono ?_; rintro e w' ⟨rfl, rfl⟩)
    go_ret
    exact ⟨.slice none 0 0, rfl, by simpa [sorted] using hrow, hb⟩
  · have hH : Holds (Value.int .i64) W gb 0 zs.toArray := holds_of_block_i hgb (by simpa using r4)
    have hgl : gb < W.heap.size := (Array.getElem?_eq_some_iff.1 hgb).1
    have hsz : zs.length < 4611686018427387904 := by omega
    gi_wp2_with (gi_at_call 49; refine (callsIn_wide.2 (Sort_calls gb 0 cap zs W hH hgl hsz)).mono ?_; rintro e w' ⟨rfl, nn, os, rfl⟩)
    go_ret
    have hl : (zs.mergeSort fun x y => decide (x ≤ y)).length = zs.length := by simp
    exact ⟨_, rfl, ownsRow_sorted_i (by simp) hbase hgb r1 r2 r3, hb.grown (grownBy_sorted_i _) hb.size (fun j hj => by cases hj; exact hbase)⟩
end Go.Proofs.YtbhbabimfkiibaaDoor
