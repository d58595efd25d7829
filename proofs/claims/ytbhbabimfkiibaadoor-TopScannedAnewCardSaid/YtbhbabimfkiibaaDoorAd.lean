/- slices.Chunk of bytes by two, over an even number of bytes: its contract as an iterator. -/
import Derived.Test.YtbhbabimfkiibaaDoorAc
import Derived.RangeFuncBox
import Derived.RangeFuncLeaves
import Derived.RangeFuncNested
import Derived.Shelf.Abstract
import Derived.OwnWalkIn
import Derived.TacticsInMore
import Derived.LoopNIn
import Derived.LoopIn
namespace Go.Proofs.YtbhbabimfkiibaaDoor
open Go.RowKit Go.Shelf Go.Proofs.YtbhbabimfkiibaaDoorW.PrintWords Go.Proofs.YtbhbabimfkiibaaDoorW.PrintLast Go.Proofs.YtbhbabimfkiibaaDoorW.PrintMore PTopScannedAnew
set_option linter.unusedVariables false
set_option linter.unusedSimpArgs false
attribute [local go_sem] Oper.semAt_some

abbrev Ix (M : Nat) := { k : Nat // k < M }

/-- Two blocks lie as they lay. -/
def Two (B C : Nat) (W W' : World) : Prop := W'.heap[B]? = W.heap[B]? ∧ W'.heap[C]? = W.heap[C]?
theorem Two.refl (B C : Nat) (W : World) : Two B C W W := ⟨rfl, rfl⟩
theorem Two.trans {B C : Nat} {W W' W'' : World} (h : Two B C W W') (k : Two B C W' W'') : Two B C W W'' := ⟨k.1.trans h.1, k.2.trans h.2⟩
theorem Two.drew {B C : Nat} {W W' : World} (h : Two B C W W') : Two B C W W'.drew := h
theorem Two.cell0 {B C : Nat} {W W' : World} (h : Two B C W W') (i : Nat) : W'.cell? ⟨B, i, none⟩ = W.cell? ⟨B, i, none⟩ := by simp [World.cell?, h.1]
theorem Two.cell1 {B C : Nat} {W W' : World} (h : Two B C W W') (i : Nat) : W'.cell? ⟨C, i, none⟩ = W.cell? ⟨C, i, none⟩ := by simp [World.cell?, h.2]
theorem Two.below {n₀ B C : Nat} {W W' : World} (h : Below n₀ W W') (hB : B < n₀) (hC : C < n₀) : Two B C W W' := ⟨h.block B hB, h.block C hC⟩
theorem two_t {B C : Nat} {X Y Z : World} (h : Two B C X Y) (k : Two B C Y Z) : Two B C X Z := h.trans k
theorem two_b {B C n : Nat} (hB : B < n) (hC : C < n) (W : World) (l : Nat) (o o' : Obj) (hl : n ≤ l) (_ : W.heap[l]? = some o) (_ : o.isCells = false) (_ : o.isWalk = false) : Two B C W (W.putObj l o') :=
  ⟨World.putObj_heap_other (by omega), World.putObj_heap_other (by omega)⟩
theorem Two.set {B C b i : Nat} {W W' : World} (v : Value) (h : Two B C W W') (hB : b ≠ B) (hC : b ≠ C) : Two B C W (W'.setCell ⟨b, i, none⟩ v) :=
  h.trans ⟨Below.heap_setCell _ _ _ B (fun e => hB e.symm), Below.heap_setCell _ _ _ C (fun e => hC e.symm)⟩

set_option maxRecDepth 100000 in
set_option maxHeartbeats 2000000 in
theorem chunk1_in (F : Fence) (n : Nat) (h46 : F.fn 46) (hro : F.round = none) (hn : 1 ≤ n) (l Bs Bn b off M cap : Nat) (hM : M ≤ 100000) (hcap : 2 * M ≤ cap) (hcm : cap ≤ maxLen) (J Jx : List (Ix M) → World → Prop)
    (hJd : ∀ pre W, J pre W → J pre W.drew)
    (hY : ∀ pre x W, J pre W → pre.length < M → YieldAt F (n - 1) Tryd.prog l #[.slice (some ⟨b, off + 2 * x.1, none⟩) 2 2] W fun e W' =>
      (e = .returned (.bool true) ∧ J (pre ++ [x]) W' ∧ Two Bs Bn W W') ∨ (e = .returned (.bool false) ∧ Jx (pre ++ [x]) W'))
    (W : World) (hcs : W.cell? ⟨Bs, 0, none⟩ = some (.slice (some ⟨b, off, none⟩) (2 * M) cap)) (hcn : W.cell? ⟨Bn, 0, none⟩ = some (.int .i64 2)) (h0 : J [] W) :
    CallsIn F n Tryd.prog 46 #[.func (.yield l) #[] #[], .pointer (some ⟨Bs, 0, none⟩), .pointer (some ⟨Bn, 0, none⟩)] W fun e W' => (∃ v, e = .returned v) ∧
      ((∃ ys, J ys W') ∨ (∃ pre, Jx pre W')) := by
  refine callsIn_of_wp Tryd.func46 rfl h46 ?_ hro
  simp only [Tryd.ntmps46, List.size_toArray, List.length_cons, List.length_nil, Nat.reduceAdd, Nat.reduceSub, Array.replicate_succ, Array.replicate_zero, List.push_toArray, List.append_toArray, List.nil_append, List.cons_append]
  unfold maxLen at hcm
  gi_wp2
  gi_loopw [4] (fun i wr => ∃ (k : Nat) (pre : List (Ix M)), k ≤ M ∧ pre.length = k ∧ i = .int .i64 (2 * (k : Int)) ∧ J pre wr ∧ Two Bs Bn W wr)
    (fun i _ => 2 * M - (intOf i).toNat)
  case atStart => exact ⟨0, [], Nat.zero_le _, rfl, rfl, h0, Two.refl _ _ _⟩
  case round =>
    obtain ⟨k, pre, hk, hpl, rfl, hJs, hnx⟩ := hrel
    have hcs' := (hnx.cell0 0).trans hcs
    have hcn' := (hnx.cell1 0).trans hcn
    have HJ := Aside0.mk hJs
    have HX := Aside0.mk hnx
    have HP := Aside0.mk hpl
    clear hJs hnx hpl hcs hcn h0
    by_cases hlt : k < M
    · obtain ⟨fn, tmps, assign, body, hy, hR⟩ := hY pre ⟨k, hlt⟩ wr.drew (hJd _ _ HJ.out) (by rw [HP.out]; exact hlt)
      dsimp only at hy
      have hge : ¬ (((2 * M - 2 * k : Nat) : Int) < 2) := by omega
      have HR := Lib.hid hR
      clear hR hY
      gi_wp2_with fail
      gi_region
      all_goals
        gi_wp2_with fail
        refine HR.out.mono ?_
        rintro e W3 (⟨rfl, hJ3, hk3⟩ | ⟨rfl, hJx3⟩)
        · have HJ3 := Aside0.mk hJ3
          have HK3 := Aside0.mk hk3
          have hcs3 := (hk3.cell0 0).trans (show wr.drew.cell? ⟨Bs, 0, none⟩ = _ from hcs')
          have hcn3 := (hk3.cell1 0).trans (show wr.drew.cell? ⟨Bn, 0, none⟩ = _ from hcn')
          clear hJ3 hk3
          gi_wp2_with fail
          go_roundw
          case rel => exact ⟨k + 1, pre ++ [⟨k, hlt⟩], by omega, by simp [HP.out], by simp; omega, HJ3.out, (Two.drew HX.out).trans HK3.out⟩
          case measure => simp [intOf]; omega
        · gi_wp2_with fail
          refine bodyPost_ret (results_none rfl _ _ _) rfl ?_
          exact ⟨⟨_, rfl⟩, .inr ⟨_, hJx3⟩⟩
    · clear hY
      gi_wp2_with fail
      go_end0
      exact ⟨⟨_, rfl⟩, .inl ⟨_, HJ.out⟩⟩

theorem chunk_stops (F : Fence) (n : Nat) (h46 : F.fn 46) (hro : F.round = none) (hn : 1 ≤ n) (Bs Bn b off M cap : Nat) (hM : M ≤ 100000) (hcap : 2 * M ≤ cap) (hcm : cap ≤ maxLen) (w : World) (hBs : Bs < w.heap.size) (hBn : Bn < w.heap.size)
    (hcs : w.cell? ⟨Bs, 0, none⟩ = some (.slice (some ⟨b, off, none⟩) (2 * M) cap)) (hcn : w.cell? ⟨Bn, 0, none⟩ = some (.int .i64 2)) :
    SeqStopsK F n Tryd.prog 46 #[.pointer (some ⟨Bs, 0, none⟩), .pointer (some ⟨Bn, 0, none⟩)] (fun x : Ix M => #[Value.slice (some ⟨b, off + 2 * x.1, none⟩) 2 2]) (Two Bs Bn) (fun _ => True) (fun _ => True) M w := fun l J Jx W hW hJ hJx hY h0 => by
  have h1 := (hW.cell (p := ⟨Bs, 0, none⟩) hBs).trans hcs
  have h2 := (hW.cell (p := ⟨Bn, 0, none⟩) hBn).trans hcn
  -- only worlds at which the heap is no smaller than W's matter to AbidesFrom: a draw turns no block
  refine (chunk1_in F n h46 hro hn l Bs Bn b off M cap hM hcap hcm J Jx (fun pre V h => hJ pre V V.drew none h (grown_of_below (below_drew (Below.refl _ _)) none) (by simp)) hY W h1 h2 h0).mono ?_
  rintro e W' ⟨he, ⟨ys, hj⟩ | ⟨pre, hj⟩⟩
  · exact ⟨he, .inl ⟨ys, trivial, hj⟩⟩
  · exact ⟨he, .inr ⟨pre, trivial, hj⟩⟩
end Go.Proofs.YtbhbabimfkiibaaDoor
