/- slices.Chunk of bytes by two: the maker; and the box of a frame that collects. A round of ParseFrame's loop: the two bytes as a text. -/
import Derived.Test.YtbhbabimfkiibaaDoorAg
import Derived.Laws.BytesString
namespace Go.Proofs.YtbhbabimfkiibaaDoor
open Go.RowKit Go.Shelf Go.Proofs.YtbhbabimfkiibaaDoorW.PrintWords Go.Proofs.YtbhbabimfkiibaaDoorW.PrintLast Go.Proofs.YtbhbabimfkiibaaDoorW.PrintMore PTopScannedAnew
set_option linter.unusedVariables false
set_option linter.unusedSimpArgs false
attribute [local go_sem] Oper.semAt_some

theorem Chunk_in (F : Fence) (n : Nat) (h32 : F.fn 32) (hro : F.round = none) (q : Option Addr) (k c : Nat) (w : World) :
    CallsIn F n Tryd.prog 32 #[.slice q k c, .int .i64 2] w fun e w' => e = .returned (.func (.func 46) #[] #[.pointer (some ⟨w.heap.size, 0, none⟩), .pointer (some ⟨w.heap.size + 1, 0, none⟩)]) ∧
      w' = (w.alloc (.cells #[.slice q k c] 67)).alloc (.cells #[.int .i64 2] 3) := by
  refine callsIn_of_wp Tryd.func32 rfl h32 ?_ hro
  simp only [Tryd.ntmps32, List.size_toArray, List.length_cons, List.length_nil, Nat.reduceAdd, Nat.reduceSub, Array.replicate_succ, Array.replicate_zero, List.push_toArray, List.append_toArray, List.nil_append, List.cons_append]
  gi_wp2
  go_ret
  exact ⟨rfl, by simp⟩

/-- A block of three cells. -/
def Box3 (W : World) (B : Nat) (t : TypeId) (a b v : Value) : Prop := W.heap[B]? = some (.cells #[a, b, v] t (0, 0))
theorem Box3.lt {W : World} {B : Nat} {t : TypeId} {a b v : Value} (h : Box3 W B t a b v) : B < W.heap.size := (Array.getElem?_eq_some_iff.1 h).1
theorem Box3.c0 {W : World} {B : Nat} {t : TypeId} {a b v : Value} (h : Box3 W B t a b v) : W.cell? ⟨B, 0, none⟩ = some a := by simp [World.cell?, show W.heap[B]? = _ from h]
theorem Box3.c1 {W : World} {B : Nat} {t : TypeId} {a b v : Value} (h : Box3 W B t a b v) : W.cell? ⟨B, 1, none⟩ = some b := by simp [World.cell?, show W.heap[B]? = _ from h]
theorem Box3.c2 {W : World} {B : Nat} {t : TypeId} {a b v : Value} (h : Box3 W B t a b v) : W.cell? ⟨B, 2, none⟩ = some v := by simp [World.cell?, show W.heap[B]? = _ from h]
theorem Box3.z (i : Nat) {W : World} {B : Nat} {t : TypeId} {a b v : Value} (h : Box3 W B t a b v) : W.frozen? ⟨B, i, none⟩ = false := by simp [World.frozen?, show W.heap[B]? = _ from h]
theorem Box3.new (W : World) (t : TypeId) (a b v : Value) : Box3 (W.alloc (.cells #[a, b, v] t)) W.heap.size t a b v := World.alloc_heap_new W _
theorem Box3.kept {W W' : World} {row : Option Nat} {B : Nat} {t : TypeId} {a b v : Value} (h : Box3 W B t a b v) (hg : W.grownBy W' row) (hne : some B ≠ row) : Box3 W' B t a b v := (hg.block B h.lt hne).trans h
theorem Box3.below {n₀ : Nat} {W W' : World} {B : Nat} {t : TypeId} {a b v : Value} (h : Box3 W B t a b v) (hb : Below n₀ W W') (hB : B < n₀) : Box3 W' B t a b v := by
  have := hb.block B hB
  exact this.trans h
theorem Box3.alloc {W : World} {B : Nat} {t : TypeId} {a b v : Value} (h : Box3 W B t a b v) (o : Obj) : Box3 (W.alloc o) B t a b v := h.kept (World.grownBy_alloc W o none) (by simp)
theorem Box3.set {W : World} {B : Nat} {t : TypeId} {a b v : Value} (v' : Value) (h : Box3 W B t a b v) : Box3 (W.setCell ⟨B, 2, none⟩ v') B t a b v' := by
  obtain ⟨hlt, hk⟩ := Array.getElem?_eq_some_iff.1 h
  show (W.heap.modify B _)[B]? = _
  rw [Array.getElem?_eq_getElem (by rw [Array.size_modify]; exact hlt), Array.getElem_modify_self, hk]
  rfl
theorem grownBy_setCell2 (W : World) (b i : Nat) (v : Value) : W.grownBy (W.setCell ⟨b, i, none⟩ v) (some b) :=
  ⟨rfl, rfl, rfl, (KeepsWalks.setCell W _ v).size, fun k _ hk => Below.heap_setCell _ _ _ k (fun e => hk (by rw [e]))⟩
theorem Box3.not_row {W : World} {B : Nat} {t e : TypeId} {a b u : Value} (h : Box3 W B t a b u) (hte : t ≠ e) {base size k : Nat} {v : Value} {xs : List Value} (hr : W.ownsRow base e size v k xs) : some B ≠ v.ownBlock := by
  rcases hr.2 with ⟨rfl, _⟩ | ⟨g, cap, cur, rfl, _, hgb, _⟩
  · simp [Value.ownBlock]
  · intro e'
    obtain rfl : B = g := by simpa [Value.ownBlock] using e'
    have := (show W.heap[B]? = _ from h).symm.trans hgb
    simp at this
    exact hte this.2

theorem Box3.appended {W w1 : World} {n₀ B : Nat} {t e : TypeId} {size : Nat} {a b v v' : Value} {k m : Nat} {xs ys : List Value} {tmp : Obj}
    (hv : Box3 W B t a b v) (hte : t ≠ e) (hrow : W.ownsRow n₀ e size v k xs) (hn₀ : n₀ ≤ W.heap.size) (hB : n₀ ≤ B)
    (hown' : w1.ownsRow n₀ e size v' m ys) (hgrow : (W.alloc tmp).grownBy w1 v.ownBlock) :
    Box3 w1 B t a b v ∧ Box3 (w1.setCell ⟨B, 2, none⟩ v') B t a b v' ∧ (w1.setCell ⟨B, 2, none⟩ v').ownsRow n₀ e size v' m ys ∧ KeepsOthers W (w1.setCell ⟨B, 2, none⟩ v') ∧ Below n₀ W (w1.setCell ⟨B, 2, none⟩ v') := by
  have hv1 : Box3 w1 B t a b v := (hv.alloc tmp).kept hgrow (hv.not_row hte hrow)
  refine ⟨hv1, hv1.set v', hown'.kept (grownBy_setCell2 w1 B 2 v') (.inr (hv1.not_row hte hown').symm), ?_, ?_⟩
  · refine ((KeepsOthers.alloc W tmp).trans (KeepsOthers.of_grownBy hgrow fun j o ej hj => ?_)).trans (KeepsOthers.setCell _ _ _)
    rcases (hrow.alloc tmp).2 with ⟨rfl, _⟩ | ⟨g, cap, cur, rfl, _, hgb, _⟩
    · simp [Value.ownBlock] at ej
    · obtain rfl : g = j := by simpa [Value.ownBlock] using ej
      rw [hgb] at hj; cases hj; rfl
  · refine (((Below.refl n₀ W).alloc hn₀ tmp).grown hgrow (by simp; omega) fun j ej => ?_).setCell (p := ⟨B, 2, none⟩) hB v'
    rcases hrow.2 with ⟨rfl, _⟩ | ⟨g, cap, cur, rfl, hb, _, _⟩
    · simp [Value.ownBlock] at ej
    · obtain rfl : g = j := by simpa [Value.ownBlock] using ej
      exact hb
theorem box3_own {β : Type} (n₀ B : Nat) (t e : TypeId) (size : Nat) (a b : Value) (k : β → Nat) : Own (fun (s : β) W => ∃ v xs, Box3 W B t a b v ∧ W.ownsRow n₀ e size v (k s) xs) := by
  rintro s X Y row ⟨v, xs, hv, hr⟩ hg hrow
  refine ⟨v, xs, hv.kept hg (fun e' => ?_), hr.kept hg ?_⟩
  · obtain ⟨o, ho, hc⟩ := hrow B e'.symm
    rw [show X.heap[B]? = _ from hv] at ho; cases ho; cases hc
  · rcases hr.2 with ⟨rfl, _⟩ | ⟨g, cap, cur, rfl, _, hgb, _⟩
    · exact .inl rfl
    · refine .inr fun e' => ?_
      obtain ⟨o, ho, hc⟩ := hrow g (by simpa [Value.ownBlock] using e'.symm)
      rw [hgb] at ho; cases ho; cases hc
end Go.Proofs.YtbhbabimfkiibaaDoor

namespace Go.Proofs.YtbhbabimfkiibaaDoor
open Go.RowKit Go.Shelf Go.Proofs.YtbhbabimfkiibaaDoorW.PrintWords Go.Proofs.YtbhbabimfkiibaaDoorW.PrintLast Go.Proofs.YtbhbabimfkiibaaDoorW.PrintMore PTopScannedAnew
set_option linter.unusedVariables false
set_option linter.unusedSimpArgs false

theorem two_string (W : World) (b o : Nat) (x y : Int) (h0 : W.cell? ⟨b, o, none⟩ = some (.int .u8 x)) (h1 : W.cell? ⟨b, o + 1, none⟩ = some (.int .u8 y)) :
    ∃ s : ByteArray, s.size = 2 ∧ (convert 67 9 (.slice (some ⟨b, o, none⟩) 2 2)).run Tryd.prog W = .ok (.string s) W := by
  have hl := run_loadCells_list (P := Tryd.prog) W ⟨b, o, none⟩ [.int .u8 x, .int .u8 y] (by
    intro j u hj
    have ha : (⟨b, o, none⟩ : Addr).add j = ⟨b, o + j, none⟩ := by unfold Addr.add; split <;> simp_all
    rw [ha]
    match j, hj with
    | 0, hj => cases hj; exact h0
    | 1, hj => cases hj; exact h1)
  exact ⟨_, rfl, (run_convert_bytes_string W _ _ 5 _ 2 2 Tryd.underlying67 Tryd.underlying5 Tryd.underlying9).trans (run_bytesToString W _ 2 2 [x, y] hl)⟩

theorem lies_own {β : Type} {W3 : World} {a : Addr} {x : Value} (hc : W3.cell? a = some x) : Own (fun (_ : β) W => W.heap[a.block]? = W3.heap[a.block]?) := by
  rintro s X Y row h hg hrow
  have hX : X.cell? a = some x := (World.cell?_of_block h).trans hc
  obtain ⟨o, ho, hcc⟩ := cells_of_cell hX
  exact (grownBy_keeps_cells hg hrow ho hcc).trans h

theorem keepsOthers_of_below {W W' : World} (h : Below W.heap.size W W') : KeepsOthers W W' :=
  ⟨h.size, fun k o hk _ => (h.block k (Array.getElem?_eq_some_iff.1 hk).1).trans hk⟩

theorem small_total (p M : Int) : ∃ r, trace_small.f p M = some r := by
  simp only [trace_small.f, trace_within.f]
  split <;> exact ⟨_, rfl⟩

theorem Box3.collects {W w1 : World} {base B : Nat} {t e : TypeId} {size : Nat} {a b v v' : Value} {k m : Nat} {xs ys : List Value} {tmp : Obj}
    (hv : Box3 W B t a b v) (hte : t ≠ e) (hrow : W.ownsRow base e size v k xs) (hb : base ≤ W.heap.size) (hB : B < base)
    (hown' : w1.ownsRow base e size v' m ys) (hgrow : (W.alloc tmp).grownBy w1 v.ownBlock) :
    Box3 w1 B t a b v ∧ Box3 (w1.setCell ⟨B, 2, none⟩ v') B t a b v' ∧ (w1.setCell ⟨B, 2, none⟩ v').ownsRow base e size v' m ys ∧ KeepsOthers W (w1.setCell ⟨B, 2, none⟩ v') ∧
      (∀ j, j < base → j ≠ B → (w1.setCell ⟨B, 2, none⟩ v').heap[j]? = W.heap[j]?) ∧ Below B W (w1.setCell ⟨B, 2, none⟩ v') ∧ W.heap.size ≤ (w1.setCell ⟨B, 2, none⟩ v').heap.size := by
  have hv1 : Box3 w1 B t a b v := (hv.alloc tmp).kept hgrow (hv.not_row hte hrow)
  have hs1 : W.heap.size ≤ (w1.setCell ⟨B, 2, none⟩ v').heap.size := by
    have h1 := hgrow.size
    have h2 := (KeepsOthers.setCell w1 ⟨B, 2, none⟩ v').size
    simp only [World.size_alloc] at h1
    omega
  have hot : ∀ j, j < base → j ≠ B → (w1.setCell ⟨B, 2, none⟩ v').heap[j]? = W.heap[j]? := fun j hj hne => by
    refine (Below.heap_setCell _ _ _ j hne).trans ((hgrow.block j (by simp only [World.size_alloc]; omega) (fun e => ?_)).trans (Below.heap_alloc W tmp j (by omega)))
    have := hrow.lt j e.symm
    omega
  refine ⟨hv1, hv1.set v', hown'.kept (grownBy_setCell2 w1 B 2 v') (.inr (hv1.not_row hte hown').symm), ?_, hot, ?_, hs1⟩
  · refine ((KeepsOthers.alloc W tmp).trans (KeepsOthers.of_grownBy hgrow fun j o ej hj => ?_)).trans (KeepsOthers.setCell _ _ _)
    rcases (hrow.alloc tmp).2 with ⟨rfl, _⟩ | ⟨g, cap, cur, rfl, _, hgb, _⟩
    · simp [Value.ownBlock] at ej
    · obtain rfl : g = j := by simpa [Value.ownBlock] using ej
      rw [hgb] at hj; cases hj; rfl
  · exact ⟨hgrow.os, hgrow.tape, hgrow.output, hs1, fun j hj => hot j (by omega) (by omega)⟩

theorem Two.of {base B C D : Nat} {W W' W'' : World} (h : Two C D W W') (k : ∀ j, j < base → j ≠ B → W''.heap[j]? = W'.heap[j]?) (hC : C < base) (hD : D < base) (hC' : C ≠ B) (hD' : D ≠ B) : Two C D W W'' :=
  h.trans ⟨k C hC hC', k D hD hD'⟩
end Go.Proofs.YtbhbabimfkiibaaDoor
