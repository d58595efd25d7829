/- The number that bytes tell: function whole of package trace. -/
import Derived.Test.YtbhbabimfkiibaaDoorAb
namespace Go.Proofs.YtbhbabimfkiibaaDoor
open Go.RowKit Go.Proofs.YtbhbabimfkiibaaDoorW.PrintWords Go.Proofs.YtbhbabimfkiibaaDoorW.PrintLast Go.Proofs.YtbhbabimfkiibaaDoorW.PrintMore PTopScannedAnew
set_option linter.unusedVariables false
set_option linter.unusedSimpArgs false

theorem bytesWorld_below (w : World) (e : TypeId) (s : ByteArray) : Below w.heap.size w (Lib.bytesWorld w e s) :=
  ⟨rfl, rfl, rfl, by rw [Lib.bytesWorld_size]; omega, fun i hi => Lib.bytesWorld_at_old w e s i hi⟩

def whStep (n : Int) (c : UInt8) : Int := bits BinOp.or IntKind.i64 (wrap64 (n * 256)) (c.toNat : Int)
def whOf (l : List UInt8) : Int := l.foldl whStep 0
theorem whOf_take (l : List UInt8) (k : Nat) (h : k < l.length) : whOf (l.take (k + 1)) = whStep (whOf (l.take k)) (l.getD k 0) := by
  unfold whOf
  rw [List.take_succ_eq_append_getElem h, List.foldl_append]
  simp [h]

theorem whole_any (s : ByteArray) (w : World) (hs : s.size ≤ 1000000) :
    Calls Tryd.prog 31 #[.string s] w fun e w' => e = .returned (.int .i64 (whOf s.data.toList)) ∧ Below w.heap.size w w' := by
  have hcv := fun w => Lib.run_convert_string_bytes (P := Tryd.prog) w 9 67 5 s Tryd.underlying9 Tryd.underlying67 Tryd.underlying5
  have hb0 := bytesWorld_below w 5 s
  have hcell : ∀ j, j < s.size → (Lib.bytesWorld w 5 s).cell? ⟨w.heap.size, j, none⟩ = some (.int .u8 (s.data.toList.getD j 0).toNat) := Lib.bytesWorld_cell w 5 s
  have HC := Lib.hid hcell
  have HB := Lib.hid hb0
  clear hcell hb0
  go_enter Tryd.func31, Tryd.ntmps31
  go_wp2_with fail
  generalize hW : Lib.bytesWorld w 5 s = W at *
  clear hW
  go_loop [3, 9] (fun v i => ∃ (k : Nat) (n : Int), k ≤ s.size ∧ i = .int .i64 k ∧ v = .int .i64 n ∧ Aside0 (n = whOf (s.data.toList.take k))) (fun _ i => s.size - (intOf i).toNat)
  case atStart => exact ⟨0, 0, Nat.zero_le _, rfl, rfl, ⟨rfl⟩⟩
  case round =>
    obtain ⟨k, n, hk, rfl, rfl, HN⟩ := hrel
    by_cases hlt : k < s.size
    · have hcell := HC.out k hlt
      have hc8 : (s.data.toList.getD k 0).toNat < 256 := UInt8.toNat_lt _
      have HT := Aside0.mk (whOf_take s.data.toList k (by simpa using hlt))
      generalize hce : s.data.toList.getD k 0 = cc at *
      have hcc : (cc.toNat : Int) = (cc.toNat : Int) := rfl
      obtain ⟨c, hc⟩ : ∃ c : Nat, c = cc.toNat := ⟨_, rfl⟩
      rw [← hc] at hcell hc8
      have HCc := Aside0.mk hc
      clear HC hce hcc hc
      go_wp2_with fail
      go_round
      case rel =>
        refine ⟨k + 1, _, by omega, by go_num, rfl, ⟨?_⟩⟩
        rw [HT.out, ← HN.out, whStep, HCc.out]
      case measure => simp [intOf]; omega
    · clear HC
      go_wp2_with fail
      go_ret
      refine ⟨?_, HB.out⟩
      have : s.data.toList.take k = s.data.toList := List.take_of_length_le (by simp; omega)
      rw [this] at HN
      rw [← HN.out]
      rfl
end Go.Proofs.YtbhbabimfkiibaaDoor
