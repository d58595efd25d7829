/- A name's check. -/
import Derived.Test.YtbhbabimfkiibaaDoorAc
namespace Go.Proofs.YtbhbabimfkiibaaDoor
open Go.RowKit Go.Proofs.YtbhbabimfkiibaaDoorW.PrintWords Go.Proofs.YtbhbabimfkiibaaDoorW.PrintLast Go.Proofs.YtbhbabimfkiibaaDoorW.PrintMore PTopScannedAnew
set_option linter.unusedVariables false
set_option linter.unusedSimpArgs false

theorem ba_len (s : ByteArray) : s.toList.length = s.size := by rw [ByteArray.toList_eq]; rfl

def nmOk (i c : Nat) : Bool := (decide (97 ≤ c) && decide (c ≤ 122)) || (decide (65 ≤ c) && decide (c ≤ 90)) || (i != 0 && (c == 45 || (decide (48 ≤ c) && decide (c ≤ 57))))
def nmGo : List UInt8 → Nat → Bool
  | [], _ => true
  | c :: t, i => nmOk i c.toNat && nmGo t (i + 1)
def nmB (s : ByteArray) : Bool := nmGo s.data.toList 0 && decide (1 ≤ s.size) && decide (s.size ≤ 12)

theorem nmGo_drop (l : List UInt8) (k : Nat) (h : k < l.length) : nmGo (l.drop k) k = (nmOk k (l.getD k 0).toNat && nmGo (l.drop (k + 1)) (k + 1)) := by
  rw [List.drop_eq_getElem_cons h, nmGo]
  simp [h]

theorem nm_cases (k c : Nat) :
    (nmOk k c = true ∧ decide (97 ≤ (c : Int)) = true ∧ decide ((c : Int) ≤ 122) = true) ∨
    (nmOk k c = true ∧ decide (97 ≤ (c : Int)) = false ∧ decide (65 ≤ (c : Int)) = true ∧ decide ((c : Int) ≤ 90) = true) ∨
    (nmOk k c = false ∧ decide (97 ≤ (c : Int)) = false ∧ decide (65 ≤ (c : Int)) = false ∧ ((k : Int) == 0) = true) ∨
    (nmOk k c = false ∧ decide (97 ≤ (c : Int)) = false ∧ decide (65 ≤ (c : Int)) = true ∧ decide ((c : Int) ≤ 90) = false ∧ ((k : Int) == 0) = true) ∨
    (nmOk k c = false ∧ decide (97 ≤ (c : Int)) = true ∧ decide ((c : Int) ≤ 122) = false ∧ decide (65 ≤ (c : Int)) = true ∧ decide ((c : Int) ≤ 90) = false ∧ ((k : Int) == 0) = true) ∨
    (nmOk k c = true ∧ decide (97 ≤ (c : Int)) = false ∧ decide (65 ≤ (c : Int)) = false ∧ ((k : Int) == 0) = false ∧ ((c : Int) != 45) = false) ∨
    (nmOk k c = true ∧ decide (97 ≤ (c : Int)) = false ∧ decide (65 ≤ (c : Int)) = false ∧ ((k : Int) == 0) = false ∧ ((c : Int) != 45) = true ∧ decide ((c : Int) < 48) = false ∧ decide (57 < (c : Int)) = false) ∨
    (nmOk k c = false ∧ decide (97 ≤ (c : Int)) = false ∧ decide (65 ≤ (c : Int)) = false ∧ ((k : Int) == 0) = false ∧ ((c : Int) != 45) = true ∧ decide ((c : Int) < 48) = true) ∨
    (nmOk k c = false ∧ decide (97 ≤ (c : Int)) = false ∧ decide (65 ≤ (c : Int)) = false ∧ ((k : Int) == 0) = false ∧ ((c : Int) != 45) = true ∧ decide ((c : Int) < 48) = false ∧ decide (57 < (c : Int)) = true) ∨
    (nmOk k c = false ∧ decide (97 ≤ (c : Int)) = false ∧ decide (65 ≤ (c : Int)) = true ∧ decide ((c : Int) ≤ 90) = false ∧ ((k : Int) == 0) = false ∧ ((c : Int) != 45) = true ∧ decide ((c : Int) < 48) = false ∧ decide (57 < (c : Int)) = true) ∨
    (nmOk k c = false ∧ decide (97 ≤ (c : Int)) = true ∧ decide ((c : Int) ≤ 122) = false ∧ decide (65 ≤ (c : Int)) = true ∧ decide ((c : Int) ≤ 90) = false ∧ ((k : Int) == 0) = false ∧ ((c : Int) != 45) = true ∧ decide ((c : Int) < 48) = false ∧ decide (57 < (c : Int)) = true) := by
  have h0 : ((k : Int) == 0) = (k == 0) := by rw [Bool.eq_iff_iff]; simp
  have h1 : ((c : Int) != 45) = !(c == 45) := by rw [Bool.eq_iff_iff]; simp; omega
  have h2 : decide (97 ≤ (c : Int)) = decide (97 ≤ c) := by rw [Bool.eq_iff_iff]; simp; omega
  have h3 : decide ((c : Int) ≤ 122) = decide (c ≤ 122) := by rw [Bool.eq_iff_iff]; simp; omega
  have h4 : decide (65 ≤ (c : Int)) = decide (65 ≤ c) := by rw [Bool.eq_iff_iff]; simp; omega
  have h5 : decide ((c : Int) ≤ 90) = decide (c ≤ 90) := by rw [Bool.eq_iff_iff]; simp; omega
  have h6 : decide ((c : Int) < 48) = !decide (48 ≤ c) := by rw [Bool.eq_iff_iff]; simp; omega
  have h7 : decide (57 < (c : Int)) = !decide (c ≤ 57) := by rw [Bool.eq_iff_iff]; simp; omega
  rw [h0, h1, h2, h3, h4, h5, h6, h7]
  have g1 : decide (97 ≤ c) = true → decide (65 ≤ c) = true ∧ decide (c ≤ 90) = false ∧ decide (c ≤ 57) = false ∧ (c == 45) = false ∧ decide (48 ≤ c) = true := by simp; omega
  have g2 : decide (65 ≤ c) = true → decide (c ≤ 57) = false ∧ (c == 45) = false ∧ decide (48 ≤ c) = true := by simp; omega
  have g3 : decide (48 ≤ c) = false → decide (c ≤ 57) = true ∧ decide (65 ≤ c) = false := by simp; omega
  have g4 : (c == 45) = true → decide (48 ≤ c) = false := by simp; omega
  unfold nmOk bne
  revert g1 g2 g3 g4
  generalize decide (97 ≤ c) = b1
  generalize decide (c ≤ 122) = b2
  generalize decide (65 ≤ c) = b3
  generalize decide (c ≤ 90) = b4
  generalize (c == 45) = b5
  generalize decide (48 ≤ c) = b6
  generalize decide (c ≤ 57) = b7
  generalize (k == 0) = b8
  cases b1 <;> cases b3 <;> cases b6 <;> cases b7 <;> cases b5 <;> simp <;> (cases b2 <;> cases b4 <;> cases b8 <;> simp)

set_option maxHeartbeats 2000000 in
theorem isName_any (s : ByteArray) (w : World) (hs : s.size ≤ maxLen) :
    Calls Tryd.prog 52 #[.string s] w fun e w' => e = .returned (.bool (nmB s)) ∧ Below w.heap.size w w' := by
  unfold maxLen at hs
  have hcv := fun w => Lib.run_convert_string_bytes (P := Tryd.prog) w 9 67 5 s Tryd.underlying9 Tryd.underlying67 Tryd.underlying5
  have hb0 := bytesWorld_below w 5 s
  have hcell : ∀ j, j < s.size → (Lib.bytesWorld w 5 s).cell? ⟨w.heap.size, j, none⟩ = some (.int .u8 (s.data.toList.getD j 0).toNat) := Lib.bytesWorld_cell w 5 s
  have HC := Lib.hid hcell
  have HB := Lib.hid hb0
  clear hcell hb0
  go_enter Tryd.func52, Tryd.ntmps52
  go_wp2_with fail
  generalize hW : Lib.bytesWorld w 5 s = W at *
  clear hW
  go_loop [9] (fun i => ∃ k : Nat, k ≤ s.size ∧ i = .int .i64 k ∧ Aside0 (nmGo (s.data.toList.drop k) k = nmGo s.data.toList 0)) (fun i => s.size - (intOf i).toNat)
  case atStart => exact ⟨0, Nat.zero_le _, rfl, ⟨rfl⟩⟩
  case round =>
    obtain ⟨k, hk, rfl, hg⟩ := hrel
    by_cases hlt : k < s.size
    · have hcell := HC.out k hlt
      have hgo := nmGo_drop s.data.toList k (by simpa using hlt)
      have hc8 : (s.data.toList.getD k 0).toNat < 256 := UInt8.toNat_lt _
      have HG := Aside0.mk hgo
      clear hgo
      generalize (s.data.toList.getD k 0).toNat = c at *
      clear HC
      rcases nm_cases k c with ⟨h1, d1, d2⟩ | ⟨h1, d1, d2, d3⟩ | ⟨h1, d1, d2, d3⟩ | ⟨h1, d1, d2, d3, d4⟩ | ⟨h1, d1, d2, d3, d4, d5⟩ | ⟨h1, d1, d2, d3, d4⟩ | ⟨h1, d1, d2, d3, d4, d5, d6⟩ | ⟨h1, d1, d2, d3, d4, d5⟩ | ⟨h1, d1, d2, d3, d4, d5, d6⟩ | ⟨h1, d1, d2, d3, d4, d5, d6, d7⟩ | ⟨h1, d1, d2, d3, d4, d5, d6, d7, d8⟩
      all_goals
        have hok := Aside0.mk h1
        clear h1
        go_wp2
        first
        | (go_ret
           have e1 := HG.out
           rw [hok.out] at e1
           have e2 := hg.out
           rw [e1] at e2
           exact ⟨by rw [nmB, ← e2]; rfl, HB.out⟩)
        | (go_round
           case rel =>
             have e1 := HG.out
             rw [hok.out] at e1
             have e2 := hg.out
             rw [e1] at e2
             exact ⟨k + 1, by omega, by go_num, ⟨by simpa using e2⟩⟩
           case measure => simp [intOf]; omega)
    · have hd : s.data.toList.drop k = [] := List.drop_eq_nil_of_le (by simp; omega)
      have e2 := hg.out
      rw [hd] at e2
      have HE := Aside0.mk e2
      clear hd e2 hg HC
      have Hz := Aside0.mk (ba_len s)
      by_cases hz : s.toList = []
      · have Hz1 := Aside0.mk hz
        go_wp2
        go_ret
        refine ⟨?_, HB.out⟩
        have h0 : s.size = 0 := by rw [← Hz.out, Hz1.out]; rfl
        simp [nmB, h0]
      · have Hz1 := Aside0.mk hz
        have hz' : s.toList.isEmpty = false := by simpa using hz
        clear hz
        go_wp2
        go_ret
        refine ⟨?_, HB.out⟩
        have h0 : s.size ≠ 0 := fun h => Hz1.out (List.eq_nil_of_length_eq_zero (by rw [Hz.out]; exact h))
        have h1 : decide (1 ≤ s.size) = true := decide_eq_true (by omega)
        rw [nmB, ← HE.out, h1]
        simp [nmGo]
        omega
end Go.Proofs.YtbhbabimfkiibaaDoor
