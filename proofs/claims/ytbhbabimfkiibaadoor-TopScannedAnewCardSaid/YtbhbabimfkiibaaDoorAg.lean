/- ParseFrame at the beginning of a frame of one element. The number that the head's four bytes tell is the position. -/
import Derived.Test.YtbhbabimfkiibaaDoorAd
import Derived.Lib.Strings
namespace Go.Proofs.YtbhbabimfkiibaaDoor
open Go.RowKit Go.Shelf Go.Proofs.YtbhbabimfkiibaaDoorW.PrintWords Go.Proofs.YtbhbabimfkiibaaDoorW.PrintLast Go.Proofs.YtbhbabimfkiibaaDoorW.PrintMore PTopScannedAnew
set_option linter.unusedVariables false
set_option linter.unusedSimpArgs false

/-- A text that begins with a frame's head. -/
def StartsFrame (p : Int) (s : ByteArray) : Prop := ∃ t : List UInt8, s.data.toList = (headOf p).map (fun x => UInt8.ofNat x.toNat) ++ t

theorem ba_get (s : ByteArray) (i : Nat) (h : i < s.size) : s[i] = s.data.toList.getD i 0 := by
  have h1 : i < s.data.toList.length := by simpa using h
  rw [List.getD_eq_getElem?_getD, List.getElem?_eq_getElem h1]
  simp
  rfl

theorem starts_at (p : Int) (s : ByteArray) (h : StartsFrame p s) (i : Nat) (hi : i < 8) : s.data.toList.getD i 0 = UInt8.ofNat ((headOf p).getD i 0).toNat := by
  obtain ⟨t, ht⟩ := h
  rw [ht]
  match i, hi with
  | 0, _ => rfl
  | 1, _ => rfl
  | 2, _ => rfl
  | 3, _ => rfl
  | 4, _ => rfl
  | 5, _ => rfl
  | 6, _ => rfl
  | 7, _ => rfl

theorem prefix_true (p : Int) (s : ByteArray) (h : StartsFrame p s) (h8 : 8 ≤ s.size) : strings_HasPrefix.f s ⟨#[67, 80]⟩ = some true := by
  have hz : (⟨#[67, 80]⟩ : ByteArray).size = 2 := rfl
  have he : ((s.extract 0 2).toList == [67, 80]) = true := by
    rw [ByteArray.toList_eq, Lib.extract_data]
    obtain ⟨t, ht⟩ := h
    rw [ht]
    rfl
  simp [strings_HasPrefix.f, stringslite_HasPrefix.f, hz]
  rw [if_pos (by omega), if_pos (by omega), he]

set_option maxRecDepth 100000 in
set_option maxHeartbeats 2000000 in
theorem ParseFrame_short (p : Int) (s : ByteArray) (w : World) (h : StartsFrame p s) (h8 : 8 ≤ s.size) (hs : s.size < 138) :
    Calls Tryd.prog 21 #[.string s] w fun e w' => e = .returned (.tuple #[.agg #[.int .i64 0, .int .i64 0, .slice none 0 0], .int .i64 10]) ∧ Below w.heap.size w w' := by
  have hpre := fun w => strings_HasPrefix.calls s ⟨#[67, 80]⟩ true w (prefix_true p s h h8)
  have HPRE := Lib.hid hpre
  have hwi : ∀ w, Calls Tryd.prog 28 #[.int .i64 1, .int .i64 1, .int .i64 16] w fun e w' => e = .returned (.bool true) ∧ Drawn0 w w' := fun w => trace_within.calls 1 1 16 true w (by simp [trace_within.f])
  have HWI := Lib.hid hwi
  have hfs : ∀ w, Calls Tryd.prog 22 #[.int .i64 1] w fun e w' => e = .returned (.int .i64 138) ∧ Drawn0 w w' := fun w => trace_frameSize.calls 1 138 w (by simp [trace_frameSize.f, wrap64])
  have HFS := Lib.hid hfs
  clear hpre hwi hfs
  have hb2 : ∀ h : 2 < s.size, s[2].toNat = 1 := fun h' => by rw [ba_get s 2 h', starts_at p s h 2 (by omega)]; rfl
  have hb3 : ∀ h : 3 < s.size, s[3].toNat = 1 := fun h' => by rw [ba_get s 3 h', starts_at p s h 3 (by omega)]; rfl
  go_enter Tryd.func21, Tryd.ntmps21
  go_wp2_with (first
    | (go_at_call 30; refine (HPRE.out _).mono ?_; rintro e w' ⟨rfl, ⟨⟨m, rfl⟩⟩⟩)
    | (go_at_call 28; refine (HWI.out _).mono ?_; rintro e w' ⟨rfl, ⟨⟨m2, rfl⟩⟩⟩)
    | (go_at_call 22; refine (HFS.out _).mono ?_; rintro e w' ⟨rfl, ⟨⟨m3, rfl⟩⟩⟩))
  refine bodyPost_ret (v := .tuple #[.agg #[.int .i64 0, .int .i64 0, .slice none 0 0], .int .i64 10]) ?_ rfl ⟨rfl, ?_⟩
  · simp [results, Tryd.results21, go_sem]
  · repeat (first | exact Below.refl _ _ | refine Below.setCell ?_ (by simp) _ | apply pw_below_drewN | apply below_alloc)
end Go.Proofs.YtbhbabimfkiibaaDoor

namespace Go.Proofs.YtbhbabimfkiibaaDoor
open Go.RowKit
set_option linter.unusedVariables false

theorem bits_or_i64_nat (a b : Nat) (ha : a < 4611686018427387904) (hb : b < 4611686018427387904) :
    bits .or .i64 (a : Int) (b : Int) = ((a ||| b : Nat) : Int) := by
  have hx : a ||| b < 2 ^ 62 := Nat.or_lt_two_pow (by omega) (by omega)
  have h1 : (BitVec.ofInt 64 (a : Int)).toNat = a := by
    rw [BitVec.ofInt_natCast, BitVec.toNat_ofNat]; exact Nat.mod_eq_of_lt (by omega)
  have h2 : (BitVec.ofInt 64 (b : Int)).toNat = b := by
    rw [BitVec.ofInt_natCast, BitVec.toNat_ofNat]; exact Nat.mod_eq_of_lt (by omega)
  show IntKind.i64.wrap ((BitVec.ofInt 64 (a : Int) ||| BitVec.ofInt 64 (b : Int)).toNat : Int) = _
  rw [BitVec.toNat_or, h1, h2, IntKind.wrap_i64]
  omega

theorem whStep_nat (n : Nat) (hn : n < 16777216) (c : UInt8) : whStep (n : Int) c = ((n * 256 + c.toNat : Nat) : Int) := by
  have hc : c.toNat < 256 := UInt8.toNat_lt _
  have h1 : wrap64 ((n : Int) * 256) = ((n * 256 : Nat) : Int) := by unfold wrap64; omega
  unfold whStep
  rw [h1, bits_or_i64_nat _ _ (by omega) (by omega)]
  have h2 := Nat.two_pow_add_eq_or_of_lt (i := 8) (b := c.toNat) (by omega) n
  rw [show n * 256 = 2 ^ 8 * n from by omega, h2]

theorem whOf4 (a b c d : UInt8) : whOf [a, b, c, d] = ((((a.toNat * 256 + b.toNat) * 256 + c.toNat) * 256 + d.toNat : Nat) : Int) := by
  have ha : a.toNat < 256 := UInt8.toNat_lt _
  have hb : b.toNat < 256 := UInt8.toNat_lt _
  have hc : c.toNat < 256 := UInt8.toNat_lt _
  show whStep (whStep (whStep (whStep 0 a) b) c) d = _
  rw [show whStep 0 a = ((0 * 256 + a.toNat : Nat) : Int) from whStep_nat 0 (by omega) a]
  rw [whStep_nat _ (by omega), whStep_nat _ (by omega), whStep_nat _ (by omega)]
  simp

theorem ofNat_int (x : Int) (h : 0 ≤ x ∧ x < 256) : ((UInt8.ofNat x.toNat).toNat : Int) = x := by
  rw [UInt8.toNat_ofNat']
  omega

theorem pos_told (p : Int) (hp : -2000000 ≤ p ∧ p ≤ 2000000) (s : ByteArray) (h : StartsFrame p s) : IntKind.i32.wrap (whOf (s.extract 4 8).data.toList) = p := by
  obtain ⟨t, ht⟩ := h
  rw [Lib.extract_data, ht]
  show IntKind.i32.wrap (whOf [UInt8.ofNat (p / 16777216 % 256).toNat, UInt8.ofNat (p / 65536 % 256).toNat, UInt8.ofNat (p / 256 % 256).toNat, UInt8.ofNat (p % 256).toNat]) = p
  rw [whOf4]
  have h1 := ofNat_int (p / 16777216 % 256) (by omega)
  have h2 := ofNat_int (p / 65536 % 256) (by omega)
  have h3 := ofNat_int (p / 256 % 256) (by omega)
  have h4 := ofNat_int (p % 256) (by omega)
  rw [IntKind.wrap_i32]
  generalize (UInt8.ofNat (p / 16777216 % 256).toNat).toNat = a at *
  generalize (UInt8.ofNat (p / 65536 % 256).toNat).toNat = b at *
  generalize (UInt8.ofNat (p / 256 % 256).toNat).toNat = c at *
  generalize (UInt8.ofNat (p % 256).toNat).toNat = d at *
  omega
end Go.Proofs.YtbhbabimfkiibaaDoor
