/- fits and small. -/
import Derived.Test.YtfnkbmjpiiabkaaOps
set_option linter.unusedVariables false
set_option linter.unusedSimpArgs false
namespace Go.Proofs.Ytfnkbmjpiiabkaa
open Go.RowKit
theorem i64_and15 (n : Int) : bits .and .i64 n 15 = n % 16 := by
  have h127 : (BitVec.ofInt 64 15).toNat = 2 ^ 4 - 1 := by decide
  have key : (BitVec.ofInt 64 n &&& BitVec.ofInt 64 15).toNat = (n % ((2 ^ 64 : Nat) : Int)).toNat % 2 ^ 4 := by
    rw [BitVec.toNat_and, BitVec.toNat_ofInt, h127, Nat.and_two_pow_sub_one_eq_mod]
  show IntKind.i64.wrap ((BitVec.ofInt 64 n &&& BitVec.ofInt 64 15).toNat : Nat) = n % 16
  rw [key, IntKind.wrap_i64]
  omega
theorem i64_and65535 (n : Int) : bits .and .i64 n 65535 = n % 65536 := by
  have h127 : (BitVec.ofInt 64 65535).toNat = 2 ^ 16 - 1 := by decide
  have key : (BitVec.ofInt 64 n &&& BitVec.ofInt 64 65535).toNat = (n % ((2 ^ 64 : Nat) : Int)).toNat % 2 ^ 16 := by
    rw [BitVec.toNat_and, BitVec.toNat_ofInt, h127, Nat.and_two_pow_sub_one_eq_mod]
  show IntKind.i64.wrap ((BitVec.ofInt 64 n &&& BitVec.ofInt 64 65535).toNat : Nat) = n % 65536
  rw [key, IntKind.wrap_i64]
  omega
def smallZ (n most : Int) : Int := if n % 16 = 15 then n else n % 65536 % most
theorem small_calls (n most : Int) (hm : 1 ≤ most) (hm2 : most ≤ 100) (W : World) :
    Calls Try.prog 15 #[.int .i64 n, .int .i64 most] W fun e W' => e = .returned (.int .i64 (smallZ n most)) ∧ W = W' := by
  have h15 := i64_and15 n
  have hff := i64_and65535 n
  unfold smallZ
  by_cases h : n % 16 = 15
  · rw [if_pos h]
    rw [h] at h15
    clear h hff
    refine calls_hide fun P HPost => ?_
    go_enter Try.func15, Try.ntmps15
    go_wp2
    exact HPost.out _ _ ⟨rfl, rfl⟩
  · rw [if_neg h]
    obtain ⟨a, ha⟩ : ∃ a, bits .and .i64 n 15 = a := ⟨_, rfl⟩
    obtain ⟨c, hc⟩ : ∃ c, n % 65536 = c := ⟨_, rfl⟩
    have hc0 : 0 ≤ c := by omega
    have hc1 : c < 65536 := by omega
    have hab : (a == 15) = false := by simp; omega
    rw [hc] at hff
    rw [hc]
    clear h h15 hc
    refine calls_hide fun P HPost => ?_
    go_enter Try.func15, Try.ntmps15
    go_wp2
    exact HPost.out _ _ ⟨rfl, rfl⟩
/-- What fits lets in. -/
def FitsPost (W : World) (len : Nat) (f : Nat → OpD) (most : Int) (e : Ending) (W' : World) : Prop := ∃ b : Bool, e = .returned (.bool b) ∧ W = W' ∧ (b = true → (len : Int) ≤ most ∧ ∀ i, i < len → (f i).m ≤ 80)
set_option maxHeartbeats 400000 in
theorem fits_calls (W : World) (A : Option Addr) (len cap : Nat) (f : Nat → OpD) (h : OpsV W A len f) (most : Int) : Calls Try.prog 13 #[.slice A len cap, .int .i64 most] W (FitsPost W len f most) := by
  have hm := h.1
  unfold maxLen at hm
  by_cases h1 : most < (len : Int)
  · have h2 : decide (most < (len : Int)) = true := by simpa using h1
    have fin : FitsPost W len f most (.returned (.bool false)) W := ⟨false, rfl, rfl, fun h => by cases h⟩
    clear h1
    refine calls_hide fun P HPost => ?_
    go_enter Try.func13, Try.ntmps13
    go_wp2
    exact HPost.out _ _ fin
  · have h2 : decide (most < (len : Int)) = false := by simpa using h1
    have hle : (len : Int) ≤ most := by omega
    have HLE := Lib.hid hle
    clear h1 hle
    refine calls_hide fun P HPost => ?_
    go_enter Try.func13, Try.ntmps13
    go_wp2
    go_loop [5] (fun i => ∃ k : Nat, k ≤ len ∧ i = .int .i64 k ∧ Hid (∀ j, j < k → (f j).m ≤ 80)) (fun i => len - (intOf i).toNat)
    case atStart => exact ⟨0, Nat.zero_le _, rfl, fun j hj => by omega⟩
    case round =>
      obtain ⟨k, hk, rfl, hall⟩ := hrel
      by_cases hlt : k < len
      · obtain ⟨b, off, rfl, hf⟩ := h.2 (by omega)
        have hop := hf k hlt
        have c4 := hop.c4
        obtain ⟨A', c', hx, _⟩ := hop.src
        rw [hx] at c4
        have hmk := hop.max
        unfold maxLen at hmk
        have H := Lib.hid h
        clear hf hop hx h
        by_cases h80 : (f k).m ≤ 80
        · have h81 : decide ((80 : Int) < ((f k).m : Int)) = false := by simp; omega
          generalize hfm : (f k).m = m at *
          have HFM := Lib.hid hfm
          clear hfm h80
          go_wp2
          go_round
          case rel => exact ⟨k + 1, by omega, by go_num, fun j hj => by
            rcases Nat.lt_succ_iff_lt_or_eq.1 hj with h | rfl
            · exact hall.out j h
            · rw [HFM.out]; simp at h81; omega⟩
          case measure => simp [intOf]; omega
        · have h81 : decide ((80 : Int) < ((f k).m : Int)) = true := by simp; omega
          generalize hfm : (f k).m = m at *
          have fin : FitsPost W len f most (.returned (.bool false)) W := ⟨false, rfl, rfl, fun h => by cases h⟩
          clear hfm h80
          go_wp2
          exact HPost.out _ _ fin
      · obtain rfl : k = len := by omega
        have fin : FitsPost W k f most (.returned (.bool true)) W := ⟨true, rfl, rfl, fun _ => ⟨HLE.out, hall.out⟩⟩
        clear hlt
        go_wp2
        exact HPost.out _ _ fin
end Go.Proofs.Ytfnkbmjpiiabkaa
