/- DiskPlays, the walk. -/
import Derived.Test.YtfnkbmjpiiabkaaPlay3
set_option linter.unusedVariables false
set_option linter.unusedSimpArgs false
namespace Go.Proofs.Ytfnkbmjpiiabkaa
open Go.RowKit
attribute [local go_sem ↓] Go.wp_at_zero Go.wp_at_succ
set_option maxHeartbeats 2000000 in
theorem plays_ok (W : World) (A : Option Addr) (na ca : Nat) (fa : Nat → OpD) (ha : OpsV W A na fa) :
    Calls Try.prog 7 #[.slice A na ca] W fun e W' => e = .returned (.bool true) ∧ Below W.heap.size W W' := by
  refine calls_hide fun P HPost => ?_
  go_enter Try.func7, Try.ntmps7
  go_wp2_with fail
  (with_reducible refine (fits_calls _ A na ca fa ha 40).mono ?_)
  rintro e w' ⟨b1, rfl, rfl, hfa⟩
  cases b1 with
  | false =>
    clear hfa
    go_wp2_with fail
    exact HPost.out _ _ ⟨rfl, Below.refl _ _⟩
  | true =>
  have hfaH := Lib.hid (hfa rfl)
  clear hfa
  go_wp2_with fail
  (with_reducible refine (dk_new _ 4 4 rfl (by decide) (by decide)).mono ?_)
  rintro e W1 ⟨g, S1, rfl, D1, hS1, hB1⟩
  go_wp2_with fail
  (with_reducible refine (rf_new W1).mono ?_)
  rintro e W2 ⟨m, S2, rfl, R2, hS2, hB2⟩
  have L0 : P2 W g m 0 (DSt.new 4) S1 S2 W2 := ⟨D1.below hB2, R2, fun i h1 h2 => by have := D1.lt i h1; have := hS2 i h2; omega, hS1, fun i hi => Nat.le_trans hB1.size (hS2 i hi), hB1.trans (hB2.mono hB1.size), (Calm.new 4 (by decide) (by decide)).2, rfl, Nat.le_refl 0⟩
  have hna : na ≤ 40 := by have := hfaH.out.1; omega
  clear D1 R2 hS1 hS2 hB1 hB2
  go_wp2_with fail
  go_loopw [6] (fun i wr => ∃ j : Nat, j ≤ na ∧ i = .int .i64 j ∧ ∃ s Sd Sm, P2 W g m j s Sd Sm wr) (fun i _ => na - (intOf i).toNat)
  case atStart => exact ⟨0, Nat.zero_le _, rfl, _, _, _, L0⟩
  case round =>
    clear L0
    obtain ⟨j, hj, rfl, s, Sd, Sm, hP⟩ := hrel
    by_cases hlt : j < na
    · obtain ⟨b, off, rfl, hf⟩ := ha.2 (by omega)
      have hop := hf j hlt
      have hac := act_calls W wr g m j s Sd Sm hP (by omega) hop (hfaH.out.2 j hlt)
      have hoc := hop.fresh hP.be
      have c0 := hoc.c0
      have c1 := hoc.c1
      have c2 := hoc.c2
      have c3 := hoc.c3
      have c4 := hoc.c4
      clear hf hop hoc
      go_wp2_with fail
      (with_reducible refine hac.mono ?_)
      rintro e W5 ⟨rfl, s5, Sd5, Sm5, hP5⟩
      have hag := agree_calls W W5 g m (j + 1) s5 Sd5 Sm5 hP5 (by omega)
      clear hac c0 c1 c2 c3 c4 hP
      go_wp2_with fail
      (with_reducible refine hag.mono ?_)
      rintro e W6 ⟨rfl, hP6⟩
      clear hag hP5
      go_wp2_with fail
      go_roundw
      case rel => exact ⟨j + 1, by omega, by go_num, _, _, _, hP6⟩
      case measure => simp [intOf]; omega
    · go_wp2_with fail
      (with_reducible refine (known_calls _).mono ?_)
      rintro e W9 ⟨rfl, hB9⟩
      go_wp2_with fail
      exact HPost.out _ _ ⟨rfl, hP.be.trans (hB9.mono hP.be.size)⟩
end Go.Proofs.Ytfnkbmjpiiabkaa
