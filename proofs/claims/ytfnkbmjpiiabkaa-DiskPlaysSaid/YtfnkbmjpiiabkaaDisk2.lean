/- The disk: powerFails, survives. -/
import Derived.Test.YtfnkbmjpiiabkaaDisk1
set_option linter.unusedVariables false
namespace Go.Proofs.Ytfnkbmjpiiabkaa
open Go.RowKit
/-- powerFails: whether the power goes off; the new fields. -/
def pfB (ar : Bool) (lf : Int) : Bool := ar && decide (lf ≤ 0)
def pfOn (on ar : Bool) (lf : Int) : Bool := if pfB ar lf then false else on
def pfAr (ar : Bool) (lf : Int) : Bool := if pfB ar lf then false else ar
def pfLf (ar : Bool) (lf : Int) : Int := if ar && decide (0 < lf) then lf - 1 else lf
section
variable {W : World} {g bd bc N : Nat} {vp : Value} {on ar : Bool} {lf : Int}
theorem powerFails_calls (h : DBlk W g bd bc N vp on ar lf) (h0 : 0 ≤ lf) (h1 : lf ≤ 9223372036854775807) :
    Calls Try.prog 27 #[.pointer (some ⟨g, 0, none⟩)] W fun e W' => e = .returned (.bool (pfB ar lf)) ∧ DBlk W' g bd bc N vp (pfOn on ar lf) (pfAr ar lf) (pfLf ar lf) ∧ Ext (· = g) W W' := by
  have c3 := h.c3
  have c4 := h.c4
  have c5 := h.c5
  have f3 := h.fz 3
  have f4 := h.fz 4
  have f5 := h.fz 5
  have H := Lib.hid h
  clear h
  cases ar
  · go_enter Try.func27, Try.ntmps27
    go_wp2
    go_ret
    exact ⟨rfl, H.out, Ext.refl _ _⟩
  · by_cases hl : 0 < lf
    · refine calls_hide fun P HP => ?_
      go_enter Try.func27, Try.ntmps27
      go_wp2
      refine HP.out _ _ ?_
      have e1 : pfB true lf = false := by unfold pfB; simp; omega
      refine ⟨by rw [e1]; rfl, ?_, Ext.setCell (S := (· = g)) _ _ _ rfl⟩
      have := H.out.s5 (lf - 1)
      have e2 : pfLf true lf = lf - 1 := by unfold pfLf; simp [hl]
      rw [e2]; unfold pfOn pfAr; rw [e1]; exact this
    · have hz : lf = 0 := by omega
      subst hz
      refine calls_hide fun P HP => ?_
      go_enter Try.func27, Try.ntmps27
      go_wp2
      refine HP.out _ _ ?_
      refine ⟨rfl, (H.out.s4 _).s3 _, ?_⟩
      exact (Ext.setCell (S := (· = g)) _ _ _ rfl).trans (Ext.setCell (S := (· = g)) _ _ _ rfl) (fun _ _ h => h)

/-- survives: bit min(i, 63) of keep. -/
def srvB (k : Int) (i : Nat) : Bool := bits .and .u64 (k / 2 ^ (min i 63)) 1 == 1
theorem survives_calls (k : Int) (i : Nat) (hk : 0 ≤ k) (hk2 : k ≤ 18446744073709551615) (hi2 : i ≤ 1000000) (W : World) :
    Calls Try.prog 28 #[.int .u64 k, .int .i64 i] W fun e W' => e = .returned (.bool (srvB k i)) ∧ W = W' := by
  unfold srvB
  by_cases hi : i ≤ 63
  · rw [Nat.min_eq_left hi]
    refine calls_hide fun P HP => ?_
    go_enter Try.func28, Try.ntmps28
    go_wp2
    exact HP.out _ _ ⟨rfl, rfl⟩
  · rw [Nat.min_eq_right (by omega)]
    refine calls_hide fun P HP => ?_
    go_enter Try.func28, Try.ntmps28
    go_wp2
    refine HP.out _ _ ?_
    exact ⟨rfl, rfl⟩
end
end Go.Proofs.Ytfnkbmjpiiabkaa
