/- The reference disk: its block; the small methods. -/
import Derived.Test.YtfnkbmjpiiabkaaKeep
set_option linter.unusedVariables false
set_option linter.unusedSimpArgs false
namespace Go.Proofs.Ytfnkbmjpiiabkaa
open Go.RowKit
abbrev rcells (vd vp : Value) (off ar : Bool) (lf : Int) : Array Value := #[vd, vp, .bool off, .bool ar, .int .i64 lf]
def RBlk (W : World) (m : Nat) (vd vp : Value) (off ar : Bool) (lf : Int) : Prop := W.heap[m]? = some (.cells (rcells vd vp off ar lf) 65 (0, 0))
section
variable {W : World} {m : Nat} {vd vp : Value} {off ar : Bool} {lf : Int}
theorem RBlk.c0 (h : RBlk W m vd vp off ar lf) : W.cell? ⟨m, 0, none⟩ = some vd := cell_of_blk h 0 _ rfl
theorem RBlk.c1 (h : RBlk W m vd vp off ar lf) : W.cell? ⟨m, 1, none⟩ = some vp := cell_of_blk h 1 _ rfl
theorem RBlk.c2 (h : RBlk W m vd vp off ar lf) : W.cell? ⟨m, 2, none⟩ = some (.bool off) := cell_of_blk h 2 _ rfl
theorem RBlk.c3 (h : RBlk W m vd vp off ar lf) : W.cell? ⟨m, 3, none⟩ = some (.bool ar) := cell_of_blk h 3 _ rfl
theorem RBlk.c4 (h : RBlk W m vd vp off ar lf) : W.cell? ⟨m, 4, none⟩ = some (.int .i64 lf) := cell_of_blk h 4 _ rfl
theorem RBlk.fz (h : RBlk W m vd vp off ar lf) (i : Nat) : W.frozen? ⟨m, i, none⟩ = false := frozen_of_blk h i
theorem RBlk.s0 (h : RBlk W m vd vp off ar lf) (x : Value) : RBlk (W.setCell ⟨m, 0, none⟩ x) m x vp off ar lf := blk_setCell h 0 x
theorem RBlk.s1 (h : RBlk W m vd vp off ar lf) (x : Value) : RBlk (W.setCell ⟨m, 1, none⟩ x) m vd x off ar lf := blk_setCell h 1 x
theorem RBlk.s2 (h : RBlk W m vd vp off ar lf) (x : Bool) : RBlk (W.setCell ⟨m, 2, none⟩ (.bool x)) m vd vp x ar lf := blk_setCell h 2 _
theorem RBlk.s3 (h : RBlk W m vd vp off ar lf) (x : Bool) : RBlk (W.setCell ⟨m, 3, none⟩ (.bool x)) m vd vp off x lf := blk_setCell h 3 _
theorem RBlk.s4 (h : RBlk W m vd vp off ar lf) (x : Int) : RBlk (W.setCell ⟨m, 4, none⟩ (.int .i64 x)) m vd vp off ar x := blk_setCell h 4 _
theorem set2 (W : World) (m i j : Nat) (x y : Value) : Ext (· = m) W ((W.setCell ⟨m, i, none⟩ x).setCell ⟨m, j, none⟩ y) :=
  (Ext.setCell (S := (· = m)) _ _ _ rfl).trans (Ext.setCell (S := (· = m)) _ _ _ rfl) (fun _ _ h => h)
theorem rPowerOn_calls (h : RBlk W m vd vp off ar lf) :
    Calls Try.prog 32 #[.pointer (some ⟨m, 0, none⟩)] W fun e W' => e = .returned (.tuple #[]) ∧ RBlk W' m vd vp false false lf ∧ Ext (· = m) W W' := by
  have c2 := h.c2
  have c3 := h.c3
  have f2 := h.fz 2
  have f3 := h.fz 3
  have H := Lib.hid h
  clear h
  refine calls_hide fun P HP => ?_
  go_enter Try.func32, Try.ntmps32
  go_wp2
  go_end0
  exact HP.out _ _ ⟨rfl, (H.out.s2 _).s3 _, set2 _ _ _ _ _ _⟩
theorem rFailAfter_calls (n : Int) (hn : n ≤ 9223372036854775807) (h : RBlk W m vd vp off ar lf) :
    Calls Try.prog 30 #[.pointer (some ⟨m, 0, none⟩), .int .i64 n] W fun e W' => e = .returned (.tuple #[]) ∧ RBlk W' m vd vp off (decide (0 ≤ n)) (max n 0) ∧ Ext (· = m) W W' := by
  have c3 := h.c3
  have c4 := h.c4
  have f3 := h.fz 3
  have f4 := h.fz 4
  have H := Lib.hid h
  clear h
  have fin : ∀ (b : Bool) (k : Int), b = decide (0 ≤ n) → k = max n 0 → RBlk ((W.setCell ⟨m, 3, none⟩ (.bool b)).setCell ⟨m, 4, none⟩ (.int .i64 k)) m vd vp off (decide (0 ≤ n)) (max n 0) ∧ Ext (· = m) W ((W.setCell ⟨m, 3, none⟩ (.bool b)).setCell ⟨m, 4, none⟩ (.int .i64 k)) := by
    rintro b k rfl rfl
    exact ⟨(H.out.s3 _).s4 _, set2 _ _ _ _ _ _⟩
  have FIN := Lib.hid fin
  clear fin
  refine calls_hide fun P HP => ?_
  by_cases h0 : 0 ≤ n
  · have d0 : decide (0 ≤ n) = true := by simpa using h0
    go_enter Try.func30, Try.ntmps30
    go_wp2
    all_goals (go_end0; refine HP.out _ _ ⟨rfl, ?_⟩; refine FIN.out _ _ d0.symm ?_; omega)
  · have d0 : decide (0 ≤ n) = false := by simpa using h0
    go_enter Try.func30, Try.ntmps30
    go_wp2
    all_goals (go_end0; refine HP.out _ _ ⟨rfl, ?_⟩; refine FIN.out _ _ d0.symm ?_; omega)
theorem fails_calls (on : Bool) (h : RBlk W m vd vp (!on) ar lf) (h0 : 0 ≤ lf) (h1 : lf ≤ 9223372036854775807) :
    Calls Try.prog 35 #[.pointer (some ⟨m, 0, none⟩)] W fun e W' => e = .returned (.bool (pfB ar lf)) ∧ RBlk W' m vd vp (!pfOn on ar lf) (pfAr ar lf) (pfLf ar lf) ∧ Ext (· = m) W W' := by
  have c2 := h.c2
  have c3 := h.c3
  have c4 := h.c4
  have f2 := h.fz 2
  have f3 := h.fz 3
  have f4 := h.fz 4
  have H := Lib.hid h
  clear h
  cases ar
  · refine calls_hide fun P HP => ?_
    go_enter Try.func35, Try.ntmps35
    go_wp2
    exact HP.out _ _ ⟨rfl, H.out, Ext.refl _ _⟩
  · by_cases hl : 0 < lf
    · refine calls_hide fun P HP => ?_
      go_enter Try.func35, Try.ntmps35
      go_wp2
      refine HP.out _ _ ?_
      have e1 : pfB true lf = false := by unfold pfB; simp; omega
      refine ⟨by rw [e1]; rfl, ?_, Ext.setCell (S := (· = m)) _ _ _ rfl⟩
      have := H.out.s4 (lf - 1)
      have e2 : pfLf true lf = lf - 1 := by unfold pfLf; simp [hl]
      rw [e2]; unfold pfOn pfAr; rw [e1]; exact this
    · have hz : lf = 0 := by omega
      subst hz
      refine calls_hide fun P HP => ?_
      go_enter Try.func35, Try.ntmps35
      go_wp2
      exact HP.out _ _ ⟨rfl, (H.out.s3 _).s2 _, set2 _ _ _ _ _ _⟩
end
theorem rSurvives_calls (k : Int) (i : Nat) (hk : 0 ≤ k) (hk2 : k ≤ 18446744073709551615) (hi2 : i ≤ 1000000) (W : World) :
    Calls Try.prog 37 #[.int .u64 k, .int .i64 i] W fun e W' => e = .returned (.bool (srvB k i)) ∧ W = W' := by
  unfold srvB
  by_cases hi : i ≤ 63
  · rw [Nat.min_eq_left hi]
    refine calls_hide fun P HP => ?_
    go_enter Try.func37, Try.ntmps37
    go_wp2
    exact HP.out _ _ ⟨rfl, rfl⟩
  · rw [Nat.min_eq_right (by omega)]
    refine calls_hide fun P HP => ?_
    go_enter Try.func37, Try.ntmps37
    go_wp2
    refine HP.out _ _ ?_
    exact ⟨rfl, rfl⟩
end Go.Proofs.Ytfnkbmjpiiabkaa
