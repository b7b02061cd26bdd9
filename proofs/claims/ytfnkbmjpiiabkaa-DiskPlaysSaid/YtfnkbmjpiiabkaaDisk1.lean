/- The small methods of the disk. -/
import Derived.Test.YtfnkbmjpiiabkaaProg
import Derived.Test.YtfnkbmjpiiabkaaMem
namespace Go.Proofs.Ytfnkbmjpiiabkaa
open Go.RowKit

/-- The cells of a disk. -/
abbrev dcells (bd bc N : Nat) (vp : Value) (on ar : Bool) (lf : Int) : Array Value :=
  #[.slice (some ⟨bd, 0, none⟩) N N, .slice (some ⟨bc, 0, none⟩) N N, vp, .bool on, .bool ar, .int .i64 lf]
def DBlk (W : World) (g bd bc N : Nat) (vp : Value) (on ar : Bool) (lf : Int) : Prop := W.heap[g]? = some (.cells (dcells bd bc N vp on ar lf) 55 (0, 0))

section
variable {W : World} {g bd bc N : Nat} {vp : Value} {on ar : Bool} {lf : Int}
theorem DBlk.c0 (h : DBlk W g bd bc N vp on ar lf) : W.cell? ⟨g, 0, none⟩ = some (.slice (some ⟨bd, 0, none⟩) N N) := cell_of_blk h 0 _ rfl
theorem DBlk.c1 (h : DBlk W g bd bc N vp on ar lf) : W.cell? ⟨g, 1, none⟩ = some (.slice (some ⟨bc, 0, none⟩) N N) := cell_of_blk h 1 _ rfl
theorem DBlk.c2 (h : DBlk W g bd bc N vp on ar lf) : W.cell? ⟨g, 2, none⟩ = some vp := cell_of_blk h 2 _ rfl
theorem DBlk.c3 (h : DBlk W g bd bc N vp on ar lf) : W.cell? ⟨g, 3, none⟩ = some (.bool on) := cell_of_blk h 3 _ rfl
theorem DBlk.c4 (h : DBlk W g bd bc N vp on ar lf) : W.cell? ⟨g, 4, none⟩ = some (.bool ar) := cell_of_blk h 4 _ rfl
theorem DBlk.c5 (h : DBlk W g bd bc N vp on ar lf) : W.cell? ⟨g, 5, none⟩ = some (.int .i64 lf) := cell_of_blk h 5 _ rfl
theorem DBlk.fz (h : DBlk W g bd bc N vp on ar lf) (i : Nat) : W.frozen? ⟨g, i, none⟩ = false := frozen_of_blk h i
theorem DBlk.s2 (h : DBlk W g bd bc N vp on ar lf) (x : Value) : DBlk (W.setCell ⟨g, 2, none⟩ x) g bd bc N x on ar lf := blk_setCell h 2 x
theorem DBlk.s3 (h : DBlk W g bd bc N vp on ar lf) (x : Bool) : DBlk (W.setCell ⟨g, 3, none⟩ (.bool x)) g bd bc N vp x ar lf := blk_setCell h 3 _
theorem DBlk.s4 (h : DBlk W g bd bc N vp on ar lf) (x : Bool) : DBlk (W.setCell ⟨g, 4, none⟩ (.bool x)) g bd bc N vp on x lf := blk_setCell h 4 _
theorem DBlk.s5 (h : DBlk W g bd bc N vp on ar lf) (x : Int) : DBlk (W.setCell ⟨g, 5, none⟩ (.int .i64 x)) g bd bc N vp on ar x := blk_setCell h 5 _
theorem DBlk.drew (h : DBlk W g bd bc N vp on ar lf) : DBlk W.drew g bd bc N vp on ar lf := h

theorem size_calls (h : DBlk W g bd bc N vp on ar lf) (hN : N ≤ 524288) :
    Calls Try.prog 10 #[.pointer (some ⟨g, 0, none⟩)] W fun e W' => e = .returned (.int .i64 ((N / 64 : Nat) : Int)) ∧ W = W' := by
  have c1 := h.c1
  clear h
  go_enter Try.func10, Try.ntmps10
  go_wp2
  go_ret
  exact ⟨by simp, rfl⟩
theorem online_calls (h : DBlk W g bd bc N vp on ar lf) :
    Calls Try.prog 24 #[.pointer (some ⟨g, 0, none⟩)] W fun e W' => e = .returned (.bool on) ∧ W = W' := by
  have c3 := h.c3
  clear h
  go_enter Try.func24, Try.ntmps24
  go_wp2
  go_ret
  exact ⟨rfl, rfl⟩
theorem pending_calls {A : Option Addr} {n c : Nat} (h : DBlk W g bd bc N (.slice A n c) on ar lf) :
    Calls Try.prog 19 #[.pointer (some ⟨g, 0, none⟩)] W fun e W' => e = .returned (.int .i64 (n : Int)) ∧ W = W' := by
  have c2 := h.c2
  clear h
  go_enter Try.func19, Try.ntmps19
  go_wp2
  go_ret
  exact ⟨rfl, rfl⟩
theorem powerOn_calls (h : DBlk W g bd bc N vp on ar lf) :
    Calls Try.prog 18 #[.pointer (some ⟨g, 0, none⟩)] W fun e W' => e = .returned (.tuple #[]) ∧ DBlk W' g bd bc N vp true false lf ∧ Ext (· = g) W W' := by
  have c3 := h.c3
  have c4 := h.c4
  have f3 := h.fz 3
  have f4 := h.fz 4
  have H := Lib.hid h
  clear h
  go_enter Try.func18, Try.ntmps18
  go_wp2
  go_end0
  refine ⟨rfl, (H.out.s3 _).s4 _, ?_⟩
  exact (Ext.setCell (S := (· = g)) _ _ _ rfl).trans (Ext.setCell (S := (· = g)) _ _ _ rfl) (fun _ _ h => h)
theorem failAfter_calls (n : Int) (hn : n ≤ 9223372036854775807) (h : DBlk W g bd bc N vp on ar lf) :
    Calls Try.prog 23 #[.pointer (some ⟨g, 0, none⟩), .int .i64 n] W fun e W' => e = .returned (.tuple #[]) ∧ DBlk W' g bd bc N vp on (decide (0 ≤ n)) (max n 0) ∧ Ext (· = g) W W' := by
  have c4 := h.c4
  have c5 := h.c5
  have f4 := h.fz 4
  have f5 := h.fz 5
  have H := Lib.hid h
  clear h
  have fin : ∀ (b : Bool) (m : Int), b = decide (0 ≤ n) → m = max n 0 → DBlk ((W.setCell ⟨g, 4, none⟩ (.bool b)).setCell ⟨g, 5, none⟩ (.int .i64 m)) g bd bc N vp on (decide (0 ≤ n)) (max n 0) ∧ Ext (· = g) W ((W.setCell ⟨g, 4, none⟩ (.bool b)).setCell ⟨g, 5, none⟩ (.int .i64 m)) := by
    rintro b m rfl rfl
    exact ⟨(H.out.s4 _).s5 _, (Ext.setCell (S := (· = g)) _ _ _ rfl).trans (Ext.setCell (S := (· = g)) _ _ _ rfl) (fun _ _ h => h)⟩
  have FIN := Lib.hid fin
  clear fin
  refine calls_hide fun P HP => ?_
  by_cases h0 : 0 ≤ n
  · have d0 : decide (0 ≤ n) = true := by simpa using h0
    go_enter Try.func23, Try.ntmps23
    go_wp2
    all_goals (go_end0; refine HP.out _ _ ⟨rfl, ?_⟩; refine FIN.out _ _ d0.symm ?_; omega)
  · have d0 : decide (0 ≤ n) = false := by simpa using h0
    go_enter Try.func23, Try.ntmps23
    go_wp2
    all_goals (go_end0; refine HP.out _ _ ⟨rfl, ?_⟩; refine FIN.out _ _ d0.symm ?_; omega)

/-- The error of an access. -/
def dchk (on : Bool) (at_ : Int) (n : Nat) : Int := if on then (if at_ < 0 ∨ (n : Int) ≤ at_ then 6 else 0) else 10
theorem check_calls (at_ : Int) (n : Nat) (h : DBlk W g bd bc (n * 64) vp on ar lf) (hN : n ≤ 8192) :
    Calls Try.prog 25 #[.pointer (some ⟨g, 0, none⟩), .int .i64 at_] W fun e W' => e = .returned (.int .i64 (dchk on at_ n)) ∧ W = W' := by
  have c3 := h.c3
  have hs := size_calls h (by omega)
  rw [Nat.mul_div_cancel _ (by decide)] at hs
  have HS := Lib.hid hs
  clear h hs
  cases on
  · go_enter Try.func25, Try.ntmps25
    go_wp2
    go_ret
    exact ⟨rfl, rfl⟩
  · unfold dchk
    rw [if_pos rfl]
    by_cases h1 : at_ < 0
    · rw [if_pos (Or.inl h1)]
      go_enter Try.func25, Try.ntmps25
      go_wp2
      go_ret
      exact ⟨rfl, rfl⟩
    · by_cases h2 : (n : Int) ≤ at_
      · rw [if_pos (Or.inr h2)]
        go_enter Try.func25, Try.ntmps25
        go_wp2_with (go_at_call 10; refine HS.out.mono ?_; rintro e w' ⟨rfl, rfl⟩)
        go_ret
        exact ⟨rfl, rfl⟩
      · rw [if_neg (by omega)]
        go_enter Try.func25, Try.ntmps25
        go_wp2_with (go_at_call 10; refine HS.out.mono ?_; rintro e w' ⟨rfl, rfl⟩)
        go_ret
        exact ⟨rfl, rfl⟩

theorem sector_calls (b N n : Nat) (hn : (n + 1) * 64 ≤ N) (hN : N ≤ 524288) (W : World) :
    Calls Try.prog 26 #[.slice (some ⟨b, 0, none⟩) N N, .int .i64 n] W fun e W' => e = .returned (.slice (some ⟨b, n * 64, none⟩) 64 (N - n * 64)) ∧ W = W' := by
  have hx : N ≠ n * 64 := by omega
  go_enter Try.func26, Try.ntmps26
  go_wp2
  rw [show (n + 1) * 64 - n * 64 = 64 from by omega]
  go_ret
  exact ⟨rfl, rfl⟩
end
end Go.Proofs.Ytfnkbmjpiiabkaa
