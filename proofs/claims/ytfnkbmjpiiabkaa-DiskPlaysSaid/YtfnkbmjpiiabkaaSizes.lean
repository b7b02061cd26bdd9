/- DiskSizes, the walk. -/
import Derived.Test.YtfnkbmjpiiabkaaKnown
import Derived.Deep.RegionWith
set_option linter.unusedVariables false
set_option linter.unusedSimpArgs false
namespace Go.Proofs.Ytfnkbmjpiiabkaa
open Go.RowKit
theorem i64_and63 (n : Int) : bits .and .i64 n 63 = n % 64 := by
  have h127 : (BitVec.ofInt 64 63).toNat = 2 ^ 6 - 1 := by decide
  have key : (BitVec.ofInt 64 n &&& BitVec.ofInt 64 63).toNat = (n % ((2 ^ 64 : Nat) : Int)).toNat % 2 ^ 6 := by
    rw [BitVec.toNat_and, BitVec.toNat_ofInt, h127, Nat.and_two_pow_sub_one_eq_mod]
  show IntKind.i64.wrap ((BitVec.ofInt 64 n &&& BitVec.ofInt 64 63).toNat : Nat) = n % 64
  rw [key, IntKind.wrap_i64]
  omega
theorem rd_new (n k : Nat) (hk : k < n) : (DSt.new n).rd k = List.replicate 64 0 := by
  unfold DSt.rd
  rw [if_pos (by unfold dchk; rw [if_pos (show (DSt.new n).on = true from rfl), if_neg (by show ¬ ((k : Int) < 0 ∨ (n : Int) ≤ k); omega)])]
  simp only [DSt.new, Int.toNat_natCast, List.drop_replicate, List.take_replicate]
  congr 1
  omega
theorem rdErr_new (n k : Nat) (hk : k < n) : (DSt.new n).rdErr k = 0 := by
  unfold DSt.rdErr dchk; rw [if_pos (show (DSt.new n).on = true from rfl), if_neg (by show ¬ ((k : Int) < 0 ∨ (n : Int) ≤ k); omega)]
/-- Sixty-four zero bytes. -/
def zL : List Int := List.replicate 64 0
/-- A fresh row of 64 zero bytes, left whole by the walk. -/
def z64A : Array Value := (bcells (List.replicate 64 0)).toArray
theorem make64 (W : World) : (Instr.makeSlice 27 (.int .i64 64) (.int .i64 64)).run Try.prog W = .ok (.slice (some ⟨W.heap.size, 0, none⟩) 64 64) (W.alloc (.cells z64A 5)) := by
  have := run_make_row' (P := Try.prog) 27 5 (.int .u8 0) 1 Try.underlying27 (by kernel_rfl) rfl .i64 .i64 64 (by omega) (by omega) W
  rw [madeB] at this
  exact this
def z64S : ByteArray := strOfNums (List.replicate 64 0)
theorem src64 (W : World) : Src (W.alloc (.cells z64A 5)) (.slice (some ⟨W.heap.size, 0, none⟩) 64 64) 64 (bcells zL) := Src.of_blk (heap_alloc_new W _) _ (by simp [z64A, zL, bcells])
theorem conv_z (w : World) (x : Value) (h : Src w x 64 (bcells zL)) : (convert 27 9 x).run Try.prog w = .ok (.string z64S) w :=
  conv_src h (by simp [zL]) 27 9 5 Try.underlying27 Try.underlying5 Try.underlying9
theorem conv64 (W : World) : (convert 27 9 (.slice (some ⟨W.heap.size, 0, none⟩) 64 64)).run Try.prog (W.alloc (.cells z64A 5)) = .ok (.string z64S) (W.alloc (.cells z64A 5)) := conv_z _ _ (src64 W)
theorem conv64d (W : World) : (convert 27 9 (.slice (some ⟨W.heap.size, 0, none⟩) 64 64)).run Try.prog (W.alloc (.cells z64A 5)).drew = .ok (.string z64S) (W.alloc (.cells z64A 5)).drew := conv_z _ _ (src64 W).drew
theorem run_make64 {o : Oper} {a : Act} {w : World} {t : TypeId} {p : String} {af : Array Edge} {g : Option (Nat × Bool)} {d : Option Tmp} {x y : Operand} (ho : o = ⟨d, .makeSlice 27 x y, t, p, af, g⟩) (hx : a.eval x = .int .i64 64) (hy : a.eval y = .int .i64 64) :
    (execOp a.eval o).run Try.prog w = .ok (.value (.slice (some ⟨w.heap.size, 0, none⟩) 64 64)) (w.alloc (.cells z64A 5)) := by
  subst ho
  simp only [execOp, hx, hy]
  rw [Sem.run_bind, make64]; rfl
theorem run_conv64 {o : Oper} {a : Act} {w w0 : World} {t : TypeId} {p : String} {af : Array Edge} {g : Option (Nat × Bool)} {d : Option Tmp} {x : Operand} (ho : o = ⟨d, .convert 27 9 x, t, p, af, g⟩) (hx : a.eval x = .slice (some ⟨w0.heap.size, 0, none⟩) 64 64) (hw : w = w0.alloc (.cells z64A 5)) :
    (execOp a.eval o).run Try.prog w = .ok (.value (.string z64S)) w := by
  subst ho hw
  simp only [execOp, hx]
  rw [Sem.run_bind, conv64]; rfl
set_option maxHeartbeats 400000 in
theorem sizes_walk (n : Int) (h0 : -9223372036854775808 ≤ n) (h1 : n ≤ 9223372036854775807) (W : World) :
    Calls Try.prog 3 #[.int .i64 n] W fun e W' => e = .returned (.bool true) ∧ Below W.heap.size W W' := by
  obtain ⟨k, hk⟩ : ∃ k : Nat, n % 64 = k := ⟨(n % 64).toNat, by omega⟩
  have hk2 : k < 64 := by omega
  have hand : bits .and .i64 n 63 = (k : Int) := by rw [i64_and63, hk]
  clear hk
  by_cases hb : n < 1 ∨ 8192 < n
  · have hnew := dk_new_bad W n hb
    have hb2 : (decide (n < 1) = true) ∨ (decide (n < 1) = false ∧ decide (8192 < n) = true) := by
      by_cases h : n < 1
      · exact .inl (by simpa using h)
      · exact .inr ⟨by simpa using h, by simp; omega⟩
    have HNEW := Lib.hid hnew
    clear hb hnew
    rcases hb2 with hb2 | ⟨hb2, hb3⟩
    all_goals
      refine calls_hide fun P HPost => ?_
      go_enter Try.func3, Try.ntmps3
      go_wp2_with (go_at_call 9; (with_reducible refine HNEW.out.mono ?_); rintro e W1 ⟨rfl, hB1⟩)
      refine (dk_new W1 (1 + k) (1 + k) (by omega) (by omega) (by omega)).mono ?_
      rintro e W2 ⟨g2, S2, rfl, D2, hS2, hB2⟩
      go_wp2_with fail
      refine (dk_new_bad W2 8193 (by omega)).mono ?_
      rintro e W3 ⟨rfl, hB3⟩
      go_wp2_with fail
      refine (dk_new W3 8192 8192 rfl (by omega) (by omega)).mono ?_
      rintro e W4 ⟨g4, S4, rfl, D4, hS4, hB4⟩
      have D2' := (D2.below hB3).below hB4
      have hsz := dk_size D4
      go_wp2_with (go_at_call 10; refine hsz.mono ?_; rintro e w' ⟨rfl, rfl⟩)
      have hk1 : (1 + (k : Int) - 1) = k := by omega
      have hr := dk_read D2' (1 + (k : Int) - 1)
      rw [show (DSt.new (1 + k)).rd (1 + (k : Int) - 1) = List.replicate 64 0 from by rw [hk1]; exact rd_new _ _ (by omega), show (DSt.new (1 + k)).rdErr (1 + (k : Int) - 1) = 0 from by rw [hk1]; exact rdErr_new _ _ (by omega)] at hr
      clear hk1
      (with_reducible refine hr.mono ?_)
      rintro e W5 ⟨v, rfl, how, hB5⟩
      have z1 := hB1.size
      have z2 := hB2.size
      have z3 := hB3.size
      have z4 := hB4.size
      have z5 := hB5.size
      have fin : Below W.heap.size W W5 := (((hB1.trans (hB2.mono z1)).trans (hB3.mono (by omega))).trans (hB4.mono (by omega))).trans (hB5.mono (by omega))
      have FIN := Lib.hid fin
      clear fin hB1 hB2 hB3 hB4 hB5 hr hsz how
      go_wp2_with (go_at_call 12; (with_reducible refine (known_calls _).mono ?_); rintro e W9 ⟨rfl, hB9⟩)
      exact HPost.out _ _ ⟨rfl, FIN.out.trans (hB9.mono (by omega))⟩
  · obtain ⟨m, rfl⟩ : ∃ m : Nat, n = m := ⟨n.toNat, by omega⟩
    have hnew := dk_new W m m rfl (by omega) (by omega)
    have ha1 : 1 ≤ m := by omega
    have ha2 : m ≤ 8192 := by omega
    have ha3 : ((m : Int) < 1) = False := by simp; omega
    clear hb
    refine calls_hide fun P HPost => ?_
    go_enter Try.func3, Try.ntmps3
    go_wp2_with (go_at_call 9; (with_reducible refine hnew.mono ?_); rintro e W1 ⟨g, S, rfl, D1, hS1, hB1⟩)
    refine (dk_new W1 (1 + k) (1 + k) (by omega) (by omega) (by omega)).mono ?_
    rintro e W2 ⟨g2, S2, rfl, D2, hS2, hB2⟩
    go_wp2_with fail
    refine (dk_new_bad W2 8193 (by omega)).mono ?_
    rintro e W3 ⟨rfl, hB3⟩
    go_wp2_with fail
    refine (dk_new W3 8192 8192 rfl (by omega) (by omega)).mono ?_
    rintro e W4 ⟨g4, S4, rfl, D4, hS4, hB4⟩
    have D2' := (D2.below hB3).below hB4
    have hsz := dk_size D4
    go_wp2_with (go_at_call 10; refine hsz.mono ?_; rintro e w' ⟨rfl, rfl⟩)
    have hk1 : (1 + (k : Int) - 1) = k := by omega
    have hr := dk_read D2' (1 + (k : Int) - 1)
    rw [show (DSt.new (1 + k)).rd (1 + (k : Int) - 1) = List.replicate 64 0 from by rw [hk1]; exact rd_new _ _ (by omega), show (DSt.new (1 + k)).rdErr (1 + (k : Int) - 1) = 0 from by rw [hk1]; exact rdErr_new _ _ (by omega)] at hr
    clear hk1
    (with_reducible refine hr.mono ?_)
    rintro e W5 ⟨v, rfl, how, hB5⟩
    obtain ⟨q, cap, rfl, hq1, hq2, hq3, hq4⟩ := own_form' how (by simp)
    rw [List.length_replicate] at how
    have hsrc : Src W5 (.slice (some ⟨q, 0, none⟩) 64 cap) 64 (bcells zL) := own_src how
    have hcv : ∀ w : World, Src w (.slice (some ⟨q, 0, none⟩) 64 cap) 64 (bcells zL) → (convert 27 9 (.slice (some ⟨q, 0, none⟩) 64 cap)).run Try.prog w = .ok (.string z64S) w :=
      fun w hw => conv_z w _ hw
    have hmk := make64
    have hc64 := conv64
    have hc64d := conv64d
    have D1' := (((D1.below hB2).below hB3).below hB4).below hB5
    obtain ⟨z, hz⟩ : ∃ z : Int, z = m := ⟨_, rfl⟩
    have hsz1 : Calls Try.prog 10 #[.pointer (some ⟨g, 0, none⟩)] W5.drew fun e W' => e = .returned (.int .i64 z) ∧ W5.drew = W' := by rw [hz]; exact dk_size D1'.drew
    have hzb : (z == (m : Int)) = true := by rw [hz]; simp
    clear hz
    have z1 := hB1.size
    have z2 := hB2.size
    have z3 := hB3.size
    have z4 := hB4.size
    have z5 := hB5.size
    have fin : Below W.heap.size W W5 := (((hB1.trans (hB2.mono z1)).trans (hB3.mono (by omega))).trans (hB4.mono (by omega))).trans (hB5.mono (by omega))
    have FIN := Lib.hid fin
    clear fin hB1 hB2 hB3 hB4 hB5 hr hsz how hq1 hq2 hq3 hq4 hnew
    go_wp2_with fail
    refine reg_start (fun w' => Src w' (.slice (some ⟨q, 0, none⟩) 64 cap) 64 (bcells zL)) (by kernel_rfl) ?_
    have hS : Src W5.drew (.slice (some ⟨q, 0, none⟩) 64 cap) 64 (bcells zL) := hsrc
    refine reg_take 0 (v := ?_) rfl (by kernel_rfl) (by rfl) ?_ hS ?_; rotate_left; focus (intro w hw; go_simp; try with_reducible rfl)
    simp only [Act.put, List.setIfInBounds_toArray, List.set_cons_zero, List.set_cons_succ]
    refine reg_take 1 (v := ?_) rfl (by kernel_rfl) (by rfl) ?_ hS ?_; rotate_left; focus (intro w hw; go_simp; try with_reducible rfl)
    simp only [Act.put, List.setIfInBounds_toArray, List.set_cons_zero, List.set_cons_succ]
    refine reg_take 2 (v := ?_) rfl (by kernel_rfl) (by rfl) ?_ hS ?_; rotate_left; focus (intro w hw; go_simp; try with_reducible rfl)
    simp only [Act.put, List.setIfInBounds_toArray, List.set_cons_zero, List.set_cons_succ]
    refine reg_take 3 (v := ?_) rfl (by kernel_rfl) (by rfl) ?_ hS ?_; rotate_left; focus (intro w hw; go_simp; try with_reducible rfl)
    simp only [Act.put, List.setIfInBounds_toArray, List.set_cons_zero, List.set_cons_succ]
    refine reg_take 4 (v := ?_) rfl (by kernel_rfl) (by rfl) ?_ hS ?_; rotate_left; focus (intro w hw; go_simp; try with_reducible rfl)
    simp only [Act.put, List.setIfInBounds_toArray, List.set_cons_zero, List.set_cons_succ]
    refine reg_take 5 (v := ?_) rfl (by kernel_rfl) (by rfl) ?_ hS ?_; rotate_left; focus (intro w hw; go_simp; try with_reducible rfl)
    simp only [Act.put, List.setIfInBounds_toArray, List.set_cons_zero, List.set_cons_succ]
    refine reg_take 6 (v := ?_) rfl (by kernel_rfl) (by rfl) ?_ hS ?_; rotate_left; focus (intro w hw; go_simp; try with_reducible rfl)
    simp only [Act.put, List.setIfInBounds_toArray, List.set_cons_zero, List.set_cons_succ]
    refine reg_take 7 (v := ?_) rfl (by kernel_rfl) (by rfl) ?_ hS ?_; rotate_left; focus (intro w hw; go_simp; try with_reducible rfl)
    simp only [Act.put, List.setIfInBounds_toArray, List.set_cons_zero, List.set_cons_succ]
    refine reg_take 9 (v := ?_) rfl (by kernel_rfl) (by rfl) ?_ hS ?_; rotate_left; focus (intro w hw; go_simp; try with_reducible rfl)
    simp only [Act.put, List.setIfInBounds_toArray, List.set_cons_zero, List.set_cons_succ]
    -- 8: law.go:131       slot   88 := Op.call { value (Operand.func 10), args := #[t87], argTypes := #[22] }   [guarded: some (6, true)]
    refine reg_call 8 (by kernel_rfl) rfl (by rfl) ?_ (hsz1.mono ?_); focus go_simp
    rintro e w' ⟨rfl, rfl⟩
    refine ⟨_, rfl, hS, ?_⟩
    simp only [Act.put, List.setIfInBounds_toArray, List.set_cons_zero, List.set_cons_succ]
    refine reg_take 10 (v := ?_) rfl (by kernel_rfl) (by rfl) ?_ hS ?_; rotate_left; focus (intro w hw; go_simp; try with_reducible rfl)
    simp only [Act.put, List.setIfInBounds_toArray, List.set_cons_zero, List.set_cons_succ]
    refine reg_take 11 (v := ?_) rfl (by kernel_rfl) (by rfl) ?_ hS ?_; rotate_left; focus (intro w hw; go_simp; try with_reducible rfl)
    simp only [Act.put, List.setIfInBounds_toArray, List.set_cons_zero, List.set_cons_succ]
    refine reg_take 12 (v := ?_) rfl (by kernel_rfl) (by rfl) ?_ hS ?_; rotate_left; focus (intro w hw; go_simp; try with_reducible rfl)
    simp only [Act.put, List.setIfInBounds_toArray, List.set_cons_zero, List.set_cons_succ]
    refine reg_take 13 (v := ?_) rfl (by kernel_rfl) (by rfl) ?_ hS ?_; rotate_left; focus (intro w hw; go_simp; try with_reducible rfl)
    simp only [Act.put, List.setIfInBounds_toArray, List.set_cons_zero, List.set_cons_succ]
    refine reg_take 14 (v := ?_) rfl (by kernel_rfl) (by rfl) ?_ hS ?_; rotate_left; focus (intro w hw; go_simp; try with_reducible rfl)
    simp only [Act.put, List.setIfInBounds_toArray, List.set_cons_zero, List.set_cons_succ]
    refine reg_take 15 (v := ?_) rfl (by kernel_rfl) (by rfl) ?_ hS ?_; rotate_left; focus (intro w hw; go_simp; try with_reducible rfl)
    simp only [Act.put, List.setIfInBounds_toArray, List.set_cons_zero, List.set_cons_succ]
    refine reg_take 16 (v := ?_) rfl (by kernel_rfl) (by rfl) ?_ hS ?_; rotate_left; focus (intro w hw; go_simp; try with_reducible rfl)
    simp only [Act.put, List.setIfInBounds_toArray, List.set_cons_zero, List.set_cons_succ]
    refine reg_take 17 (v := ?_) rfl (by kernel_rfl) (by rfl) ?_ hS ?_; rotate_left; focus (intro w hw; go_simp; try with_reducible rfl)
    simp only [Act.put, List.setIfInBounds_toArray, List.set_cons_zero, List.set_cons_succ]
    refine reg_take 18 (v := ?_) rfl (by kernel_rfl) (by rfl) ?_ hS ?_; rotate_left; focus (intro w hw; go_simp; try with_reducible rfl)
    simp only [Act.put, List.setIfInBounds_toArray, List.set_cons_zero, List.set_cons_succ]
    -- 19: law.go:131       slot   99 := Op.makeSlice 27 (const (64:i64)) (const (64:i64))   [guarded: some (16, true)]
    refine reg_run 19 (by kernel_rfl) rfl (by rfl) (run_make64 (by rfl) (by rfl) (by rfl)) (hS.fresh (below_new _ _)) ?_
    replace hS := hS.fresh (below_new _ (.cells z64A 5))
    simp only [Act.put, List.setIfInBounds_toArray, List.set_cons_zero, List.set_cons_succ]
    refine reg_run 20 (by kernel_rfl) rfl (by rfl) (run_conv64 (w0 := W5.drew) (by rfl) (by rfl) rfl) hS ?_
    simp only [Act.put, List.setIfInBounds_toArray, List.set_cons_zero, List.set_cons_succ]
    refine reg_take 21 (v := ?_) rfl (by kernel_rfl) (by rfl) ?_ hS ?_; rotate_left; focus (intro w hw; go_simp; try with_reducible rfl)
    simp only [Act.put, List.setIfInBounds_toArray, List.set_cons_zero, List.set_cons_succ]
    refine reg_take 22 (v := ?_) rfl (by kernel_rfl) (by rfl) ?_ hS ?_; rotate_left; focus (intro w hw; go_simp; try with_reducible rfl)
    simp only [Act.put, List.setIfInBounds_toArray, List.set_cons_zero, List.set_cons_succ]
    refine reg_take 23 (v := ?_) rfl (by kernel_rfl) (by rfl) ?_ hS ?_; rotate_left; focus (intro w hw; go_simp; try with_reducible rfl)
    simp only [Act.put, List.setIfInBounds_toArray, List.set_cons_zero, List.set_cons_succ]
    -- 24: law.go:131       slot  104 := Op.call { value (Operand.func 12), args := #[], argTypes := #[] }   [guarded: some (23, true)]
    refine reg_call 24 (by kernel_rfl) rfl (by rfl) ?_ ((known_calls _).mono ?_); focus go_simp
    rintro e W9 ⟨rfl, hB9⟩
    refine ⟨_, rfl, hS.fresh hB9, ?_⟩
    replace hS := hS.fresh hB9
    simp only [Act.put, List.setIfInBounds_toArray, List.set_cons_zero, List.set_cons_succ]
    refine reg_take 25 (v := ?_) rfl (by kernel_rfl) (by rfl) ?_ hS ?_; rotate_left; focus (intro w hw; go_simp; try with_reducible rfl)
    simp only [Act.put, List.setIfInBounds_toArray, List.set_cons_zero, List.set_cons_succ]
    refine reg_take 26 (v := ?_) rfl (by kernel_rfl) (by rfl) ?_ hS ?_; rotate_left; focus (intro w hw; go_simp; try with_reducible rfl)
    simp only [Act.put, List.setIfInBounds_toArray, List.set_cons_zero, List.set_cons_succ]

    refine reg_done (by kernel_rfl) ?_
    go_wp2_with fail
    refine HPost.out _ _ ⟨rfl, ?_⟩
    have hx := (below_new W5.drew (.cells z64A 5)).size
    exact (FIN.out.drew.trans ((below_new W5.drew (.cells z64A 5)).mono (by show W.heap.size ≤ W5.heap.size; omega))).trans (hB9.mono (by rw [World.size_alloc]; show W.heap.size ≤ W5.heap.size + 1; omega))
end Go.Proofs.Ytfnkbmjpiiabkaa
