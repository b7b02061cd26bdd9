/- The reference disk: Write, the refusals; laws for its last region. -/
import Derived.Test.YtfnkbmjpiiabkaaRef5
set_option linter.unusedVariables false
set_option linter.unusedSimpArgs false
namespace Go.Proofs.Ytfnkbmjpiiabkaa
open Go.RowKit
attribute [local go_sem ↓] Go.wp_at_zero Go.wp_at_succ
section
variable {P : Program} {ops : Array Oper} {a : Act} {w : World} {Q : Exit → Act → World → Prop} {S : World → Prop} {fuel : Nat} {listed : Array Bool}
/-- Two operations are ready, and each may come first. -/
theorem reg_two (i j : Nat) {oi oj : Oper} (hr : Region.ready .any ops listed = [i, j]) (hi : nthOp ops.toList i = some oi) (hj : nthOp ops.toList j = some oj)
    (hwi : Region.wanted oi (yielded ops a.tmps) = true) (hwj : Region.wanted oj (yielded ops a.tmps) = true)
    (h1 : Oper.wp P oi a w (fun a' w' => S w' ∧ wpAnyH P .any ops (NoPanic Q) S fuel (listed.setIfInBounds i true) a' w') (NoPanic Q))
    (h2 : Oper.wp P oj a w (fun a' w' => S w' ∧ wpAnyH P .any ops (NoPanic Q) S fuel (listed.setIfInBounds j true) a' w') (NoPanic Q)) : wpAnyH P .any ops (NoPanic Q) S (fuel + 1) listed a w := by
  refine wpAnyH_all hr (by simp) (fun k hk => ?_)
  have hk' : k = i ∨ k = j := by simpa using hk
  rcases hk' with rfl | rfl
  · unfold Go.wpOp
    rw [nthOp_arr hi]
    simp only [hwi, if_true]
    exact .inl h1
  · unfold Go.wpOp
    rw [nthOp_arr hj]
    simp only [hwj, if_true]
    exact .inl h2
end
theorem bs0_P (ρ : Operand → Value) (d : Option Tmp) (t : TypeId) (p : String) (af : Array Edge) (gd : Option (Nat × Bool)) (w : World) :
    (execOp ρ ⟨d, .buildSlice 63 0 #[], t, p, af, gd⟩).run Try.prog w = .ok (.value (.slice (some ⟨w.heap.size, 0, none⟩) 0 0)) (w.alloc (.cells #[] 69)) := by
  kernel_rfl
theorem bs1_P (p : Nat × List Int) (hp : p.2.length = 64) (w : World) (ρ : Operand → Value) (x : Operand) (hx : ρ x = .agg (pcell p).toArray) (d : Option Tmp) (t : TypeId) (ps : String) (af : Array Edge) (gd : Option (Nat × Bool)) :
    (execOp ρ ⟨d, .buildSlice 63 1 #[(0, x)], t, ps, af, gd⟩).run Try.prog w = .ok (.value (.slice (some ⟨w.heap.size, 0, none⟩) 1 1)) (w.alloc (.cells (pcell p).toArray 69)) := by
  have hl : (pcell p).length = 65 := by rw [pcell_len, hp]
  have := run_buildSlice_one (P := Try.prog) w 63 69 (pcell p) (.agg (pcell (0, zeros64)).toArray) Try.underlying63 (by rw [hl]; kernel_rfl) (by rw [hl]; rfl) (by omega) (by omega)
  simp only [execOp]
  rw [show (#[((0 : Nat), x)].map fun (i, x) => (i, ρ x)) = #[(0, Value.agg (pcell p).toArray)] from by simp [hx]]
  rw [Sem.run_bind, this]; rfl
theorem rf_write_no (W : World) (S : Nat → Prop) (m : Nat) (s : DSt) (h : Rf W S m s) (at_ : Int) (A0 : Option Addr) (n c0 : Nat) (b : List Int) (hbn : b.length = n) (hn : n ≤ 1000000) (hno : dchk s.on at_ s.n ≠ 0 ∨ 64 < n ∨ pfB s.ar s.lf = true) :
    Calls Try.prog 33 #[.pointer (some ⟨m, 0, none⟩), .int .i64 at_, .slice A0 n c0] W fun e W' => e = .returned (.int .i64 (s.wrErr at_ n)) ∧ RfPost W S m (s.wr at_ b) W' := by
  have hsame := h
  obtain ⟨⟨vd, vp, h⟩, hSl⟩ := h
  have c2 := h.blk.c2
  have c0 := h.blk.c0
  obtain ⟨A, c, hvd⟩ := own_any h.dur
  rw [hvd] at c0
  have hn1 := h.ok.n1
  have fin : RfPost W S m s W := RfPost.of h (fun k hk => .inl hk) (Ext.refl _ _)
  unfold DSt.wrErr DSt.wr
  rw [hbn]
  by_cases hon : s.on = false
  · have hd : dchk s.on at_ s.n = 10 := by unfold dchk; rw [hon]; rfl
    rw [hd, if_pos (by decide), if_pos (by decide)]
    rw [hon] at c2
    clear hon hd hvd hno hbn
    refine calls_hide fun P HPost => ?_
    go_enter Try.func33, Try.ntmps33
    go_wp2
    exact HPost.out _ _ ⟨rfl, fin⟩
  · have hon' : s.on = true := by simpa using hon
    have c2' := c2
    rw [hon'] at c2
    by_cases h0 : at_ < 0
    · have hd : dchk s.on at_ s.n = 6 := by unfold dchk; rw [hon', if_pos rfl, if_pos (.inl h0)]
      rw [hd, if_pos (by decide), if_pos (by decide)]
      have d0 : decide (at_ < 0) = true := by simpa using h0
      clear hon hon' hd hvd h0 hno hbn c2'
      refine calls_hide fun P HPost => ?_
      go_enter Try.func33, Try.ntmps33
      go_wp2
      exact HPost.out _ _ ⟨rfl, fin⟩
    · have d0 : decide (at_ < 0) = false := by simpa using h0
      by_cases h1 : (s.n : Int) ≤ at_
      · have hd : dchk s.on at_ s.n = 6 := by unfold dchk; rw [hon', if_pos rfl, if_pos (.inr h1)]
        rw [hd, if_pos (by decide), if_pos (by decide)]
        have d1 : decide ((s.n : Int) ≤ at_) = true := by simpa using h1
        clear hon hon' hd hvd h0 h1 hno hbn c2'
        refine calls_hide fun P HPost => ?_
        go_enter Try.func33, Try.ntmps33
        go_wp2
        exact HPost.out _ _ ⟨rfl, fin⟩
      · have hd : dchk s.on at_ s.n = 0 := by unfold dchk; rw [hon', if_pos rfl, if_neg (by omega)]
        have d1 : decide ((s.n : Int) ≤ at_) = false := by simpa using h1
        rw [hd] at hno ⊢
        have hz : ¬ ((0 : Int) ≠ 0) := by simp
        rw [if_neg hz, if_neg hz]
        by_cases h64 : 64 < n
        · rw [if_pos h64, if_pos h64]
          have d2 : decide ((64 : Int) < (n : Int)) = true := by simp; omega
          clear hon hon' hd hvd h0 h1 hno hbn c2' h64
          refine calls_hide fun P HPost => ?_
          go_enter Try.func33, Try.ntmps33
          go_wp2
          exact HPost.out _ _ ⟨rfl, fin⟩
        · rw [if_neg h64, if_neg h64]
          have d2 : decide ((64 : Int) < (n : Int)) = false := by simp; omega
          have hp : pfB s.ar s.lf = true := hno.resolve_left (by simp) |>.resolve_left h64
          rw [if_pos hp, if_pos hp]
          have hpf := fails_calls s.on h.blk h.ok.l0 h.ok.l1
          have lr := pfLf_range (ar := s.ar) h.ok.l0 h.ok.l1
          rw [hp] at hpf
          clear hon hon' hd hvd h0 h1 hno hbn c2' h64 hp
          refine calls_hide fun P HPost => ?_
          go_enter Try.func33, Try.ntmps33
          go_wp2_with (go_at_call 35; (with_reducible refine hpf.mono ?_); rintro e W1 ⟨rfl, hb1, he1⟩)
          exact HPost.out _ _ ⟨rfl, RfPost.of (h.blkStep he1 hb1 lr.1 lr.2) (fun k hk => .inl hk) (he1.mono (fun k _ e => e ▸ h.sm))⟩
end Go.Proofs.Ytfnkbmjpiiabkaa
