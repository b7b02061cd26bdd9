/- The reference disk: NewDisk, Flush, Read. -/
import Derived.Test.YtfnkbmjpiiabkaaRef3
set_option linter.unusedVariables false
set_option linter.unusedSimpArgs false
namespace Go.Proofs.Ytfnkbmjpiiabkaa
open Go.RowKit
attribute [local go_sem ↓] Go.wp_at_zero Go.wp_at_succ
theorem own_zero {w : World} {base n size : Nat} {e : TypeId} {v : Value} {xs : List Value} (h : w.ownsRow base e size v n xs) : w.ownsRow 0 e size v n xs := by
  refine ⟨h.1, h.2.imp id ?_⟩
  rintro ⟨q, cap, cu, hv, hb, r⟩
  exact ⟨q, cap, cu, hv, Nat.zero_le _, r⟩
theorem own_range {w : World} {base n size q cap : Nat} {e : TypeId} {xs : List Value} (h : w.ownsRow base e size (.slice (some ⟨q, 0, none⟩) n cap) n xs) (off : Nat) (cs : List Value) (hc : (xs.drop off).take cs.length = cs) : w.rangeAt q off cs := by
  intro j v hv
  have hj := (List.getElem?_eq_some_iff.1 hv).1
  have h1 : xs[off + j]? = some v := by
    rw [← hc, List.getElem?_take, if_pos hj, List.getElem?_drop] at hv
    exact hv
  have := World.ownsRow.cells h (g := q) rfl (off + j) v h1
  rwa [add_lit', Nat.zero_add] at this
/-- The cells of four sectors. -/
def z256A : Array Value := (bcells (List.replicate 256 0)).toArray
theorem madeS : madeCells (Value.agg (bcells zeros64).toArray).cells 256 = z256A := by kernel_rfl
theorem make4 (W : World) : (Instr.makeSlice 62 (.int .i64 4) (.int .i64 4)).run Try.prog W = .ok (.slice (some ⟨W.heap.size, 0, none⟩) 4 4) (W.alloc (.cells z256A 67)) := by
  obtain ⟨i, hi, hzz⟩ := Option.map_eq_some_iff.1 info_S
  simp only [Prod.mk.injEq] at hzz
  obtain ⟨hz, hs, hb⟩ := hzz
  have := run_make (P := Try.prog) W 62 67 i _ Try.underlying62 hi hz .i64 .i64 4 4 (by omega) (by omega) (by rw [hb]; omega) (by omega)
  rw [hs, show (4 : Int).toNat * 64 = 256 from rfl, madeS] at this
  exact this
theorem rf_new (W : World) : Calls Try.prog 20 #[.int .i64 4] W fun e W' => ∃ m S, e = .returned (.pointer (some ⟨m, 0, none⟩)) ∧ Rf W' S m (DSt.new 4) ∧ (∀ k, S k → W.heap.size ≤ k) ∧ Below W.heap.size W W' := by
  have fin : ∃ m S, Ending.returned (.pointer (some ⟨W.heap.size + 1, 0, none⟩)) = .returned (.pointer (some ⟨m, 0, none⟩)) ∧ Rf ((W.alloc (.cells z256A 67)).alloc (.cells (rcells (.slice (some ⟨W.heap.size, 0, none⟩) 4 4) (.slice none 0 0) false false 0) 65)) S m (DSt.new 4) ∧ (∀ k, S k → W.heap.size ≤ k) ∧ Below W.heap.size W ((W.alloc (.cells z256A 67)).alloc (.cells (rcells (.slice (some ⟨W.heap.size, 0, none⟩) 4 4) (.slice none 0 0) false false 0) 65)) := by
    have x0 : ∀ o1 o2, ((W.alloc o1).alloc o2).heap[W.heap.size]? = some o1 := fun o1 o2 => (Below.heap_alloc (W.alloc o1) o2 _ (by simp)).trans (heap_alloc_new W o1)
    refine ⟨W.heap.size + 1, fun k => W.heap.size ≤ k ∧ k < W.heap.size + 2, rfl, ⟨⟨_, _, ⟨new_ok 4 (by decide) (by decide), heap_alloc2_new W _ _, ?_, World.ownsRow_nil _ _ _ _, by omega, ?_, by simp [Value.ownBlock]⟩⟩, fun k hk => by simp; omega⟩, fun k hk => hk.1, ((Below.refl _ _).alloc (Nat.le_refl _) _).alloc (by simp) _⟩
    · refine ⟨by show (bcells (List.replicate (4 * 64) 0)).length = 4 * 64; rw [bcells_len, List.length_replicate], .inr ⟨W.heap.size, 4, z256A, rfl, Nat.zero_le _, x0 _ _, Nat.le_refl _, by unfold maxLen; omega, by show (bcells (List.replicate 256 0)).toArray.size = 4 * 64; rw [List.size_toArray, bcells_len, List.length_replicate], ?_⟩⟩
      show (bcells (List.replicate (4 * 64) 0)).take (4 * 64) = bcells (List.replicate (4 * 64) 0)
      exact List.take_of_length_le (by rw [bcells_len, List.length_replicate]; omega)
    · intro k hk
      have : W.heap.size = k := by simpa [Value.ownBlock] using hk
      omega
  have FIN := Lib.hid fin
  have hmk := make4
  clear fin
  refine calls_hide fun P HPost => ?_
  go_enter Try.func20, Try.ntmps20
  go_wp2
  exact HPost.out _ _ FIN.out
theorem rf_flush (W : World) (S : Nat → Prop) (m : Nat) (s : DSt) (h : Rf W S m s) (hpl : s.pend.length < 1000000) :
    Calls Try.prog 29 #[.pointer (some ⟨m, 0, none⟩)] W fun e W' => e = .returned (.int .i64 s.flErr) ∧ RfPost W S m s.fl W' := by
  obtain ⟨⟨vd, vp, h⟩, hSl⟩ := h
  unfold DSt.flErr DSt.fl
  have c2 := h.blk.c2
  by_cases hon : s.on = false
  · rw [if_pos (.inl hon), if_pos hon]
    rw [hon] at c2
    have fin : RfPost W S m s W := RfPost.of h (fun k hk => .inl hk) (Ext.refl _ _)
    clear hon
    refine calls_hide fun P HPost => ?_
    go_enter Try.func29, Try.ntmps29
    go_wp2
    exact HPost.out _ _ ⟨rfl, fin⟩
  · have hon' : s.on = true := by simpa using hon
    rw [if_neg hon]
    rw [hon'] at c2
    have hpf := fails_calls s.on h.blk h.ok.l0 h.ok.l1
    have lr := pfLf_range (ar := s.ar) h.ok.l0 h.ok.l1
    by_cases hp : pfB s.ar s.lf = true
    · rw [if_pos (.inr hp), if_pos hp]
      rw [hp] at hpf
      clear hp hon hon'
      refine calls_hide fun P HPost => ?_
      go_enter Try.func29, Try.ntmps29
      go_wp2_with (go_at_call 35; (with_reducible refine hpf.mono ?_); rintro e W1 ⟨rfl, hb1, he1⟩)
      exact HPost.out _ _ ⟨rfl, RfPost.of (h.blkStep he1 hb1 lr.1 lr.2) (fun k hk => .inl hk) (he1.mono (fun k _ e => e ▸ h.sm))⟩
    · rw [if_neg (by rintro (h | h); exact hon h; exact hp h), if_neg hp]
      rw [show pfB s.ar s.lf = false by simpa using hp] at hpf
      clear hp hon hon'
      refine calls_hide fun P HPost => ?_
      go_enter Try.func29, Try.ntmps29
      go_wp2_with (go_at_call 35; (with_reducible refine hpf.mono ?_); rintro e W1 ⟨rfl, hb1, he1⟩)
      have R1 := h.blkStep he1 hb1 lr.1 lr.2
      have hS1 : ∀ k, S k → k < W1.heap.size := fun k hk => Nat.lt_of_lt_of_le (hSl k hk) he1.size
      have hsec := sectors_calls W1 S m vd vp _ hS1 R1 hpl
      clear c2 hpf
      go_wp2_with fail
      (with_reducible refine hsec.mono ?_)
      rintro e W2 ⟨v, rfl, how, hB2⟩
      obtain ⟨A, c, rfl⟩ := own_any how
      have R2 := R1.below hB2 hS1
      have c0 := R2.blk.c0
      have c1 := R2.blk.c1
      have f0 := R2.blk.fz 0
      have f1 := R2.blk.fz 1
      clear hsec
      go_wp2_with fail
      have e3 := set2 W2 m 0 1 (.slice A s.n c) (.slice none 0 0)
      have b3 := (R2.blk.s0 (.slice A s.n c)).s1 (.slice none 0 0)
      have hm := blk_lt R1.blk
      have hnm : ∀ k, (Value.slice A s.n c).ownBlock = some k → ¬ k = m := fun k hk e => by have := (how.lt k hk).1; omega
      refine HPost.out _ _ ⟨rfl, RfPost.of (S' := fun k => S k ∨ W.heap.size ≤ k) (vd := .slice A s.n c) (vp := .slice none 0 0) ⟨⟨h.ok.n0, h.ok.n1, flTo_len _ _ _ h.ok.dur h.ok.pend _, h.ok.cur, by simp, lr.1, lr.2⟩, b3, own_ext (own_zero how) e3 hnm, World.ownsRow_nil _ _ _ _, .inl h.sm, fun k hk => .inr ?_, by simp [Value.ownBlock]⟩ (fun k hk => hk) ?_⟩
      · have := (how.lt k hk).1; have := he1.size; omega
      · exact ((he1.mono (fun k _ e => e ▸ h.sm)).trans (Ext.of_fresh (S := S) hB2) (fun _ _ h => h)).trans e3 (fun k _ e => e ▸ h.sm)
end Go.Proofs.Ytfnkbmjpiiabkaa
