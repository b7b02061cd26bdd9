/- The reference disk: its state in memory; laws for rows. -/
import Derived.Test.YtfnkbmjpiiabkaaRef1
set_option linter.unusedVariables false
set_option linter.unusedSimpArgs false
namespace Go.Proofs.Ytfnkbmjpiiabkaa
open Go.RowKit
section
variable {P : Program} {ops : Array Oper} {rest : List Oper} {o : Oper} {a : Act} {w : World} {K : Act → World → Prop} {Q : Exit → Act → World → Prop}
/-- A struct or an array is stored into the middle of a block. -/
theorem run_store_at (ty : TypeId) (x y : Operand) (ho : o.op = .store ty x y) (g off : Nat) (cells : Array Value) (hx : a.eval x = .pointer (some ⟨g, off, none⟩)) (hy : a.eval y = .agg cells)
    (t : TypeId) (old : Array Value) (hg : w.heap[g]? = some (.cells old t (0, 0))) (hi : (P.info? ty).map (·.size) = some cells.size) (hfit : off + cells.size ≤ old.size) (h1 : cells.all (·.oneCell') = true) :
    ∃ w', (execOp a.eval o).run P w = .ok .skip w' ∧ w'.heap[g]? = some (.cells (splice old.toList off cells.toList).toArray t (0, 0)) ∧ Ext (· = g) w w' := by
  have hr := run_storeCells_at (P := P) g off t cells.toList 0 old w hg (by simpa using hfit) (fun v hv => (Array.all_eq_true_iff_forall_mem.1 h1) v (by simpa using hv))
  refine ⟨w.setRow g (old.toList.take off ++ cells.toList ++ old.toList.drop (off + cells.toList.length)).toArray, ?_, ?_, ⟨rfl, rfl, rfl, by simp, fun k hk hne => setRow_other w g k _ hne⟩⟩
  · cases hq : P.info? ty with
    | none => simp [hq] at hi
    | some i =>
      have hs : cells.size = i.size := by simp [hq] at hi; omega
      simp only [Nat.add_zero] at hr
      unfold execOp
      simp [ho, hx, hy, Instr.storeAt, Instr.sureAddr, storeVar, sizeOf, typeInfo, hq, Value.cells, hs, hr, Result.andThen]
  · simpa [splice] using setRow_heap w g old _ t (0, 0) hg
theorem reg_store (i : Nat) {oi : Oper} {S : World → Prop} {fuel : Nat} {listed : Array Bool} {w' : World} (hr : Region.ready .any ops listed = [i]) (hi : nthOp ops.toList i = some oi) (hw : Region.wanted oi (yielded ops a.tmps) = true) (hrun : (execOp a.eval oi).run P w = .ok .skip w') (hS : S w')
    (h : wpAnyH P .any ops (NoPanic Q) S fuel (listed.setIfInBounds i true) (a.put oi.dst undef) w') : wpAnyH P .any ops (NoPanic Q) S (fuel + 1) listed a w :=
  reg_one i hr hi hw (by unfold Oper.wp; rw [hrun]; exact ⟨hS, h⟩)
theorem reg_store_at (i : Nat) {oi : Oper} {S : World → Prop} {fuel : Nat} {listed : Array Bool} (hr : Region.ready .any ops listed = [i]) (hi : nthOp ops.toList i = some oi) (hw : Region.wanted oi (yielded ops a.tmps) = true)
    (ty : TypeId) (x y : Operand) (ho : oi.op = .store ty x y) (g off : Nat) (cells : Array Value) (hx : a.eval x = .pointer (some ⟨g, off, none⟩)) (hy : a.eval y = .agg cells)
    (t : TypeId) (old : Array Value) (hg : w.heap[g]? = some (.cells old t (0, 0))) (hsz : (P.info? ty).map (·.size) = some cells.size) (hfit : off + cells.size ≤ old.size) (h1 : cells.all (·.oneCell') = true)
    (h : ∀ w', w'.heap[g]? = some (.cells (splice old.toList off cells.toList).toArray t (0, 0)) → Ext (· = g) w w' → S w' ∧ wpAnyH P .any ops (NoPanic Q) S fuel (listed.setIfInBounds i true) (a.put oi.dst undef) w') : wpAnyH P .any ops (NoPanic Q) S (fuel + 1) listed a w := by
  obtain ⟨w', hrun, h2, h3⟩ := run_store_at (P := P) ty x y ho g off cells hx hy t old hg hsz hfit h1
  exact reg_store i hr hi hw hrun (h w' h2 h3).1 (h w' h2 h3).2
end
theorem own_srcN {w : World} {base n size : Nat} {e : TypeId} {v : Value} {xs : List Value} (h : w.ownsRow base e size v n xs) : Src w v n xs := by
  have hl := h.1
  rcases h.2 with ⟨rfl, rfl⟩ | ⟨q, cap, cur, rfl, hb, hg, h1, h2, h3, h4⟩
  · obtain rfl : xs = [] := List.eq_nil_of_length_eq_zero (by simpa using hl)
    exact Src.nil w
  · exact Src.of_blk hg xs (by rw [List.drop_zero, hl, h4])
theorem own_splice {w : World} {base n size q cap : Nat} {e : TypeId} {xs : List Value} (h : w.ownsRow base e size (.slice (some ⟨q, 0, none⟩) n cap) n xs) :
    ∃ cur : Array Value, w.heap[q]? = some (.cells cur e (0, 0)) ∧ xs.length ≤ cur.size ∧ ∀ (w' : World) (off : Nat) (cs : List Value), off + cs.length ≤ xs.length → w'.heap[q]? = some (.cells (splice cur.toList off cs).toArray e (0, 0)) → w'.ownsRow base e size (.slice (some ⟨q, 0, none⟩) n cap) n (splice xs off cs) := by
  have hl := h.1
  rcases h.2 with ⟨hv, _⟩ | ⟨q', cap', cur, hv, hb, hg, h1, h2, h3, h4⟩
  · cases hv
  · injection hv with hv hv2 hv3
    injection hv with hv; injection hv with hv
    subst hv hv3
    have hle : n * size ≤ cap * size := Nat.mul_le_mul_right _ h1
    have hcl : cur.toList.length = cap * size := by rw [Array.length_toList]; exact h3
    refine ⟨cur, hg, by omega, fun w' off cs ho hw => ⟨by rw [spl_len _ _ _ ho]; exact hl, .inr ⟨q, cap, _, rfl, hb, hw, h1, h2, ?_, ?_⟩⟩⟩
    · rw [List.size_toArray, spl_len cur.toList off cs (by rw [hcl]; omega), hcl]
    · rw [List.toList_toArray, ← h4]
      unfold splice
      apply List.ext_getElem?
      intro i
      by_cases hi : i < n * size
      · rw [List.getElem?_take, if_pos hi]
        rcases Nat.lt_or_ge i off with h5 | h5
        · rw [List.getElem?_append_left (by rw [List.length_take]; omega), List.getElem?_append_left (by rw [List.length_take, List.length_take]; omega), List.getElem?_take, List.getElem?_take, if_pos h5, if_pos h5, List.getElem?_take, if_pos hi]
        · rcases Nat.lt_or_ge i (off + cs.length) with h6 | h6
          · rw [List.getElem?_append_right (by rw [List.length_take]; omega), List.getElem?_append_left (by rw [List.length_take]; omega), List.getElem?_append_right (by rw [List.length_take, List.length_take]; omega), List.getElem?_append_left (by rw [List.length_take, List.length_take]; omega), List.length_take, List.length_take, List.length_take]
            congr 1; omega
          · rw [List.getElem?_append_right (by rw [List.length_take]; omega), List.getElem?_append_right (by rw [List.length_take]; omega), List.getElem?_append_right (by rw [List.length_take, List.length_take]; omega), List.getElem?_append_right (by rw [List.length_take, List.length_take]; omega), List.getElem?_drop, List.getElem?_drop, List.length_take, List.length_take, List.length_take, List.getElem?_take, if_pos (by omega)]
            congr 1; omega
      · rw [List.getElem?_eq_none (by rw [List.length_take]; omega), List.getElem?_eq_none]
        rw [List.length_append, List.length_append, List.length_take, List.length_take, List.length_drop, List.length_take]; omega
theorem info_S : (Try.prog.info? 67).map (fun i => (i.zero, i.size, i.bytes)) = some (some (.agg (bcells zeros64).toArray), 64, 64) := by kernel_rfl
theorem size_S : (Try.prog.info? 67).map (·.size) = some 64 := by kernel_rfl
theorem zero_S (w : World) : (zeroValue 67).run Try.prog w = .ok (.agg (bcells zeros64).toArray) w := by kernel_rfl
theorem info_P : (Try.prog.info? 69).map (fun i => (i.zero, i.size, i.bytes)) = some (some (.agg (pcell (0, zeros64)).toArray), 65, 72) := by kernel_rfl
theorem size_P : (Try.prog.info? 69).map (·.size) = some 65 := by kernel_rfl
theorem build_P (at_ : Nat) (w : World) : (Instr.build 69 #[(0, .int .i64 at_)]).run Try.prog w = .ok (.agg (pcell (at_, zeros64)).toArray) w := by kernel_rfl
theorem zero_P (w : World) : (zeroValue 69).run Try.prog w = .ok (.agg (pcell (0, zeros64)).toArray) w := by kernel_rfl
/-- The reference at block m holds s; its blocks are all in S. -/
structure RefAt (W : World) (S : Nat → Prop) (m : Nat) (vd vp : Value) (s : DSt) : Prop where
  ok : s.Ok
  blk : RBlk W m vd vp (!s.on) s.ar s.lf
  dur : W.ownsRow 0 67 64 vd s.n (bcells s.dur)
  pend : W.ownsRow 0 69 65 vp s.pend.length (pcells s.pend)
  sm : S m
  sd : ∀ k, vd.ownBlock = some k → S k
  sp : ∀ k, vp.ownBlock = some k → S k
section
variable {W W' : World} {S T : Nat → Prop} {m : Nat} {vd vp : Value} {s : DSt}
theorem RefAt.ext (h : RefAt W S m vd vp s) (he : Ext T W W') (ht : ∀ k, S k → ¬ T k) : RefAt W' S m vd vp s :=
  ⟨h.ok, (he.block m (blk_lt h.blk) (ht m h.sm)).trans h.blk, own_ext h.dur he (fun k hk => ht k (h.sd k hk)), own_ext h.pend he (fun k hk => ht k (h.sp k hk)), h.sm, h.sd, h.sp⟩
theorem RefAt.below (h : RefAt W S m vd vp s) (he : Below W.heap.size W W') (hS : ∀ k, S k → k < W.heap.size) : RefAt W' S m vd vp s :=
  h.ext (Ext.of_fresh (S := fun _ => False) he) (fun _ _ h => h)
theorem RefAt.drew (h : RefAt W S m vd vp s) : RefAt W.drew S m vd vp s := ⟨h.ok, h.blk, h.dur, h.pend, h.sm, h.sd, h.sp⟩
theorem own_type {w : World} {base n size m : Nat} {e : TypeId} {v : Value} {xs : List Value} (h : w.ownsRow base e size v n xs) {cs : Array Value} {t : TypeId} {f : Nat × Nat} (hm : w.heap[m]? = some (.cells cs t f)) (hne : e ≠ t) : v.ownBlock ≠ some m := by
  intro e'
  rcases h.2 with ⟨rfl, _⟩ | ⟨q, cap, cur, rfl, hb, hg, _⟩
  · cases e'
  · have : q = m := by simpa [Value.ownBlock] using e'
    subst this
    rw [hg] at hm
    injection hm with hm; injection hm with _ hm
    exact hne hm
theorem RefAt.nd (h : RefAt W S m vd vp s) : vd.ownBlock ≠ some m := own_type h.dur h.blk (by decide)
theorem RefAt.np (h : RefAt W S m vd vp s) : vp.ownBlock ≠ some m := own_type h.pend h.blk (by decide)
/-- Only the reference's own block changes. -/
theorem RefAt.blkStep (h : RefAt W S m vd vp s) (he : Ext (· = m) W W') {on ar : Bool} {lf : Int} (hb : RBlk W' m vd vp (!on) ar lf) (h0 : 0 ≤ lf) (h1 : lf ≤ 9223372036854775807) : RefAt W' S m vd vp { s with on := on, ar := ar, lf := lf } :=
  ⟨⟨h.ok.n0, h.ok.n1, h.ok.dur, h.ok.cur, h.ok.pend, h0, h1⟩, hb, own_ext h.dur he (fun k hk e => h.nd (e ▸ hk)), own_ext h.pend he (fun k hk e => h.np (e ▸ hk)), h.sm, h.sd, h.sp⟩
end
/-- As a client sees it. -/
def Rf (W : World) (S : Nat → Prop) (m : Nat) (s : DSt) : Prop := (∃ vd vp, RefAt W S m vd vp s) ∧ ∀ k, S k → k < W.heap.size
def RfPost (W : World) (S : Nat → Prop) (m : Nat) (s' : DSt) (W' : World) : Prop := ∃ S', Rf W' S' m s' ∧ (∀ k, S' k → S k ∨ W.heap.size ≤ k) ∧ Ext S W W'
section
variable {W W' : World} {S T : Nat → Prop} {m : Nat} {vd vp : Value} {s : DSt}
theorem RfPost.of {S' : Nat → Prop} (h : RefAt W' S' m vd vp s) (hs : ∀ k, S' k → S k ∨ W.heap.size ≤ k) (he : Ext S W W') : RfPost W S m s W' := by
  have h1 := blk_lt h.blk
  refine ⟨fun k => S' k ∧ k < W'.heap.size, ⟨⟨vd, vp, ⟨h.ok, h.blk, h.dur, h.pend, ⟨h.sm, h1⟩, fun k hk => ⟨h.sd k hk, (h.dur.lt k hk).2⟩, fun k hk => ⟨h.sp k hk, (h.pend.lt k hk).2⟩⟩⟩, fun k hk => hk.2⟩, fun k hk => hs k hk.1, he⟩
theorem Rf.ok (h : Rf W S m s) : s.Ok := by obtain ⟨⟨_, _, h⟩, _⟩ := h; exact h.ok
theorem Rf.lt (h : Rf W S m s) : ∀ k, S k → k < W.heap.size := h.2
theorem Rf.ext (h : Rf W S m s) (he : Ext T W W') (ht : ∀ k, S k → ¬ T k) : Rf W' S m s := by
  obtain ⟨⟨vd, vp, h⟩, hs⟩ := h
  exact ⟨⟨vd, vp, h.ext he ht⟩, fun k hk => Nat.lt_of_lt_of_le (hs k hk) he.size⟩
theorem Rf.below (h : Rf W S m s) (he : Below W.heap.size W W') : Rf W' S m s := h.ext (Ext.of_fresh (S := fun _ => False) he) (fun _ _ h => h)
theorem Rf.drew (h : Rf W S m s) : Rf W.drew S m s := by
  obtain ⟨⟨vd, vp, h⟩, hs⟩ := h
  exact ⟨⟨vd, vp, h.drew⟩, hs⟩
theorem rf_powerOn (h : Rf W S m s) : Calls Try.prog 32 #[.pointer (some ⟨m, 0, none⟩)] W fun e W' => e = .returned (.tuple #[]) ∧ RfPost W S m { s with on := true, ar := false } W' := by
  obtain ⟨⟨vd, vp, h⟩, hs⟩ := h
  exact (rPowerOn_calls h.blk).mono fun e W' ⟨h1, h2, h3⟩ => ⟨h1, RfPost.of (h.blkStep h3 (on := true) h2 h.ok.l0 h.ok.l1) (fun k hk => .inl hk) (h3.mono (fun k _ e => e ▸ h.sm))⟩
theorem rf_failAfter (h : Rf W S m s) (n : Int) (hn : n ≤ 9223372036854775807) : Calls Try.prog 30 #[.pointer (some ⟨m, 0, none⟩), .int .i64 n] W fun e W' => e = .returned (.tuple #[]) ∧ RfPost W S m { s with ar := decide (0 ≤ n), lf := max n 0 } W' := by
  obtain ⟨⟨vd, vp, h⟩, hs⟩ := h
  exact (rFailAfter_calls n hn h.blk).mono fun e W' ⟨h1, h2, h3⟩ => ⟨h1, RfPost.of (h.blkStep h3 (on := s.on) h2 (by omega) (by omega)) (fun k hk => .inl hk) (h3.mono (fun k _ e => e ▸ h.sm))⟩
end
end Go.Proofs.Ytfnkbmjpiiabkaa
