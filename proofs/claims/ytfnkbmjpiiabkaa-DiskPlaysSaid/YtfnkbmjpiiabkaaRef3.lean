/- The reference disk: Sectors. -/
import Derived.Test.YtfnkbmjpiiabkaaRef2
set_option linter.unusedVariables false
set_option linter.unusedSimpArgs false
namespace Go.Proofs.Ytfnkbmjpiiabkaa
open Go.RowKit
attribute [local go_sem ↓] Go.wp_at_zero Go.wp_at_succ
/-- What the region of the loop reads. -/
structure RegS (m qp k : Nat) (vp : Value) (pa : Nat) (pb : List Int) (w : World) : Prop where
  r1 : w.cell? ⟨m, 1, none⟩ = some vp
  r2 : w.cell? ⟨qp, k * 65, none⟩ = some (.int .i64 pa)
  r3 : w.rangeAt qp (k * 65 + 1) (bcells pb)
theorem RegS.ext {T : Nat → Prop} {w w' : World} {m qp k : Nat} {vp : Value} {pa : Nat} {pb : List Int} (h : RegS m qp k vp pa pb w) (he : Ext T w w') (hm : ¬ T m) (hq : ¬ T qp) : RegS m qp k vp pa pb w' := by
  have h1 := he.block m (World.block_lt_of_cell? _ _ h.r1) hm
  have h2 := he.block qp (World.block_lt_of_cell? _ _ h.r2) hq
  exact ⟨(World.cell?_of_block h1).trans h.r1, (World.cell?_of_block h2).trans h.r2, fun j v hv => (World.cell?_of_block h2).trans (h.r3 j v hv)⟩
theorem own_any {w : World} {base n size : Nat} {e : TypeId} {v : Value} {xs : List Value} (h : w.ownsRow base e size v n xs) : ∃ A c, v = .slice A n c := by
  rcases h.2 with ⟨hv, h0⟩ | ⟨q, cap, cu, hv, _⟩
  · exact ⟨none, 0, by rw [h0]; exact hv⟩
  · exact ⟨_, cap, hv⟩
theorem pcell_range {w : World} {q o pa : Nat} {pb : List Int} (h : w.rangeAt q o (pcell (pa, pb))) : w.cell? ⟨q, o, none⟩ = some (.int .i64 pa) ∧ w.rangeAt q (o + 1) (bcells pb) := by
  refine ⟨h 0 _ rfl, fun j v hv => ?_⟩
  have := h (j + 1) v (by simpa [pcell] using hv)
  rwa [show o + (j + 1) = o + 1 + j by omega] at this
theorem rowP_range {W : World} {q cap kk : Nat} {l : List (Nat × List Int)} {t base : Nat} (h : W.ownsRow base t 65 (.slice (some ⟨q, 0, none⟩) kk cap) l.length (pcells l)) (hp : ∀ p ∈ l, p.2.length = 64) (i : Nat) (hi : i < l.length) : W.rangeAt q (i * 65) (pcell l[i]) := row_range h hp i hi
set_option maxRecDepth 4000 in
set_option maxHeartbeats 1000000 in
theorem sectors_calls (W : World) (S : Nat → Prop) (m : Nat) (vd vp : Value) (s : DSt) (hSl : ∀ k, S k → k < W.heap.size) (h : RefAt W S m vd vp s) (hpl : s.pend.length < 1000000) :
    Calls Try.prog 36 #[.pointer (some ⟨m, 0, none⟩)] W fun e W' => ∃ v, e = .returned v ∧ W'.ownsRow W.heap.size 67 64 v s.n (bcells (flTo s.dur s.pend s.pend.length)) ∧ Below W.heap.size W W' := by
  have n0 := h.ok.n0
  have n1 := h.ok.n1

  have eA := Ext.alloc (fun _ => False) W (.cells #[] 67)
  have hsA : Src (W.alloc (.cells #[] 67)) vd s.n (bcells s.dur) := (own_srcN h.dur).ext eA (fun _ _ _ _ h => h)
  have hlA : (bcells s.dur).length = s.n * 64 := by rw [bcells_len, h.ok.dur]
  have HLA := Lib.hid hlA
  have c0 := (h.ext eA (fun _ _ h => h)).blk.c0
  have oE := own_empty W W.heap.size 67 64 (Nat.le_refl _)
  clear hlA
  refine calls_hide fun P HPost => ?_
  go_enter Try.func36, Try.ntmps36
  go_wp2_with (first
    | (refine wpList_of_wp rfl ?_; refine wp_append W.heap.size _ _ 62 (by rfl) 67 _ 64 64 Try.underlying62 info_S rfl (by decide) _ 0 [] (by rfl) oE s.n (bcells s.dur) _ (by rfl) hsA HLA.out (bcells_one _) (by unfold maxLen; omega) (by omega) (by simp) ?_; intro v5 W5 how5 hgr5 hat5))
  rw [Nat.zero_add, List.nil_append] at how5
  obtain ⟨q, cap, rfl, hq1, hq2, hq3, hq4⟩ := own_form' how5 (by omega)
  have B5 : Below W.heap.size W W5 := (below_new W _).grown hgr5 (by simp) (fun k hk => by have e : W.heap.size = k := by simpa [Value.ownBlock] using hk
                                                                                           omega)
  have L0 : Below W.heap.size W W5 ∧ W5.ownsRow W.heap.size 67 64 (.slice (some ⟨q, 0, none⟩) s.n cap) s.n (bcells (flTo s.dur s.pend 0)) := ⟨B5, how5⟩
  clear oE hsA eA c0 hgr5 hat5 how5 B5
  go_wp2_with fail
  go_loopw [4] (fun i wr => ∃ k : Nat, k ≤ s.pend.length ∧ i = .int .i64 k ∧ Below W.heap.size W wr ∧ wr.ownsRow W.heap.size 67 64 (.slice (some ⟨q, 0, none⟩) s.n cap) s.n (bcells (flTo s.dur s.pend k))) (fun i _ => s.pend.length - (intOf i).toNat)
  case atStart => exact ⟨0, Nat.zero_le _, rfl, L0.1, L0.2⟩
  case round =>
    clear L0
    obtain ⟨k, hk, rfl, hB, hO⟩ := hrel
    have hR := h.ext (Ext.of_below hB) (fun k hk hT => Nat.lt_irrefl _ (Nat.lt_of_lt_of_le (hSl k hk) hT))
    by_cases hlt : k < s.pend.length
    · obtain ⟨qp, capp, rfl, hp1, hp2⟩ := World.ownsRow.form hR.pend (by omega)
      have hp64 : ∀ p ∈ s.pend, p.2.length = 64 := fun p hp => (h.ok.pend p hp).2
      have hrow := rowP_range hR.pend hp64 k hlt
      have hpk := h.ok.pend _ (List.getElem_mem hlt)
      have hfs := flTo_succ s.dur s.pend k hlt
      have hfl := flTo_len s.dur s.pend s.n h.ok.dur h.ok.pend k
      have HFS := Lib.hid hfs
      have HFL := Lib.hid hfl
      generalize s.pend[k] = p at *
      obtain ⟨pa, pb⟩ := p
      have hpa : pa < s.n := hpk.1
      have hpb : pb.length = 64 := hpk.2
      obtain ⟨c2, c3⟩ := pcell_range hrow
      have c1 := hR.blk.c1
      have HPB := Lib.hid hpb
      have hS : RegS m qp k (.slice (some ⟨qp, 0, none⟩) s.pend.length capp) pa pb wr.drew := ⟨c1, c2, c3⟩
      clear hp64 hrow hpk hfs hfl hpb
      go_wp2_with fail
      refine reg_start (RegS m qp k (.slice (some ⟨qp, 0, none⟩) s.pend.length capp) pa pb) (by kernel_rfl) ?_
      refine reg_take 0 (v := ?_) rfl (by kernel_rfl) (by rfl) ?_ hS ?_; rotate_left; focus (rintro w ⟨r1, r2, r3⟩; go_simp; try with_reducible rfl)
      simp only [Act.put, List.setIfInBounds_toArray, List.set_cons_zero, List.set_cons_succ]
      refine reg_take 1 (v := ?_) rfl (by kernel_rfl) (by rfl) ?_ hS ?_; rotate_left; focus (rintro w ⟨r1, r2, r3⟩; go_simp; try with_reducible rfl)
      simp only [Act.put, List.setIfInBounds_toArray, List.set_cons_zero, List.set_cons_succ]
      refine reg_take 2 (v := ?_) rfl (by kernel_rfl) (by rfl) ?_ hS ?_; rotate_left; focus (rintro w ⟨r1, r2, r3⟩; go_simp; try with_reducible rfl)
      simp only [Act.put, List.setIfInBounds_toArray, List.set_cons_zero, List.set_cons_succ]
      refine reg_take 3 (v := ?_) rfl (by kernel_rfl) (by rfl) ?_ hS ?_; rotate_left; focus (rintro w ⟨r1, r2, r3⟩; go_simp; try with_reducible rfl)
      simp only [Act.put, List.setIfInBounds_toArray, List.set_cons_zero, List.set_cons_succ]
      refine reg_take 4 (v := ?_) rfl (by kernel_rfl) (by rfl) ?_ hS ?_; rotate_left; focus (rintro w ⟨r1, r2, r3⟩; go_simp; try with_reducible rfl)
      simp only [Act.put, List.setIfInBounds_toArray, List.set_cons_zero, List.set_cons_succ]
      refine reg_take 5 (v := ?_) rfl (by kernel_rfl) (by rfl) ?_ hS ?_; rotate_left; focus (rintro w ⟨r1, r2, r3⟩; go_simp; try with_reducible rfl)
      simp only [Act.put, List.setIfInBounds_toArray, List.set_cons_zero, List.set_cons_succ]
      refine reg_take 6 (v := ?_) rfl (by kernel_rfl) (by rfl) ?_ hS ?_; rotate_left; focus (rintro w ⟨r1, r2, r3⟩; go_simp; try with_reducible rfl)
      simp only [Act.put, List.setIfInBounds_toArray, List.set_cons_zero, List.set_cons_succ]
      refine reg_take 7 (v := ?_) rfl (by kernel_rfl) (by rfl) ?_ hS ?_; rotate_left; focus (rintro w ⟨r1, r2, r3⟩; go_simp; try with_reducible rfl)
      simp only [Act.put, List.setIfInBounds_toArray, List.set_cons_zero, List.set_cons_succ]
      refine reg_take 8 (v := ?_) rfl (by kernel_rfl) (by rfl) ?_ hS ?_; rotate_left; focus (rintro w ⟨r1, r2, r3⟩; go_simp; try with_reducible rfl)
      simp only [Act.put, List.setIfInBounds_toArray, List.set_cons_zero, List.set_cons_succ]
      refine reg_take 9 (v := ?_) rfl (by kernel_rfl) (by rfl) ?_ hS ?_; rotate_left; focus (rintro w ⟨r1, r2, r3⟩; go_simp; try with_reducible rfl)
      simp only [Act.put, List.setIfInBounds_toArray, List.set_cons_zero, List.set_cons_succ]
      refine reg_take 10 (v := ?_) rfl (by kernel_rfl) (by rfl) ?_ hS ?_; rotate_left; focus (rintro w ⟨r1, r2, r3⟩; go_simp; try with_reducible rfl)
      simp only [Act.put, List.setIfInBounds_toArray, List.set_cons_zero, List.set_cons_succ]
      refine reg_take 11 (v := ?_) rfl (by kernel_rfl) (by rfl) ?_ hS ?_; rotate_left; focus (rintro w ⟨r1, r2, r3⟩; go_simp; try with_reducible rfl)
      simp only [Act.put, List.setIfInBounds_toArray, List.set_cons_zero, List.set_cons_succ]
      refine reg_take 12 (v := ?_) rfl (by kernel_rfl) (by rfl) ?_ hS ?_; rotate_left; focus (rintro w ⟨r1, r2, r3⟩; go_simp; try with_reducible rfl)
      simp only [Act.put, List.setIfInBounds_toArray, List.set_cons_zero, List.set_cons_succ]
      refine reg_take 13 (v := ?_) rfl (by kernel_rfl) (by rfl) ?_ hS ?_; rotate_left; focus (rintro w ⟨r1, r2, r3⟩; go_simp; try with_reducible rfl)
      simp only [Act.put, List.setIfInBounds_toArray, List.set_cons_zero, List.set_cons_succ]
      refine reg_take 14 (v := ?_) rfl (by kernel_rfl) (by rfl) ?_ hS ?_; rotate_left; focus (rintro w ⟨r1, r2, r3⟩; go_simp; try with_reducible rfl)
      simp only [Act.put, List.setIfInBounds_toArray, List.set_cons_zero, List.set_cons_succ]
      refine reg_take 15 (v := ?_) rfl (by kernel_rfl) (by rfl) ?_ hS ?_; rotate_left; focus (rintro w ⟨r1, r2, r3⟩; go_simp; try with_reducible rfl)
      simp only [Act.put, List.setIfInBounds_toArray, List.set_cons_zero, List.set_cons_succ]
      refine reg_take 16 (v := ?_) rfl (by kernel_rfl) (by rfl) ?_ hS ?_; rotate_left; focus (intro w hw; refine run_load_row 67 (.tmp 35) ?_ qp (k * 65 + 1) ?_ (bcells pb) _ hw.r3 Try.underlying67 rfl ?_; rfl; rfl; (rw [bcells_len, HPB.out]; exact size_S))
      simp only [Act.put, List.setIfInBounds_toArray, List.set_cons_zero, List.set_cons_succ]
      refine reg_take 17 (v := ?_) rfl (by kernel_rfl) (by rfl) ?_ hS ?_; rotate_left; focus (rintro w ⟨r1, r2, r3⟩; go_simp; try with_reducible rfl)
      simp only [Act.put, List.setIfInBounds_toArray, List.set_cons_zero, List.set_cons_succ]
      obtain ⟨cur, hcur, hcs, hspl⟩ := own_splice hO
      have hxl : (bcells (flTo s.dur s.pend k)).length = s.n * 64 := by rw [bcells_len, HFL.out]
      have hml := hS.r1
      refine reg_store_at 18 (by kernel_rfl) rfl (by rfl) 67 (.tmp 37) (.tmp 36) rfl q (pa * 64) (bcells pb).toArray rfl rfl 67 cur hcur (by rw [List.size_toArray, bcells_len, HPB.out]; exact size_S) (by rw [List.size_toArray, bcells_len, HPB.out]; omega) (all_oneCell_toArray (bcells_one _)) (fun w2 hb2 he2 => ?_)
      have hnm : m ≠ q := by have := hSl _ h.sm; omega
      have hnq : qp ≠ q := by have := (h.pend.lt qp rfl).2; omega
      refine ⟨hS.ext he2 hnm hnq, ?_⟩
      have hO2 := hspl w2 (pa * 64) (bcells pb) (by rw [hxl, bcells_len, HPB.out]; omega) (by simpa using hb2)
      have eS : splice (bcells (flTo s.dur s.pend k)) (pa * 64) (bcells pb) = bcells (flTo s.dur s.pend (k + 1)) := by
        rw [HFS.out]
        have := splice_bcells (flTo s.dur s.pend k) (pa * 64) pb
        simpa using this
      rw [eS] at hO2
      have B2 : Below W.heap.size W w2 := below_ext hB.drew hB.size he2 (fun i e => by omega)
      refine reg_done (by kernel_rfl) ?_
      clear hS hspl hcur eS hml hxl
      go_wp2_with fail
      go_roundw
      case rel => exact ⟨k + 1, by omega, by go_num, B2, hO2⟩
      case measure => simp [intOf]; omega
    · have hk' : k = s.pend.length := by omega
      subst hk'
      obtain ⟨A, c, rfl⟩ := own_any hR.pend
      have c1 := hR.blk.c1
      clear hlt hk
      go_wp2_with fail
      exact HPost.out _ _ ⟨_, rfl, hO, hB⟩
end Go.Proofs.Ytfnkbmjpiiabkaa
