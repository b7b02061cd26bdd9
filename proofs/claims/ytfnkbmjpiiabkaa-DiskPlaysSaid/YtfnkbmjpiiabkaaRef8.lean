/- The reference disk: Crash. -/
import Derived.Test.YtfnkbmjpiiabkaaRef7
set_option linter.unusedVariables false
set_option linter.unusedSimpArgs false
namespace Go.Proofs.Ytfnkbmjpiiabkaa
open Go.RowKit
attribute [local go_sem ↓] Go.wp_at_zero Go.wp_at_succ
theorem set_splice {α : Type} (L : List α) (i : Nat) (v : α) (h : i < L.length) : L.set i v = splice L i [v] := by
  rw [List.set_eq_take_append_cons_drop, if_pos h]; rfl
theorem splice_step {α : Type} (D : List α) (off : Nat) (d : List α) (k : Nat) (hk : k < d.length) (h : off + d.length ≤ D.length) : splice (splice D off (d.take k)) (off + k) [d[k]] = splice D off (d.take (k + 1)) := by
  have hl : (d.take k).length = k := by rw [List.length_take]; omega
  have hl2 : (d.take (k + 1)).length = k + 1 := by rw [List.length_take]; omega
  have ht : (D.take off).length = off := by rw [List.length_take]; omega
  rw [← set_splice _ _ _ (by rw [spl_len _ _ _ (by rw [hl]; omega)]; omega)]
  unfold splice
  rw [List.set_append_right _ _ (by omega), ht, show off + k - off = k by omega, List.set_append_right _ _ (by omega), hl, Nat.sub_self, hl2, List.drop_eq_getElem_cons (show off + k < D.length by omega), List.set_cons_zero, List.take_succ_eq_append_getElem hk, List.append_assoc, List.singleton_append]
  rfl
/-- What the region of the inner loop reads. -/
structure RegC2 (m qp j k : Nat) (vp : Value) (pa : Nat) (bk : Int) (w : World) : Prop where
  r1 : w.cell? ⟨m, 1, none⟩ = some vp
  r2 : w.cell? ⟨qp, j * 65, none⟩ = some (.int .i64 pa)
  r3 : w.cell? ⟨qp, j * 65 + 1 + k, none⟩ = some (.int .u8 bk)
theorem RegC2.ext {T : Nat → Prop} {w w' : World} {m qp j k : Nat} {vp : Value} {pa : Nat} {bk : Int} (h : RegC2 m qp j k vp pa bk w) (he : Ext T w w') (hm : ¬ T m) (hq : ¬ T qp) : RegC2 m qp j k vp pa bk w' := by
  have h1 := he.block m (World.block_lt_of_cell? _ _ h.r1) hm
  have h2 := he.block qp (World.block_lt_of_cell? _ _ h.r2) hq
  exact ⟨(World.cell?_of_block h1).trans h.r1, (World.cell?_of_block h2).trans h.r2, (World.cell?_of_block h2).trans h.r3⟩
set_option maxRecDepth 4000 in
set_option maxHeartbeats 4000000 in
theorem rf_crash (W : World) (S : Nat → Prop) (m : Nat) (s : DSt) (h : Rf W S m s) (keep torn : Int) (hk0 : 0 ≤ keep) (hk1 : keep ≤ 18446744073709551615) (ht0 : -9223372036854775808 ≤ torn) (ht1 : torn ≤ 9223372036854775807) (hpl : s.pend.length < 1000000) :
    Calls Try.prog 31 #[.pointer (some ⟨m, 0, none⟩), .int .u64 keep, .int .i64 torn] W fun e W' => e = .returned (.tuple #[]) ∧ RfPost W S m (s.cr keep torn) W' := by
  obtain ⟨⟨vd, vp, h⟩, hSl⟩ := h
  have n0 := h.ok.n0
  have n1 := h.ok.n1
  obtain ⟨A, c, hvp⟩ := own_any h.pend
  subst hvp
  have hn : ∃ n, s.pend.length = n := ⟨_, rfl⟩
  obtain ⟨n, hn⟩ := hn
  have hnl : n < 1000000 := by omega
  have c1 := h.blk.c1
  rw [hn] at c1
  have HN := Lib.hid hn
  clear hn
  refine calls_hide fun P HPost => ?_
  go_enter Try.func31, Try.ntmps31
  go_wp2_with fail
  go_loop [7, 6] (fun i l => ∃ k : Nat, k ≤ n ∧ i = .int .i64 k ∧ l = .int .i64 (crLast keep k)) (fun i _ => n - (intOf i).toNat)
  case atStart => exact ⟨0, Nat.zero_le _, rfl, rfl⟩
  case round =>
    obtain ⟨k, hk, rfl, rfl⟩ := hrel
    have lr := crLast_range keep k
    by_cases hlt : k < n
    · have hsv := rSurvives_calls keep k hk0 hk1 (by omega) W
      have hst : crLast keep (k + 1) = if srvB keep k then (k : Int) else crLast keep k := rfl
      cases hb : srvB keep k
      · rw [hb] at hsv hst
        have HST := Lib.hid hst
        clear hst hb
        go_wp2_with (go_at_call 37; refine hsv.mono ?_; rintro e w' ⟨rfl, rfl⟩)
        go_round
        case rel => exact ⟨k + 1, by omega, by go_num, by rw [HST.out]; rfl⟩
        case measure => simp [intOf]; omega
      · rw [hb] at hsv hst
        have HST := Lib.hid hst
        clear hst hb
        go_wp2_with (go_at_call 37; refine hsv.mono ?_; rintro e w' ⟨rfl, rfl⟩)
        go_round
        case rel => exact ⟨k + 1, by omega, by go_num, by rw [HST.out]; rfl⟩
        case measure => simp [intOf]; omega
    · have hkn : k = n := by omega
      have eA := Ext.alloc (fun _ => False) W (.cells #[] 67)
      have hsA : Src (W.alloc (.cells #[] 67)) vd s.n (bcells s.dur) := (own_srcN h.dur).ext eA (fun _ _ _ _ h => h)
      have hlA : (bcells s.dur).length = s.n * 64 := by rw [bcells_len, h.ok.dur]
      have HLA := Lib.hid hlA
      have oE := own_empty W W.heap.size 67 64 (Nat.le_refl _)
      have c0 := (h.ext eA (fun _ _ h => h)).blk.c0
      generalize hla : crLast keep k = last at *
      have HLA2 := Lib.hid hla
      clear hlA hla
      go_wp2_with (first
        | (refine wpList_of_wp rfl ?_; refine wp_append W.heap.size _ _ 62 (by rfl) 67 _ 64 64 Try.underlying62 info_S rfl (by decide) _ 0 [] (by rfl) oE s.n (bcells s.dur) _ (by rfl) hsA HLA.out (bcells_one _) (by unfold maxLen; omega) (by omega) (by simp) ?_; intro v5 W5 how5 hgr5 hat5))
      rw [Nat.zero_add, List.nil_append] at how5
      obtain ⟨q, cap, rfl, hq1, hq2, hq3, hq4⟩ := own_form' how5 (by omega)
      have B5 : Below W.heap.size W W5 := (below_new W _).grown hgr5 (by simp) (fun k hk => by
        have e : W.heap.size = k := by simpa [Value.ownBlock] using hk
        omega)
      have L0 : Below W.heap.size W W5 ∧ W5.ownsRow W.heap.size 67 64 (.slice (some ⟨q, 0, none⟩) s.n cap) s.n (bcells (crTo keep torn last s.dur s.pend 0)) := ⟨B5, how5⟩
      clear oE hsA eA c0 hgr5 hat5 how5 B5 c1
      go_wp2_with fail
      go_loopw [9, 10, 11] (fun i u1 u2 wr => ∃ j : Nat, j ≤ n ∧ i = .int .i64 j ∧ Below W.heap.size W wr ∧ wr.ownsRow W.heap.size 67 64 (.slice (some ⟨q, 0, none⟩) s.n cap) s.n (bcells (crTo keep torn last s.dur s.pend j))) (fun i _ _ _ => n - (intOf i).toNat)
      case atStart => exact ⟨0, Nat.zero_le _, rfl, L0.1, L0.2⟩
      case round =>
        clear L0
        obtain ⟨j, hj, rfl, hB, hO⟩ := hrel
        have hR := h.ext (Ext.of_below hB) (fun k hk hT => Nat.lt_irrefl _ (Nat.lt_of_lt_of_le (hSl k hk) hT))
        have c1 := hR.blk.c1
        rw [HN.out] at c1
        by_cases hlt : j < n
        · have hjl : j < s.pend.length := by rw [HN.out]; exact hlt
          obtain ⟨qp, capp, hv, hp1, hp2⟩ := World.ownsRow.form hR.pend (by omega)
          injection hv with hv hv2 hv3
          subst hv hv3
          have hp64 : ∀ p ∈ s.pend, p.2.length = 64 := fun p hp => (h.ok.pend p hp).2
          have hrow := rowP_range h.pend hp64 j hjl
          have hpk := h.ok.pend _ (List.getElem_mem hjl)
          have hcs : crTo keep torn last s.dur s.pend (j + 1) = if srvB keep j then splice (crTo keep torn last s.dur s.pend j) ((s.pend[j]).1 * 64) ((s.pend[j]).2.take (crSz last torn j)) else crTo keep torn last s.dur s.pend j := by
            simp only [crTo]; rw [List.getD_eq_getElem?_getD, List.getElem?_eq_getElem hjl, Option.getD_some]
          have hcl := crTo_len keep torn last s.dur s.pend s.n h.ok.dur h.ok.pend j (by omega)
          have HCS := Lib.hid hcs
          have HCL := Lib.hid hcl
          generalize s.pend[j] = p at *
          obtain ⟨pa, pb⟩ := p
          have hpa : pa < s.n := hpk.1
          have hpb : pb.length = 64 := hpk.2
          obtain ⟨r2, r3⟩ := pcell_range hrow
          have HPB := Lib.hid hpb
          have HR3 := Lib.hid r3
          have hsv := rSurvives_calls keep j hk0 hk1 (by omega)
          clear hp64 hpk hpb hrow hcs hcl hv2 r3
          cases hb : srvB keep j
          · rw [hb] at hsv
            have HCS2 : Hid (crTo keep torn last s.dur s.pend (j + 1) = crTo keep torn last s.dur s.pend j) := by have := HCS.out; rw [hb] at this; exact this
            clear hb HCS
            go_wp2_with (go_at_call 37; (with_reducible refine (hsv _).mono ?_); rintro e w' ⟨rfl, rfl⟩)
            go_roundw
            case rel => exact ⟨j + 1, by omega, by go_num, hB, by rw [HCS2.out]; exact hO⟩
            case measure => simp [intOf]; omega
          · rw [hb] at hsv
            have HCS2 : Hid (crTo keep torn last s.dur s.pend (j + 1) = splice (crTo keep torn last s.dur s.pend j) (pa * 64) (pb.take (crSz last torn j))) := by have := HCS.out; rw [hb] at this; exact this
            clear hb HCS
            have hcases : (((j : Int) == last) = false ∧ crSz last torn j = 64) ∨ (((j : Int) == last) = true ∧ decide (0 ≤ torn) = false ∧ crSz last torn j = 64) ∨
                (((j : Int) == last) = true ∧ decide (0 ≤ torn) = true ∧ decide (torn < 64) = false ∧ crSz last torn j = 64) ∨ (((j : Int) == last) = true ∧ decide (0 ≤ torn) = true ∧ decide (torn < 64) = true ∧ crSz last torn j = torn.toNat) := by
              unfold crSz
              by_cases x1 : (j : Int) = last
              · by_cases x2 : 0 ≤ torn
                · by_cases x3 : torn < 64
                  · right; right; right; exact ⟨by simpa using x1, by simpa using x2, by simpa using x3, by rw [if_pos ⟨x1, x2, x3⟩]⟩
                  · right; right; left; exact ⟨by simpa using x1, by simpa using x2, by simpa using x3, by rw [if_neg (fun h => x3 h.2.2)]⟩
                · right; left; exact ⟨by simpa using x1, by simpa using x2, by rw [if_neg (fun h => x2 h.2.1)]⟩
              · left; exact ⟨by simpa using x1, by rw [if_neg (fun h => x1 h.1)]⟩
            generalize hD : crTo keep torn last s.dur s.pend j = D at *
            have HD := Lib.hid hD
            clear hD
            rcases hcases with ⟨t1, e1⟩ | ⟨t1, t2, e1⟩ | ⟨t1, t2, t3, e1⟩ | ⟨t1, t2, t3, e1⟩
            · have HCS3 : Hid (crTo keep torn last s.dur s.pend (j + 1) = splice D (pa * 64) (pb.take 64)) := by have := HCS2.out; rw [e1] at this; exact this
              clear e1 HCS2
              go_wp2_with (go_at_call 37; (with_reducible refine (hsv _).mono ?_); rintro e w' ⟨rfl, rfl⟩)
              have L2 : Below W.heap.size W wr ∧ wr.ownsRow W.heap.size 67 64 (.slice (some ⟨q, 0, none⟩) s.n cap) s.n (bcells (splice D (pa * 64) (pb.take 0))) := ⟨hB, by rw [List.take_zero]; simpa [splice] using hO⟩
              clear hB hO hR c1
              go_loopw [11] (fun i wr => ∃ k : Nat, k ≤ 64 ∧ i = .int .i64 k ∧ Below W.heap.size W wr ∧ wr.ownsRow W.heap.size 67 64 (.slice (some ⟨q, 0, none⟩) s.n cap) s.n (bcells (splice D (pa * 64) (pb.take k)))) (fun i _ => 64 - (intOf i).toNat)
              case atStart => exact ⟨0, Nat.zero_le _, rfl, L2.1, L2.2⟩
              case round =>
                clear L2
                obtain ⟨k, hk, rfl, hB, hO⟩ := hrel
                by_cases hlt2 : k < 64
                · have hR := h.ext (Ext.of_below hB) (fun k hk hT => Nat.lt_irrefl _ (Nat.lt_of_lt_of_le (hSl k hk) hT))
                  have c1 := hR.blk.c1
                  rw [HN.out] at c1
                  have hk64 : k < 64 := by omega
                  have hk64i : (k : Int) < 64 := by omega
                  have hkb : k < pb.length := by rw [HPB.out]; exact hk64
                  have hDl : D.length = s.n * 64 := HCL.out
                  have hst := splice_step D (pa * 64) pb k hkb (by rw [hDl, HPB.out]; omega)
                  have hsl : (splice D (pa * 64) (pb.take k)).length = s.n * 64 := by rw [spl_len _ _ _ (by rw [List.length_take, hDl]; omega), hDl]
                  have r3W : W.cell? ⟨qp, j * 65 + 1 + k, none⟩ = some (.int .u8 pb[k]) := HR3.out k _ (by simp [bcells, List.getElem?_eq_getElem hkb])
                  have r2' := (hB.cell (World.block_lt_of_cell? W _ r2)).trans r2
                  have r3' := (hB.cell (World.block_lt_of_cell? W _ r3W)).trans r3W
                  obtain ⟨bk, hbk⟩ : ∃ bk, pb[k] = bk := ⟨_, rfl⟩
                  rw [hbk] at hst r3'
                  obtain ⟨cur, hcur, hcs, hspl⟩ := own_splice hO
                  have hlc : pa * 64 + k < cur.toList.length := by rw [Array.length_toList]; rw [bcells_len, hsl] at hcs; omega
                  have cq := cell_of_blk hcur (pa * 64 + k) _ (Array.getElem?_eq_getElem (by rw [Array.length_toList] at hlc; exact hlc))
                  have fq := frozen_of_blk hcur (pa * 64 + k)
                  generalize cur[pa * 64 + k]'(by rw [Array.length_toList] at hlc; exact hlc) = uq at cq
                  have hnew := blk_setCell (w := wr.drew) hcur (pa * 64 + k) (.int .u8 bk)
                  rw [show cur.setIfInBounds (pa * 64 + k) (.int .u8 bk) = (splice cur.toList (pa * 64 + k) [.int .u8 bk]).toArray from by rw [← set_splice _ _ _ hlc, ← List.setIfInBounds_toArray, Array.toArray_toList]] at hnew
                  have hO2 := hspl _ (pa * 64 + k) [.int .u8 bk] (by rw [bcells_len, hsl]; simp; omega) hnew
                  have eS : splice (bcells (splice D (pa * 64) (pb.take k))) (pa * 64 + k) [.int .u8 bk] = bcells (splice D (pa * 64) (pb.take (k + 1))) := by
                    rw [← hst]
                    have := splice_bcells (splice D (pa * 64) (pb.take k)) (pa * 64 + k) [bk]
                    simpa [bcells] using this
                  rw [eS] at hO2
                  have hnm : m ≠ q := by have := hSl _ h.sm; omega
                  have hnq : qp ≠ q := by have := (h.pend.lt qp rfl).2; omega
                  have eQ : Ext (· = q) wr.drew (wr.drew.setCell ⟨q, pa * 64 + k, none⟩ (.int .u8 bk)) := Ext.setCell (S := (· = q)) _ _ _ rfl
                  have B2 : Below W.heap.size W (wr.drew.setCell ⟨q, pa * 64 + k, none⟩ (.int .u8 bk)) := below_ext hB.drew hB.size eQ (fun i e => by omega)
                  have hS : RegC2 m qp j k (.slice (some ⟨qp, 0, none⟩) n c) pa bk wr.drew := ⟨c1, r2', r3'⟩
                  clear hst hbk r3W hspl hcur hcs hnew eS hDl hsl c1 r2' r3' hR hO hB hlc
                  go_wp2_with fail
                  refine reg_start (RegC2 m qp j k (.slice (some ⟨qp, 0, none⟩) n c) pa bk) (by kernel_rfl) ?_
                  refine reg_take 0 (v := ?_) rfl (by kernel_rfl) (by rfl) ?_ hS ?_; rotate_left; focus (rintro w ⟨r1, r2, r3⟩; go_simp; try with_reducible rfl)
                  simp only [Act.put, List.setIfInBounds_toArray, List.set_cons_zero, List.set_cons_succ]
                  refine reg_take 1 (v := ?_) rfl (by kernel_rfl) (by rfl) ?_ hS ?_; rotate_left; focus (rintro w ⟨r1, r2, r3⟩; go_simp; try with_reducible rfl)
                  simp only [Act.put, List.setIfInBounds_toArray, List.set_cons_zero, List.set_cons_succ]
                  refine reg_take 2 (v := ?_) rfl (by kernel_rfl) (by rfl) ?_ hS ?_; rotate_left; focus (rintro w ⟨r1, r2, r3⟩; go_simp; try with_reducible rfl)
                  simp only [Act.put, List.setIfInBounds_toArray, List.set_cons_zero, List.set_cons_succ]
                  refine reg_take 3 (v := ?_) rfl (by kernel_rfl) (by rfl) ?_ hS ?_; rotate_left; focus (rintro w ⟨r1, r2, r3⟩; go_simp; try with_reducible rfl)
                  simp only [Act.put, List.setIfInBounds_toArray, List.set_cons_zero, List.set_cons_succ]
                  refine reg_take 4 (v := ?_) rfl (by kernel_rfl) (by rfl) ?_ hS ?_; rotate_left; focus (rintro w ⟨r1, r2, r3⟩; go_simp; try with_reducible rfl)
                  simp only [Act.put, List.setIfInBounds_toArray, List.set_cons_zero, List.set_cons_succ]
                  refine reg_take 5 (v := ?_) rfl (by kernel_rfl) (by rfl) ?_ hS ?_; rotate_left; focus (rintro w ⟨r1, r2, r3⟩; go_simp; try with_reducible rfl)
                  simp only [Act.put, List.setIfInBounds_toArray, List.set_cons_zero, List.set_cons_succ]
                  refine reg_take 6 (v := ?_) rfl (by kernel_rfl) (by rfl) ?_ hS ?_; rotate_left; focus (rintro w ⟨r1, r2, r3⟩; go_simp; try with_reducible rfl)
                  simp only [Act.put, List.setIfInBounds_toArray, List.set_cons_zero, List.set_cons_succ]
                  refine reg_take 7 (v := ?_) rfl (by kernel_rfl) (by rfl) ?_ hS ?_; rotate_left; focus (rintro w ⟨r1, r2, r3⟩; go_simp; try with_reducible rfl)
                  simp only [Act.put, List.setIfInBounds_toArray, List.set_cons_zero, List.set_cons_succ]
                  refine reg_take 8 (v := ?_) rfl (by kernel_rfl) (by rfl) ?_ hS ?_; rotate_left; focus (rintro w ⟨r1, r2, r3⟩; go_simp; try with_reducible rfl)
                  simp only [Act.put, List.setIfInBounds_toArray, List.set_cons_zero, List.set_cons_succ]
                  refine reg_take 9 (v := ?_) rfl (by kernel_rfl) (by rfl) ?_ hS ?_; rotate_left; focus (rintro w ⟨r1, r2, r3⟩; go_simp; try with_reducible rfl)
                  simp only [Act.put, List.setIfInBounds_toArray, List.set_cons_zero, List.set_cons_succ]
                  refine reg_take 10 (v := ?_) rfl (by kernel_rfl) (by rfl) ?_ hS ?_; rotate_left; focus (rintro w ⟨r1, r2, r3⟩; go_simp; try with_reducible rfl)
                  simp only [Act.put, List.setIfInBounds_toArray, List.set_cons_zero, List.set_cons_succ]
                  refine reg_take 11 (v := ?_) rfl (by kernel_rfl) (by rfl) ?_ hS ?_; rotate_left; focus (rintro w ⟨r1, r2, r3⟩; go_simp; try with_reducible rfl)
                  simp only [Act.put, List.setIfInBounds_toArray, List.set_cons_zero, List.set_cons_succ]
                  refine reg_take 12 (v := ?_) rfl (by kernel_rfl) (by rfl) ?_ hS ?_; rotate_left; focus (rintro w ⟨r1, r2, r3⟩; go_simp; try with_reducible rfl)
                  simp only [Act.put, List.setIfInBounds_toArray, List.set_cons_zero, List.set_cons_succ]
                  refine reg_take 13 (v := ?_) rfl (by kernel_rfl) (by rfl) ?_ hS ?_; rotate_left; focus (rintro w ⟨r1, r2, r3⟩; go_simp; try with_reducible rfl)
                  simp only [Act.put, List.setIfInBounds_toArray, List.set_cons_zero, List.set_cons_succ]
                  refine reg_take 14 (v := ?_) rfl (by kernel_rfl) (by rfl) ?_ hS ?_; rotate_left; focus (rintro w ⟨r1, r2, r3⟩; go_simp; try with_reducible rfl)
                  simp only [Act.put, List.setIfInBounds_toArray, List.set_cons_zero, List.set_cons_succ]
                  refine reg_take 15 (v := ?_) rfl (by kernel_rfl) (by rfl) ?_ hS ?_; rotate_left; focus (rintro w ⟨r1, r2, r3⟩; go_simp; try with_reducible rfl)
                  simp only [Act.put, List.setIfInBounds_toArray, List.set_cons_zero, List.set_cons_succ]
                  refine reg_take 16 (v := ?_) rfl (by kernel_rfl) (by rfl) ?_ hS ?_; rotate_left; focus (rintro w ⟨r1, r2, r3⟩; go_simp; try with_reducible rfl)
                  simp only [Act.put, List.setIfInBounds_toArray, List.set_cons_zero, List.set_cons_succ]
                  refine reg_take 17 (v := ?_) rfl (by kernel_rfl) (by rfl) ?_ hS ?_; rotate_left; focus (rintro w ⟨r1, r2, r3⟩; go_simp; try with_reducible rfl)
                  simp only [Act.put, List.setIfInBounds_toArray, List.set_cons_zero, List.set_cons_succ]
                  refine reg_take 18 (v := ?_) rfl (by kernel_rfl) (by rfl) ?_ hS ?_; rotate_left; focus (rintro w ⟨r1, r2, r3⟩; go_simp; try with_reducible rfl)
                  simp only [Act.put, List.setIfInBounds_toArray, List.set_cons_zero, List.set_cons_succ]
                  refine reg_take 19 (v := ?_) rfl (by kernel_rfl) (by rfl) ?_ hS ?_; rotate_left; focus (rintro w ⟨r1, r2, r3⟩; go_simp; try with_reducible rfl)
                  simp only [Act.put, List.setIfInBounds_toArray, List.set_cons_zero, List.set_cons_succ]
                  refine reg_take 20 (v := ?_) rfl (by kernel_rfl) (by rfl) ?_ hS ?_; rotate_left; focus (rintro w ⟨r1, r2, r3⟩; go_simp; try with_reducible rfl)
                  simp only [Act.put, List.setIfInBounds_toArray, List.set_cons_zero, List.set_cons_succ]
                  refine reg_take 21 (v := ?_) rfl (by kernel_rfl) (by rfl) ?_ hS ?_; rotate_left; focus (rintro w ⟨r1, r2, r3⟩; go_simp; try with_reducible rfl)
                  simp only [Act.put, List.setIfInBounds_toArray, List.set_cons_zero, List.set_cons_succ]
                  refine reg_store 22 (by kernel_rfl) rfl (by rfl) (w' := wr.drew.setCell ⟨q, pa * 64 + k, none⟩ (.int .u8 bk)) ?_ (hS.ext eQ hnm hnq) ?_; focus (go_simp; try with_reducible rfl)
                  refine reg_done (by kernel_rfl) ?_
                  clear hS eQ cq fq
                  go_wp2_with fail
                  go_roundw
                  case rel => exact ⟨k + 1, by omega, by go_num, B2, hO2⟩
                  case measure => simp [intOf]; omega
                · have hkz : k = 64 := by omega
                  go_wp2_with fail
                  go_roundw
                  case rel => exact ⟨j + 1, by omega, by go_num, hB, by rw [HCS3.out]; rw [hkz] at hO; exact hO⟩
                  case measure => simp [intOf]; omega
            · have HCS3 : Hid (crTo keep torn last s.dur s.pend (j + 1) = splice D (pa * 64) (pb.take 64)) := by have := HCS2.out; rw [e1] at this; exact this
              clear e1 HCS2
              go_wp2_with (go_at_call 37; (with_reducible refine (hsv _).mono ?_); rintro e w' ⟨rfl, rfl⟩)
              have L2 : Below W.heap.size W wr ∧ wr.ownsRow W.heap.size 67 64 (.slice (some ⟨q, 0, none⟩) s.n cap) s.n (bcells (splice D (pa * 64) (pb.take 0))) := ⟨hB, by rw [List.take_zero]; simpa [splice] using hO⟩
              clear hB hO hR c1
              go_loopw [11] (fun i wr => ∃ k : Nat, k ≤ 64 ∧ i = .int .i64 k ∧ Below W.heap.size W wr ∧ wr.ownsRow W.heap.size 67 64 (.slice (some ⟨q, 0, none⟩) s.n cap) s.n (bcells (splice D (pa * 64) (pb.take k)))) (fun i _ => 64 - (intOf i).toNat)
              case atStart => exact ⟨0, Nat.zero_le _, rfl, L2.1, L2.2⟩
              case round =>
                clear L2
                obtain ⟨k, hk, rfl, hB, hO⟩ := hrel
                by_cases hlt2 : k < 64
                · have hR := h.ext (Ext.of_below hB) (fun k hk hT => Nat.lt_irrefl _ (Nat.lt_of_lt_of_le (hSl k hk) hT))
                  have c1 := hR.blk.c1
                  rw [HN.out] at c1
                  have hk64 : k < 64 := by omega
                  have hk64i : (k : Int) < 64 := by omega
                  have hkb : k < pb.length := by rw [HPB.out]; exact hk64
                  have hDl : D.length = s.n * 64 := HCL.out
                  have hst := splice_step D (pa * 64) pb k hkb (by rw [hDl, HPB.out]; omega)
                  have hsl : (splice D (pa * 64) (pb.take k)).length = s.n * 64 := by rw [spl_len _ _ _ (by rw [List.length_take, hDl]; omega), hDl]
                  have r3W : W.cell? ⟨qp, j * 65 + 1 + k, none⟩ = some (.int .u8 pb[k]) := HR3.out k _ (by simp [bcells, List.getElem?_eq_getElem hkb])
                  have r2' := (hB.cell (World.block_lt_of_cell? W _ r2)).trans r2
                  have r3' := (hB.cell (World.block_lt_of_cell? W _ r3W)).trans r3W
                  obtain ⟨bk, hbk⟩ : ∃ bk, pb[k] = bk := ⟨_, rfl⟩
                  rw [hbk] at hst r3'
                  obtain ⟨cur, hcur, hcs, hspl⟩ := own_splice hO
                  have hlc : pa * 64 + k < cur.toList.length := by rw [Array.length_toList]; rw [bcells_len, hsl] at hcs; omega
                  have cq := cell_of_blk hcur (pa * 64 + k) _ (Array.getElem?_eq_getElem (by rw [Array.length_toList] at hlc; exact hlc))
                  have fq := frozen_of_blk hcur (pa * 64 + k)
                  generalize cur[pa * 64 + k]'(by rw [Array.length_toList] at hlc; exact hlc) = uq at cq
                  have hnew := blk_setCell (w := wr.drew) hcur (pa * 64 + k) (.int .u8 bk)
                  rw [show cur.setIfInBounds (pa * 64 + k) (.int .u8 bk) = (splice cur.toList (pa * 64 + k) [.int .u8 bk]).toArray from by rw [← set_splice _ _ _ hlc, ← List.setIfInBounds_toArray, Array.toArray_toList]] at hnew
                  have hO2 := hspl _ (pa * 64 + k) [.int .u8 bk] (by rw [bcells_len, hsl]; simp; omega) hnew
                  have eS : splice (bcells (splice D (pa * 64) (pb.take k))) (pa * 64 + k) [.int .u8 bk] = bcells (splice D (pa * 64) (pb.take (k + 1))) := by
                    rw [← hst]
                    have := splice_bcells (splice D (pa * 64) (pb.take k)) (pa * 64 + k) [bk]
                    simpa [bcells] using this
                  rw [eS] at hO2
                  have hnm : m ≠ q := by have := hSl _ h.sm; omega
                  have hnq : qp ≠ q := by have := (h.pend.lt qp rfl).2; omega
                  have eQ : Ext (· = q) wr.drew (wr.drew.setCell ⟨q, pa * 64 + k, none⟩ (.int .u8 bk)) := Ext.setCell (S := (· = q)) _ _ _ rfl
                  have B2 : Below W.heap.size W (wr.drew.setCell ⟨q, pa * 64 + k, none⟩ (.int .u8 bk)) := below_ext hB.drew hB.size eQ (fun i e => by omega)
                  have hS : RegC2 m qp j k (.slice (some ⟨qp, 0, none⟩) n c) pa bk wr.drew := ⟨c1, r2', r3'⟩
                  clear hst hbk r3W hspl hcur hcs hnew eS hDl hsl c1 r2' r3' hR hO hB hlc
                  go_wp2_with fail
                  refine reg_start (RegC2 m qp j k (.slice (some ⟨qp, 0, none⟩) n c) pa bk) (by kernel_rfl) ?_
                  refine reg_take 0 (v := ?_) rfl (by kernel_rfl) (by rfl) ?_ hS ?_; rotate_left; focus (rintro w ⟨r1, r2, r3⟩; go_simp; try with_reducible rfl)
                  simp only [Act.put, List.setIfInBounds_toArray, List.set_cons_zero, List.set_cons_succ]
                  refine reg_take 1 (v := ?_) rfl (by kernel_rfl) (by rfl) ?_ hS ?_; rotate_left; focus (rintro w ⟨r1, r2, r3⟩; go_simp; try with_reducible rfl)
                  simp only [Act.put, List.setIfInBounds_toArray, List.set_cons_zero, List.set_cons_succ]
                  refine reg_take 2 (v := ?_) rfl (by kernel_rfl) (by rfl) ?_ hS ?_; rotate_left; focus (rintro w ⟨r1, r2, r3⟩; go_simp; try with_reducible rfl)
                  simp only [Act.put, List.setIfInBounds_toArray, List.set_cons_zero, List.set_cons_succ]
                  refine reg_take 3 (v := ?_) rfl (by kernel_rfl) (by rfl) ?_ hS ?_; rotate_left; focus (rintro w ⟨r1, r2, r3⟩; go_simp; try with_reducible rfl)
                  simp only [Act.put, List.setIfInBounds_toArray, List.set_cons_zero, List.set_cons_succ]
                  refine reg_take 4 (v := ?_) rfl (by kernel_rfl) (by rfl) ?_ hS ?_; rotate_left; focus (rintro w ⟨r1, r2, r3⟩; go_simp; try with_reducible rfl)
                  simp only [Act.put, List.setIfInBounds_toArray, List.set_cons_zero, List.set_cons_succ]
                  refine reg_take 5 (v := ?_) rfl (by kernel_rfl) (by rfl) ?_ hS ?_; rotate_left; focus (rintro w ⟨r1, r2, r3⟩; go_simp; try with_reducible rfl)
                  simp only [Act.put, List.setIfInBounds_toArray, List.set_cons_zero, List.set_cons_succ]
                  refine reg_take 6 (v := ?_) rfl (by kernel_rfl) (by rfl) ?_ hS ?_; rotate_left; focus (rintro w ⟨r1, r2, r3⟩; go_simp; try with_reducible rfl)
                  simp only [Act.put, List.setIfInBounds_toArray, List.set_cons_zero, List.set_cons_succ]
                  refine reg_take 7 (v := ?_) rfl (by kernel_rfl) (by rfl) ?_ hS ?_; rotate_left; focus (rintro w ⟨r1, r2, r3⟩; go_simp; try with_reducible rfl)
                  simp only [Act.put, List.setIfInBounds_toArray, List.set_cons_zero, List.set_cons_succ]
                  refine reg_take 8 (v := ?_) rfl (by kernel_rfl) (by rfl) ?_ hS ?_; rotate_left; focus (rintro w ⟨r1, r2, r3⟩; go_simp; try with_reducible rfl)
                  simp only [Act.put, List.setIfInBounds_toArray, List.set_cons_zero, List.set_cons_succ]
                  refine reg_take 9 (v := ?_) rfl (by kernel_rfl) (by rfl) ?_ hS ?_; rotate_left; focus (rintro w ⟨r1, r2, r3⟩; go_simp; try with_reducible rfl)
                  simp only [Act.put, List.setIfInBounds_toArray, List.set_cons_zero, List.set_cons_succ]
                  refine reg_take 10 (v := ?_) rfl (by kernel_rfl) (by rfl) ?_ hS ?_; rotate_left; focus (rintro w ⟨r1, r2, r3⟩; go_simp; try with_reducible rfl)
                  simp only [Act.put, List.setIfInBounds_toArray, List.set_cons_zero, List.set_cons_succ]
                  refine reg_take 11 (v := ?_) rfl (by kernel_rfl) (by rfl) ?_ hS ?_; rotate_left; focus (rintro w ⟨r1, r2, r3⟩; go_simp; try with_reducible rfl)
                  simp only [Act.put, List.setIfInBounds_toArray, List.set_cons_zero, List.set_cons_succ]
                  refine reg_take 12 (v := ?_) rfl (by kernel_rfl) (by rfl) ?_ hS ?_; rotate_left; focus (rintro w ⟨r1, r2, r3⟩; go_simp; try with_reducible rfl)
                  simp only [Act.put, List.setIfInBounds_toArray, List.set_cons_zero, List.set_cons_succ]
                  refine reg_take 13 (v := ?_) rfl (by kernel_rfl) (by rfl) ?_ hS ?_; rotate_left; focus (rintro w ⟨r1, r2, r3⟩; go_simp; try with_reducible rfl)
                  simp only [Act.put, List.setIfInBounds_toArray, List.set_cons_zero, List.set_cons_succ]
                  refine reg_take 14 (v := ?_) rfl (by kernel_rfl) (by rfl) ?_ hS ?_; rotate_left; focus (rintro w ⟨r1, r2, r3⟩; go_simp; try with_reducible rfl)
                  simp only [Act.put, List.setIfInBounds_toArray, List.set_cons_zero, List.set_cons_succ]
                  refine reg_take 15 (v := ?_) rfl (by kernel_rfl) (by rfl) ?_ hS ?_; rotate_left; focus (rintro w ⟨r1, r2, r3⟩; go_simp; try with_reducible rfl)
                  simp only [Act.put, List.setIfInBounds_toArray, List.set_cons_zero, List.set_cons_succ]
                  refine reg_take 16 (v := ?_) rfl (by kernel_rfl) (by rfl) ?_ hS ?_; rotate_left; focus (rintro w ⟨r1, r2, r3⟩; go_simp; try with_reducible rfl)
                  simp only [Act.put, List.setIfInBounds_toArray, List.set_cons_zero, List.set_cons_succ]
                  refine reg_take 17 (v := ?_) rfl (by kernel_rfl) (by rfl) ?_ hS ?_; rotate_left; focus (rintro w ⟨r1, r2, r3⟩; go_simp; try with_reducible rfl)
                  simp only [Act.put, List.setIfInBounds_toArray, List.set_cons_zero, List.set_cons_succ]
                  refine reg_take 18 (v := ?_) rfl (by kernel_rfl) (by rfl) ?_ hS ?_; rotate_left; focus (rintro w ⟨r1, r2, r3⟩; go_simp; try with_reducible rfl)
                  simp only [Act.put, List.setIfInBounds_toArray, List.set_cons_zero, List.set_cons_succ]
                  refine reg_take 19 (v := ?_) rfl (by kernel_rfl) (by rfl) ?_ hS ?_; rotate_left; focus (rintro w ⟨r1, r2, r3⟩; go_simp; try with_reducible rfl)
                  simp only [Act.put, List.setIfInBounds_toArray, List.set_cons_zero, List.set_cons_succ]
                  refine reg_take 20 (v := ?_) rfl (by kernel_rfl) (by rfl) ?_ hS ?_; rotate_left; focus (rintro w ⟨r1, r2, r3⟩; go_simp; try with_reducible rfl)
                  simp only [Act.put, List.setIfInBounds_toArray, List.set_cons_zero, List.set_cons_succ]
                  refine reg_take 21 (v := ?_) rfl (by kernel_rfl) (by rfl) ?_ hS ?_; rotate_left; focus (rintro w ⟨r1, r2, r3⟩; go_simp; try with_reducible rfl)
                  simp only [Act.put, List.setIfInBounds_toArray, List.set_cons_zero, List.set_cons_succ]
                  refine reg_store 22 (by kernel_rfl) rfl (by rfl) (w' := wr.drew.setCell ⟨q, pa * 64 + k, none⟩ (.int .u8 bk)) ?_ (hS.ext eQ hnm hnq) ?_; focus (go_simp; try with_reducible rfl)
                  refine reg_done (by kernel_rfl) ?_
                  clear hS eQ cq fq
                  go_wp2_with fail
                  go_roundw
                  case rel => exact ⟨k + 1, by omega, by go_num, B2, hO2⟩
                  case measure => simp [intOf]; omega
                · have hkz : k = 64 := by omega
                  go_wp2_with fail
                  go_roundw
                  case rel => exact ⟨j + 1, by omega, by go_num, hB, by rw [HCS3.out]; rw [hkz] at hO; exact hO⟩
                  case measure => simp [intOf]; omega
            · have HCS3 : Hid (crTo keep torn last s.dur s.pend (j + 1) = splice D (pa * 64) (pb.take 64)) := by have := HCS2.out; rw [e1] at this; exact this
              clear e1 HCS2
              go_wp2_with (go_at_call 37; (with_reducible refine (hsv _).mono ?_); rintro e w' ⟨rfl, rfl⟩)
              have L2 : Below W.heap.size W wr ∧ wr.ownsRow W.heap.size 67 64 (.slice (some ⟨q, 0, none⟩) s.n cap) s.n (bcells (splice D (pa * 64) (pb.take 0))) := ⟨hB, by rw [List.take_zero]; simpa [splice] using hO⟩
              clear hB hO hR c1
              go_loopw [11] (fun i wr => ∃ k : Nat, k ≤ 64 ∧ i = .int .i64 k ∧ Below W.heap.size W wr ∧ wr.ownsRow W.heap.size 67 64 (.slice (some ⟨q, 0, none⟩) s.n cap) s.n (bcells (splice D (pa * 64) (pb.take k)))) (fun i _ => 64 - (intOf i).toNat)
              case atStart => exact ⟨0, Nat.zero_le _, rfl, L2.1, L2.2⟩
              case round =>
                clear L2
                obtain ⟨k, hk, rfl, hB, hO⟩ := hrel
                by_cases hlt2 : k < 64
                · have hR := h.ext (Ext.of_below hB) (fun k hk hT => Nat.lt_irrefl _ (Nat.lt_of_lt_of_le (hSl k hk) hT))
                  have c1 := hR.blk.c1
                  rw [HN.out] at c1
                  have hk64 : k < 64 := by omega
                  have hk64i : (k : Int) < 64 := by omega
                  have hkb : k < pb.length := by rw [HPB.out]; exact hk64
                  have hDl : D.length = s.n * 64 := HCL.out
                  have hst := splice_step D (pa * 64) pb k hkb (by rw [hDl, HPB.out]; omega)
                  have hsl : (splice D (pa * 64) (pb.take k)).length = s.n * 64 := by rw [spl_len _ _ _ (by rw [List.length_take, hDl]; omega), hDl]
                  have r3W : W.cell? ⟨qp, j * 65 + 1 + k, none⟩ = some (.int .u8 pb[k]) := HR3.out k _ (by simp [bcells, List.getElem?_eq_getElem hkb])
                  have r2' := (hB.cell (World.block_lt_of_cell? W _ r2)).trans r2
                  have r3' := (hB.cell (World.block_lt_of_cell? W _ r3W)).trans r3W
                  obtain ⟨bk, hbk⟩ : ∃ bk, pb[k] = bk := ⟨_, rfl⟩
                  rw [hbk] at hst r3'
                  obtain ⟨cur, hcur, hcs, hspl⟩ := own_splice hO
                  have hlc : pa * 64 + k < cur.toList.length := by rw [Array.length_toList]; rw [bcells_len, hsl] at hcs; omega
                  have cq := cell_of_blk hcur (pa * 64 + k) _ (Array.getElem?_eq_getElem (by rw [Array.length_toList] at hlc; exact hlc))
                  have fq := frozen_of_blk hcur (pa * 64 + k)
                  generalize cur[pa * 64 + k]'(by rw [Array.length_toList] at hlc; exact hlc) = uq at cq
                  have hnew := blk_setCell (w := wr.drew) hcur (pa * 64 + k) (.int .u8 bk)
                  rw [show cur.setIfInBounds (pa * 64 + k) (.int .u8 bk) = (splice cur.toList (pa * 64 + k) [.int .u8 bk]).toArray from by rw [← set_splice _ _ _ hlc, ← List.setIfInBounds_toArray, Array.toArray_toList]] at hnew
                  have hO2 := hspl _ (pa * 64 + k) [.int .u8 bk] (by rw [bcells_len, hsl]; simp; omega) hnew
                  have eS : splice (bcells (splice D (pa * 64) (pb.take k))) (pa * 64 + k) [.int .u8 bk] = bcells (splice D (pa * 64) (pb.take (k + 1))) := by
                    rw [← hst]
                    have := splice_bcells (splice D (pa * 64) (pb.take k)) (pa * 64 + k) [bk]
                    simpa [bcells] using this
                  rw [eS] at hO2
                  have hnm : m ≠ q := by have := hSl _ h.sm; omega
                  have hnq : qp ≠ q := by have := (h.pend.lt qp rfl).2; omega
                  have eQ : Ext (· = q) wr.drew (wr.drew.setCell ⟨q, pa * 64 + k, none⟩ (.int .u8 bk)) := Ext.setCell (S := (· = q)) _ _ _ rfl
                  have B2 : Below W.heap.size W (wr.drew.setCell ⟨q, pa * 64 + k, none⟩ (.int .u8 bk)) := below_ext hB.drew hB.size eQ (fun i e => by omega)
                  have hS : RegC2 m qp j k (.slice (some ⟨qp, 0, none⟩) n c) pa bk wr.drew := ⟨c1, r2', r3'⟩
                  clear hst hbk r3W hspl hcur hcs hnew eS hDl hsl c1 r2' r3' hR hO hB hlc
                  go_wp2_with fail
                  refine reg_start (RegC2 m qp j k (.slice (some ⟨qp, 0, none⟩) n c) pa bk) (by kernel_rfl) ?_
                  refine reg_take 0 (v := ?_) rfl (by kernel_rfl) (by rfl) ?_ hS ?_; rotate_left; focus (rintro w ⟨r1, r2, r3⟩; go_simp; try with_reducible rfl)
                  simp only [Act.put, List.setIfInBounds_toArray, List.set_cons_zero, List.set_cons_succ]
                  refine reg_take 1 (v := ?_) rfl (by kernel_rfl) (by rfl) ?_ hS ?_; rotate_left; focus (rintro w ⟨r1, r2, r3⟩; go_simp; try with_reducible rfl)
                  simp only [Act.put, List.setIfInBounds_toArray, List.set_cons_zero, List.set_cons_succ]
                  refine reg_take 2 (v := ?_) rfl (by kernel_rfl) (by rfl) ?_ hS ?_; rotate_left; focus (rintro w ⟨r1, r2, r3⟩; go_simp; try with_reducible rfl)
                  simp only [Act.put, List.setIfInBounds_toArray, List.set_cons_zero, List.set_cons_succ]
                  refine reg_take 3 (v := ?_) rfl (by kernel_rfl) (by rfl) ?_ hS ?_; rotate_left; focus (rintro w ⟨r1, r2, r3⟩; go_simp; try with_reducible rfl)
                  simp only [Act.put, List.setIfInBounds_toArray, List.set_cons_zero, List.set_cons_succ]
                  refine reg_take 4 (v := ?_) rfl (by kernel_rfl) (by rfl) ?_ hS ?_; rotate_left; focus (rintro w ⟨r1, r2, r3⟩; go_simp; try with_reducible rfl)
                  simp only [Act.put, List.setIfInBounds_toArray, List.set_cons_zero, List.set_cons_succ]
                  refine reg_take 5 (v := ?_) rfl (by kernel_rfl) (by rfl) ?_ hS ?_; rotate_left; focus (rintro w ⟨r1, r2, r3⟩; go_simp; try with_reducible rfl)
                  simp only [Act.put, List.setIfInBounds_toArray, List.set_cons_zero, List.set_cons_succ]
                  refine reg_take 6 (v := ?_) rfl (by kernel_rfl) (by rfl) ?_ hS ?_; rotate_left; focus (rintro w ⟨r1, r2, r3⟩; go_simp; try with_reducible rfl)
                  simp only [Act.put, List.setIfInBounds_toArray, List.set_cons_zero, List.set_cons_succ]
                  refine reg_take 7 (v := ?_) rfl (by kernel_rfl) (by rfl) ?_ hS ?_; rotate_left; focus (rintro w ⟨r1, r2, r3⟩; go_simp; try with_reducible rfl)
                  simp only [Act.put, List.setIfInBounds_toArray, List.set_cons_zero, List.set_cons_succ]
                  refine reg_take 8 (v := ?_) rfl (by kernel_rfl) (by rfl) ?_ hS ?_; rotate_left; focus (rintro w ⟨r1, r2, r3⟩; go_simp; try with_reducible rfl)
                  simp only [Act.put, List.setIfInBounds_toArray, List.set_cons_zero, List.set_cons_succ]
                  refine reg_take 9 (v := ?_) rfl (by kernel_rfl) (by rfl) ?_ hS ?_; rotate_left; focus (rintro w ⟨r1, r2, r3⟩; go_simp; try with_reducible rfl)
                  simp only [Act.put, List.setIfInBounds_toArray, List.set_cons_zero, List.set_cons_succ]
                  refine reg_take 10 (v := ?_) rfl (by kernel_rfl) (by rfl) ?_ hS ?_; rotate_left; focus (rintro w ⟨r1, r2, r3⟩; go_simp; try with_reducible rfl)
                  simp only [Act.put, List.setIfInBounds_toArray, List.set_cons_zero, List.set_cons_succ]
                  refine reg_take 11 (v := ?_) rfl (by kernel_rfl) (by rfl) ?_ hS ?_; rotate_left; focus (rintro w ⟨r1, r2, r3⟩; go_simp; try with_reducible rfl)
                  simp only [Act.put, List.setIfInBounds_toArray, List.set_cons_zero, List.set_cons_succ]
                  refine reg_take 12 (v := ?_) rfl (by kernel_rfl) (by rfl) ?_ hS ?_; rotate_left; focus (rintro w ⟨r1, r2, r3⟩; go_simp; try with_reducible rfl)
                  simp only [Act.put, List.setIfInBounds_toArray, List.set_cons_zero, List.set_cons_succ]
                  refine reg_take 13 (v := ?_) rfl (by kernel_rfl) (by rfl) ?_ hS ?_; rotate_left; focus (rintro w ⟨r1, r2, r3⟩; go_simp; try with_reducible rfl)
                  simp only [Act.put, List.setIfInBounds_toArray, List.set_cons_zero, List.set_cons_succ]
                  refine reg_take 14 (v := ?_) rfl (by kernel_rfl) (by rfl) ?_ hS ?_; rotate_left; focus (rintro w ⟨r1, r2, r3⟩; go_simp; try with_reducible rfl)
                  simp only [Act.put, List.setIfInBounds_toArray, List.set_cons_zero, List.set_cons_succ]
                  refine reg_take 15 (v := ?_) rfl (by kernel_rfl) (by rfl) ?_ hS ?_; rotate_left; focus (rintro w ⟨r1, r2, r3⟩; go_simp; try with_reducible rfl)
                  simp only [Act.put, List.setIfInBounds_toArray, List.set_cons_zero, List.set_cons_succ]
                  refine reg_take 16 (v := ?_) rfl (by kernel_rfl) (by rfl) ?_ hS ?_; rotate_left; focus (rintro w ⟨r1, r2, r3⟩; go_simp; try with_reducible rfl)
                  simp only [Act.put, List.setIfInBounds_toArray, List.set_cons_zero, List.set_cons_succ]
                  refine reg_take 17 (v := ?_) rfl (by kernel_rfl) (by rfl) ?_ hS ?_; rotate_left; focus (rintro w ⟨r1, r2, r3⟩; go_simp; try with_reducible rfl)
                  simp only [Act.put, List.setIfInBounds_toArray, List.set_cons_zero, List.set_cons_succ]
                  refine reg_take 18 (v := ?_) rfl (by kernel_rfl) (by rfl) ?_ hS ?_; rotate_left; focus (rintro w ⟨r1, r2, r3⟩; go_simp; try with_reducible rfl)
                  simp only [Act.put, List.setIfInBounds_toArray, List.set_cons_zero, List.set_cons_succ]
                  refine reg_take 19 (v := ?_) rfl (by kernel_rfl) (by rfl) ?_ hS ?_; rotate_left; focus (rintro w ⟨r1, r2, r3⟩; go_simp; try with_reducible rfl)
                  simp only [Act.put, List.setIfInBounds_toArray, List.set_cons_zero, List.set_cons_succ]
                  refine reg_take 20 (v := ?_) rfl (by kernel_rfl) (by rfl) ?_ hS ?_; rotate_left; focus (rintro w ⟨r1, r2, r3⟩; go_simp; try with_reducible rfl)
                  simp only [Act.put, List.setIfInBounds_toArray, List.set_cons_zero, List.set_cons_succ]
                  refine reg_take 21 (v := ?_) rfl (by kernel_rfl) (by rfl) ?_ hS ?_; rotate_left; focus (rintro w ⟨r1, r2, r3⟩; go_simp; try with_reducible rfl)
                  simp only [Act.put, List.setIfInBounds_toArray, List.set_cons_zero, List.set_cons_succ]
                  refine reg_store 22 (by kernel_rfl) rfl (by rfl) (w' := wr.drew.setCell ⟨q, pa * 64 + k, none⟩ (.int .u8 bk)) ?_ (hS.ext eQ hnm hnq) ?_; focus (go_simp; try with_reducible rfl)
                  refine reg_done (by kernel_rfl) ?_
                  clear hS eQ cq fq
                  go_wp2_with fail
                  go_roundw
                  case rel => exact ⟨k + 1, by omega, by go_num, B2, hO2⟩
                  case measure => simp [intOf]; omega
                · have hkz : k = 64 := by omega
                  go_wp2_with fail
                  go_roundw
                  case rel => exact ⟨j + 1, by omega, by go_num, hB, by rw [HCS3.out]; rw [hkz] at hO; exact hO⟩
                  case measure => simp [intOf]; omega
            · obtain ⟨tn, rfl⟩ : ∃ tn : Nat, torn = tn := ⟨torn.toNat, by simp at t2; omega⟩
              have htn : tn < 64 := by simp at t3; omega
              rw [Int.toNat_natCast] at e1
              have HCS3 : Hid (crTo keep (tn : Int) last s.dur s.pend (j + 1) = splice D (pa * 64) (pb.take tn)) := by have := HCS2.out; rw [e1] at this; exact this
              clear e1 HCS2
              go_wp2_with (go_at_call 37; (with_reducible refine (hsv _).mono ?_); rintro e w' ⟨rfl, rfl⟩)
              have L2 : Below W.heap.size W wr ∧ wr.ownsRow W.heap.size 67 64 (.slice (some ⟨q, 0, none⟩) s.n cap) s.n (bcells (splice D (pa * 64) (pb.take 0))) := ⟨hB, by rw [List.take_zero]; simpa [splice] using hO⟩
              clear hB hO hR c1
              go_loopw [11] (fun i wr => ∃ k : Nat, k ≤ tn ∧ i = .int .i64 k ∧ Below W.heap.size W wr ∧ wr.ownsRow W.heap.size 67 64 (.slice (some ⟨q, 0, none⟩) s.n cap) s.n (bcells (splice D (pa * 64) (pb.take k)))) (fun i _ => tn - (intOf i).toNat)
              case atStart => exact ⟨0, Nat.zero_le _, rfl, L2.1, L2.2⟩
              case round =>
                clear L2
                obtain ⟨k, hk, rfl, hB, hO⟩ := hrel
                by_cases hlt2 : k < tn
                · have hR := h.ext (Ext.of_below hB) (fun k hk hT => Nat.lt_irrefl _ (Nat.lt_of_lt_of_le (hSl k hk) hT))
                  have c1 := hR.blk.c1
                  rw [HN.out] at c1
                  have hk64 : k < 64 := by omega
                  have hk64i : (k : Int) < 64 := by omega
                  have hkb : k < pb.length := by rw [HPB.out]; exact hk64
                  have hDl : D.length = s.n * 64 := HCL.out
                  have hst := splice_step D (pa * 64) pb k hkb (by rw [hDl, HPB.out]; omega)
                  have hsl : (splice D (pa * 64) (pb.take k)).length = s.n * 64 := by rw [spl_len _ _ _ (by rw [List.length_take, hDl]; omega), hDl]
                  have r3W : W.cell? ⟨qp, j * 65 + 1 + k, none⟩ = some (.int .u8 pb[k]) := HR3.out k _ (by simp [bcells, List.getElem?_eq_getElem hkb])
                  have r2' := (hB.cell (World.block_lt_of_cell? W _ r2)).trans r2
                  have r3' := (hB.cell (World.block_lt_of_cell? W _ r3W)).trans r3W
                  obtain ⟨bk, hbk⟩ : ∃ bk, pb[k] = bk := ⟨_, rfl⟩
                  rw [hbk] at hst r3'
                  obtain ⟨cur, hcur, hcs, hspl⟩ := own_splice hO
                  have hlc : pa * 64 + k < cur.toList.length := by rw [Array.length_toList]; rw [bcells_len, hsl] at hcs; omega
                  have cq := cell_of_blk hcur (pa * 64 + k) _ (Array.getElem?_eq_getElem (by rw [Array.length_toList] at hlc; exact hlc))
                  have fq := frozen_of_blk hcur (pa * 64 + k)
                  generalize cur[pa * 64 + k]'(by rw [Array.length_toList] at hlc; exact hlc) = uq at cq
                  have hnew := blk_setCell (w := wr.drew) hcur (pa * 64 + k) (.int .u8 bk)
                  rw [show cur.setIfInBounds (pa * 64 + k) (.int .u8 bk) = (splice cur.toList (pa * 64 + k) [.int .u8 bk]).toArray from by rw [← set_splice _ _ _ hlc, ← List.setIfInBounds_toArray, Array.toArray_toList]] at hnew
                  have hO2 := hspl _ (pa * 64 + k) [.int .u8 bk] (by rw [bcells_len, hsl]; simp; omega) hnew
                  have eS : splice (bcells (splice D (pa * 64) (pb.take k))) (pa * 64 + k) [.int .u8 bk] = bcells (splice D (pa * 64) (pb.take (k + 1))) := by
                    rw [← hst]
                    have := splice_bcells (splice D (pa * 64) (pb.take k)) (pa * 64 + k) [bk]
                    simpa [bcells] using this
                  rw [eS] at hO2
                  have hnm : m ≠ q := by have := hSl _ h.sm; omega
                  have hnq : qp ≠ q := by have := (h.pend.lt qp rfl).2; omega
                  have eQ : Ext (· = q) wr.drew (wr.drew.setCell ⟨q, pa * 64 + k, none⟩ (.int .u8 bk)) := Ext.setCell (S := (· = q)) _ _ _ rfl
                  have B2 : Below W.heap.size W (wr.drew.setCell ⟨q, pa * 64 + k, none⟩ (.int .u8 bk)) := below_ext hB.drew hB.size eQ (fun i e => by omega)
                  have hS : RegC2 m qp j k (.slice (some ⟨qp, 0, none⟩) n c) pa bk wr.drew := ⟨c1, r2', r3'⟩
                  clear hst hbk r3W hspl hcur hcs hnew eS hDl hsl c1 r2' r3' hR hO hB hlc
                  go_wp2_with fail
                  refine reg_start (RegC2 m qp j k (.slice (some ⟨qp, 0, none⟩) n c) pa bk) (by kernel_rfl) ?_
                  refine reg_take 0 (v := ?_) rfl (by kernel_rfl) (by rfl) ?_ hS ?_; rotate_left; focus (rintro w ⟨r1, r2, r3⟩; go_simp; try with_reducible rfl)
                  simp only [Act.put, List.setIfInBounds_toArray, List.set_cons_zero, List.set_cons_succ]
                  refine reg_take 1 (v := ?_) rfl (by kernel_rfl) (by rfl) ?_ hS ?_; rotate_left; focus (rintro w ⟨r1, r2, r3⟩; go_simp; try with_reducible rfl)
                  simp only [Act.put, List.setIfInBounds_toArray, List.set_cons_zero, List.set_cons_succ]
                  refine reg_take 2 (v := ?_) rfl (by kernel_rfl) (by rfl) ?_ hS ?_; rotate_left; focus (rintro w ⟨r1, r2, r3⟩; go_simp; try with_reducible rfl)
                  simp only [Act.put, List.setIfInBounds_toArray, List.set_cons_zero, List.set_cons_succ]
                  refine reg_take 3 (v := ?_) rfl (by kernel_rfl) (by rfl) ?_ hS ?_; rotate_left; focus (rintro w ⟨r1, r2, r3⟩; go_simp; try with_reducible rfl)
                  simp only [Act.put, List.setIfInBounds_toArray, List.set_cons_zero, List.set_cons_succ]
                  refine reg_take 4 (v := ?_) rfl (by kernel_rfl) (by rfl) ?_ hS ?_; rotate_left; focus (rintro w ⟨r1, r2, r3⟩; go_simp; try with_reducible rfl)
                  simp only [Act.put, List.setIfInBounds_toArray, List.set_cons_zero, List.set_cons_succ]
                  refine reg_take 5 (v := ?_) rfl (by kernel_rfl) (by rfl) ?_ hS ?_; rotate_left; focus (rintro w ⟨r1, r2, r3⟩; go_simp; try with_reducible rfl)
                  simp only [Act.put, List.setIfInBounds_toArray, List.set_cons_zero, List.set_cons_succ]
                  refine reg_take 6 (v := ?_) rfl (by kernel_rfl) (by rfl) ?_ hS ?_; rotate_left; focus (rintro w ⟨r1, r2, r3⟩; go_simp; try with_reducible rfl)
                  simp only [Act.put, List.setIfInBounds_toArray, List.set_cons_zero, List.set_cons_succ]
                  refine reg_take 7 (v := ?_) rfl (by kernel_rfl) (by rfl) ?_ hS ?_; rotate_left; focus (rintro w ⟨r1, r2, r3⟩; go_simp; try with_reducible rfl)
                  simp only [Act.put, List.setIfInBounds_toArray, List.set_cons_zero, List.set_cons_succ]
                  refine reg_take 8 (v := ?_) rfl (by kernel_rfl) (by rfl) ?_ hS ?_; rotate_left; focus (rintro w ⟨r1, r2, r3⟩; go_simp; try with_reducible rfl)
                  simp only [Act.put, List.setIfInBounds_toArray, List.set_cons_zero, List.set_cons_succ]
                  refine reg_take 9 (v := ?_) rfl (by kernel_rfl) (by rfl) ?_ hS ?_; rotate_left; focus (rintro w ⟨r1, r2, r3⟩; go_simp; try with_reducible rfl)
                  simp only [Act.put, List.setIfInBounds_toArray, List.set_cons_zero, List.set_cons_succ]
                  refine reg_take 10 (v := ?_) rfl (by kernel_rfl) (by rfl) ?_ hS ?_; rotate_left; focus (rintro w ⟨r1, r2, r3⟩; go_simp; try with_reducible rfl)
                  simp only [Act.put, List.setIfInBounds_toArray, List.set_cons_zero, List.set_cons_succ]
                  refine reg_take 11 (v := ?_) rfl (by kernel_rfl) (by rfl) ?_ hS ?_; rotate_left; focus (rintro w ⟨r1, r2, r3⟩; go_simp; try with_reducible rfl)
                  simp only [Act.put, List.setIfInBounds_toArray, List.set_cons_zero, List.set_cons_succ]
                  refine reg_take 12 (v := ?_) rfl (by kernel_rfl) (by rfl) ?_ hS ?_; rotate_left; focus (rintro w ⟨r1, r2, r3⟩; go_simp; try with_reducible rfl)
                  simp only [Act.put, List.setIfInBounds_toArray, List.set_cons_zero, List.set_cons_succ]
                  refine reg_take 13 (v := ?_) rfl (by kernel_rfl) (by rfl) ?_ hS ?_; rotate_left; focus (rintro w ⟨r1, r2, r3⟩; go_simp; try with_reducible rfl)
                  simp only [Act.put, List.setIfInBounds_toArray, List.set_cons_zero, List.set_cons_succ]
                  refine reg_take 14 (v := ?_) rfl (by kernel_rfl) (by rfl) ?_ hS ?_; rotate_left; focus (rintro w ⟨r1, r2, r3⟩; go_simp; try with_reducible rfl)
                  simp only [Act.put, List.setIfInBounds_toArray, List.set_cons_zero, List.set_cons_succ]
                  refine reg_take 15 (v := ?_) rfl (by kernel_rfl) (by rfl) ?_ hS ?_; rotate_left; focus (rintro w ⟨r1, r2, r3⟩; go_simp; try with_reducible rfl)
                  simp only [Act.put, List.setIfInBounds_toArray, List.set_cons_zero, List.set_cons_succ]
                  refine reg_take 16 (v := ?_) rfl (by kernel_rfl) (by rfl) ?_ hS ?_; rotate_left; focus (rintro w ⟨r1, r2, r3⟩; go_simp; try with_reducible rfl)
                  simp only [Act.put, List.setIfInBounds_toArray, List.set_cons_zero, List.set_cons_succ]
                  refine reg_take 17 (v := ?_) rfl (by kernel_rfl) (by rfl) ?_ hS ?_; rotate_left; focus (rintro w ⟨r1, r2, r3⟩; go_simp; try with_reducible rfl)
                  simp only [Act.put, List.setIfInBounds_toArray, List.set_cons_zero, List.set_cons_succ]
                  refine reg_take 18 (v := ?_) rfl (by kernel_rfl) (by rfl) ?_ hS ?_; rotate_left; focus (rintro w ⟨r1, r2, r3⟩; go_simp; try with_reducible rfl)
                  simp only [Act.put, List.setIfInBounds_toArray, List.set_cons_zero, List.set_cons_succ]
                  refine reg_take 19 (v := ?_) rfl (by kernel_rfl) (by rfl) ?_ hS ?_; rotate_left; focus (rintro w ⟨r1, r2, r3⟩; go_simp; try with_reducible rfl)
                  simp only [Act.put, List.setIfInBounds_toArray, List.set_cons_zero, List.set_cons_succ]
                  refine reg_take 20 (v := ?_) rfl (by kernel_rfl) (by rfl) ?_ hS ?_; rotate_left; focus (rintro w ⟨r1, r2, r3⟩; go_simp; try with_reducible rfl)
                  simp only [Act.put, List.setIfInBounds_toArray, List.set_cons_zero, List.set_cons_succ]
                  refine reg_take 21 (v := ?_) rfl (by kernel_rfl) (by rfl) ?_ hS ?_; rotate_left; focus (rintro w ⟨r1, r2, r3⟩; go_simp; try with_reducible rfl)
                  simp only [Act.put, List.setIfInBounds_toArray, List.set_cons_zero, List.set_cons_succ]
                  refine reg_store 22 (by kernel_rfl) rfl (by rfl) (w' := wr.drew.setCell ⟨q, pa * 64 + k, none⟩ (.int .u8 bk)) ?_ (hS.ext eQ hnm hnq) ?_; focus (go_simp; try with_reducible rfl)
                  refine reg_done (by kernel_rfl) ?_
                  clear hS eQ cq fq
                  go_wp2_with fail
                  go_roundw
                  case rel => exact ⟨k + 1, by omega, by go_num, B2, hO2⟩
                  case measure => simp [intOf]; omega
                · have hkz : k = tn := by omega
                  go_wp2_with fail
                  go_roundw
                  case rel => exact ⟨j + 1, by omega, by go_num, hB, by rw [HCS3.out]; rw [hkz] at hO; exact hO⟩
                  case measure => simp [intOf]; omega
        · have hjn : j = n := by omega
          have c0 := hR.blk.c0
          have c2 := hR.blk.c2
          have c3 := hR.blk.c3
          have f0 := hR.blk.fz 0
          have f1 := hR.blk.fz 1
          have f2 := hR.blk.fz 2
          have f3 := hR.blk.fz 3
          have hcl := crTo_len keep torn last s.dur s.pend s.n h.ok.dur h.ok.pend j (by rw [HN.out]; exact hj)
          have hcr : s.cr keep torn = { s with on := false, ar := false, pend := [], dur := crTo keep torn last s.dur s.pend j, cur := crTo keep torn last s.dur s.pend j } := by
            unfold DSt.cr
            rw [HN.out, hjn, ← HLA2.out, hkn]
          have HCR := Lib.hid hcr
          clear hcr
          go_wp2_with fail
          go_end0
          refine HPost.out _ _ ⟨rfl, ?_⟩
          rw [HCR.out]
          have e1 := set2 wr m 0 1 (.slice (some ⟨q, 0, none⟩) s.n cap) (.slice none 0 0)
          have e2 := set2 ((wr.setCell ⟨m, 0, none⟩ (.slice (some ⟨q, 0, none⟩) s.n cap)).setCell ⟨m, 1, none⟩ (.slice none 0 0)) m 2 3 (.bool true) (.bool false)
          have e4 := e1.trans e2 (fun _ _ h => h)
          have b4 := (((hR.blk.s0 (.slice (some ⟨q, 0, none⟩) s.n cap)).s1 (.slice none 0 0)).s2 true).s3 false
          have hm := hSl _ h.sm
          refine RfPost.of (S' := fun k => S k ∨ W.heap.size ≤ k) ⟨⟨h.ok.n0, h.ok.n1, hcl, hcl, by simp, h.ok.l0, h.ok.l1⟩, b4, own_ext (own_zero hO) e4 (fun k hk e => ?_), World.ownsRow_nil _ _ _ _, .inl h.sm, fun k hk => .inr (hO.lt k hk).1, by simp [Value.ownBlock]⟩ (fun k hk => hk) ((Ext.of_below hB).mono (fun k hk hh => absurd hk (by omega)) |>.trans e4 (fun k _ e => e ▸ h.sm))
          have := (hO.lt k hk).1
          omega
end Go.Proofs.Ytfnkbmjpiiabkaa
