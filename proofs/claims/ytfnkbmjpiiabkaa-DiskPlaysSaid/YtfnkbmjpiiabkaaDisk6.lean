/- The disk: Crash. -/
import Derived.Test.YtfnkbmjpiiabkaaDisk5
set_option linter.unusedVariables false
set_option linter.unusedSimpArgs false
namespace Go.Proofs.Ytfnkbmjpiiabkaa
open Go.RowKit
/-- The last surviving write among the first n. -/
def crLast (keep : Int) : Nat → Int
  | 0 => -1
  | k + 1 => if srvB keep k then (k : Int) else crLast keep k
theorem crLast_range (keep : Int) (n : Nat) : -1 ≤ crLast keep n ∧ crLast keep n < n := by
  induction n with
  | zero => simp [crLast]
  | succ k ih => simp only [crLast]; split <;> omega
def crSz (last torn : Int) (i : Nat) : Nat := if (i : Int) = last ∧ 0 ≤ torn ∧ torn < 64 then torn.toNat else 64
theorem crSz_le (last torn : Int) (i : Nat) : crSz last torn i ≤ 64 := by unfold crSz; split <;> omega
def crTo (keep torn last : Int) (D : List Int) (l : List (Nat × List Int)) : Nat → List Int
  | 0 => D
  | k + 1 => if srvB keep k then splice (crTo keep torn last D l k) ((l.getD k (0, [])).1 * 64) ((l.getD k (0, [])).2.take (crSz last torn k)) else crTo keep torn last D l k
theorem crTo_len (keep torn last : Int) (D : List Int) (l : List (Nat × List Int)) (n : Nat) (hD : D.length = n * 64) (h : ∀ p ∈ l, p.1 < n ∧ p.2.length = 64) (k : Nat) (hk : k ≤ l.length) : (crTo keep torn last D l k).length = n * 64 := by
  induction k with
  | zero => exact hD
  | succ k ih =>
    simp only [crTo]
    have ih := ih (by omega)
    split
    · have hp := h _ (List.getElem_mem (show k < l.length by omega))
      have hs := crSz_le last torn k
      rw [List.getD_eq_getElem?_getD, List.getElem?_eq_getElem (by omega), Option.getD_some, spl_len _ _ _ (by rw [List.length_take]; omega)]
      exact ih
    · exact ih
def DSt.cr (s : DSt) (keep torn : Int) : DSt :=
  { s with on := false, ar := false, pend := [], dur := crTo keep torn (crLast keep s.pend.length) s.dur s.pend s.pend.length, cur := crTo keep torn (crLast keep s.pend.length) s.dur s.pend s.pend.length }
attribute [local go_sem ↓] Go.wp_at_zero Go.wp_at_succ
theorem neg1_i64 : (-1 : Int) ≤ 9223372036854775807 := by decide

set_option maxHeartbeats 2000000 in
theorem crash_calls (W : World) (S : Nat → Prop) (g bd bc n c : Nat) (A : Option Addr) (s : DSt) (keep torn : Int) (hk0 : 0 ≤ keep) (hk1 : keep ≤ 18446744073709551615) (ht0 : -9223372036854775808 ≤ torn) (ht1 : torn ≤ 9223372036854775807) (hS : ∀ k, S k → k < W.heap.size)
    (h : DiskAt W S g bd bc (.slice A n c) s) (hn : n = s.pend.length) (hpl : s.pend.length < 1000000) :
    Calls Try.prog 17 #[.pointer (some ⟨g, 0, none⟩), .int .u64 keep, .int .i64 torn] W fun e W' => e = .returned (.tuple #[]) ∧ DiskPost W S g bd bc (s.cr keep torn) W' := by
  have c3 := h.blk.c3
  have c4 := h.blk.c4
  have f3 := h.blk.fz 3
  have f4 := h.blk.fz 4
  have n1 := h.ok.n1
  have n0 := h.ok.n0
  have W1b : ∀ W1, W1 = (W.setCell ⟨g, 3, none⟩ (.bool false)).setCell ⟨g, 4, none⟩ (.bool false) → Ext S W W1 ∧ DiskAt W1 S g bd bc (.slice A n c) { s with on := false, ar := false } := by
    rintro W1 rfl
    have e : Ext (· = g) W ((W.setCell ⟨g, 3, none⟩ (.bool false)).setCell ⟨g, 4, none⟩ (.bool false)) := (Ext.setCell (S := (· = g)) _ _ _ rfl).trans (Ext.setCell (S := (· = g)) _ _ _ rfl) (fun _ _ h => h)
    exact ⟨e.mono (fun k _ e => e ▸ h.sg), h.blkStep e ((h.blk.s3 _).s4 _) h.ok.l0 h.ok.l1⟩
  have W1B := Lib.hid W1b
  have hnl : n < 1000000 := by omega
  have HN := Lib.hid hn
  clear W1b hn
  refine calls_hide fun P HPost => ?_
  go_enter Try.func17, Try.ntmps17
  have c2 := h.blk.c2
  go_wp2_with fail
  generalize hW1 : (W.setCell ⟨g, 3, none⟩ (.bool false)).setCell ⟨g, 4, none⟩ (.bool false) = W1
  obtain ⟨hE1, hD1⟩ := W1B.out W1 hW1.symm
  clear hW1 c3 c4 f3 f4 c2
  go_loop [22, 6] (fun i l => ∃ k : Nat, k ≤ n ∧ i = .int .i64 k ∧ l = .int .i64 (crLast keep k)) (fun i _ => n - (intOf i).toNat)
  case atStart => exact ⟨0, Nat.zero_le _, rfl, rfl⟩
  case round =>
    obtain ⟨k, hk, rfl, rfl⟩ := hrel
    have lr := crLast_range keep k
    by_cases hlt : k < n
    · have hsv := survives_calls keep k hk0 hk1 (by omega) W1
      have hst : crLast keep (k + 1) = if srvB keep k then (k : Int) else crLast keep k := rfl
      cases hb : srvB keep k
      · rw [hb] at hsv hst
        have HST := Lib.hid hst
        clear hst hb
        go_wp2_with (go_at_call 28; refine hsv.mono ?_; rintro e w' ⟨rfl, rfl⟩)
        go_round
        case rel => exact ⟨k + 1, by omega, by go_num, by rw [HST.out]; rfl⟩
        case measure => simp [intOf]; omega
      · rw [hb] at hsv hst
        have HST := Lib.hid hst
        clear hst hb
        go_wp2_with (go_at_call 28; refine hsv.mono ?_; rintro e w' ⟨rfl, rfl⟩)
        go_round
        case rel => exact ⟨k + 1, by omega, by go_num, by rw [HST.out]; rfl⟩
        case measure => simp [intOf]; omega
    · obtain rfl : k = n := by omega
      clear hlt hk
      have c2 := hD1.blk.c2
      go_wp2_with fail
      generalize hla : crLast keep k = last at *
      have HLA := Lib.hid hla
      clear hla c2
      have L0 : Ext S W W1 ∧ DiskAt W1 S g bd bc (.slice A k c) { s with on := false, ar := false, dur := crTo keep torn last s.dur s.pend 0 } := ⟨hE1, hD1⟩
      clear hE1 hD1
      go_loopw [35] (fun i wr => ∃ j : Nat, j ≤ k ∧ i = .int .i64 j ∧ Ext S W wr ∧ DiskAt wr S g bd bc (.slice A k c) { s with on := false, ar := false, dur := crTo keep torn last s.dur s.pend j }) (fun i _ => k - (intOf i).toNat)
      case atStart => exact ⟨0, Nat.zero_le _, rfl, L0.1, L0.2⟩
      case round =>
        obtain ⟨j, hj, rfl, hE, hD⟩ := hrel
        clear L0
        by_cases hlt : j < k
        · have hjl : j < s.pend.length := by have := HN.out; omega
          have hown := hD.pend
          obtain ⟨q, cap, hv, _, _⟩ := World.ownsRow.form hown (by show 0 < s.pend.length; omega)
          injection hv with hv hv2 hv3
          subst hv; subst hv3
          have hp64 : ∀ p ∈ s.pend, p.2.length = 64 := fun p hp => (h.ok.pend p hp).2
          have hrow := row_range (l := s.pend) hown hp64 j hjl
          have hpk := h.ok.pend _ (List.getElem_mem hjl)
          have hcs : crTo keep torn last s.dur s.pend (j + 1) = if srvB keep j then splice (crTo keep torn last s.dur s.pend j) ((s.pend[j]).1 * 64) ((s.pend[j]).2.take (crSz last torn j)) else crTo keep torn last s.dur s.pend j := by
            simp only [crTo]; rw [List.getD_eq_getElem?_getD, List.getElem?_eq_getElem hjl, Option.getD_some]
          have hcl := crTo_len keep torn last s.dur s.pend s.n h.ok.dur h.ok.pend j (by omega)
          have HCS := Lib.hid hcs
          have HCL := Lib.hid hcl
          generalize s.pend[j] = p at *
          obtain ⟨pa, pb⟩ := p
          have hpa : pa < s.n := hpk.1
          have hpb : pb.length = 64 := hpk.2
          have hi60 : (Try.prog.info? 60).map (·.size) = some (pcell (pa, pb)).length := by rw [pcell_len, hpb]; exact size_w
          have HPB := Lib.hid hpb
          have HI60 := Lib.hid hi60
          have HROW := Lib.hid hrow
          have hsv := survives_calls keep j hk0 hk1 (by omega)
          clear hp64 hpk hpb hi60 hrow hcs hcl hv2 hown
          cases hb : srvB keep j
          · rw [hb] at hsv
            have HCS2 : Hid (crTo keep torn last s.dur s.pend (j + 1) = crTo keep torn last s.dur s.pend j) := by have := HCS.out; rw [hb] at this; exact this
            clear hb HCS
            go_wp2_with (first
              | (go_at_call 28; refine (hsv _).mono ?_; rintro e w' ⟨rfl, rfl⟩)
              | (refine wpList_value (by rfl) (run_load_row 60 _ (by rfl) q (j * 65) (by rfl) (pcell (pa, pb)) _ HROW.out Try.underlying60 rfl HI60.out) ?_)
              | (refine wpList_value (by rfl) (run_alloc_blk 60 (by rfl) _ zero_w) ?_)
              | (refine wpList_store_blk (by rfl) 60 _ _ (by rfl) wr.heap.size (pcell (pa, pb)).toArray (by rfl) (by rfl) 60 (pcell (0, zeros64)).toArray (heap_alloc_new wr _) (by simpa using HI60.out) (by simp [pcell_len, HPB.out, zeros64]) (all_oneCell_toArray (pcell_one _)) ?_; intro W2 hb2 he2
                 have he12 : Ext (· = wr.heap.size) wr W2 := (Ext.alloc _ _ _).trans he2 (fun _ _ h => h)
                 have D2 := hD.bound.ext he12 (fun k hk hT e => by have := hT.2; omega)))
            go_roundw
            case rel =>
              refine ⟨j + 1, by omega, by go_num, (hE.trans he12 (fun i hi e => by have := hE.size; omega)), ?_⟩
              rw [HCS2.out]
              exact D2.mono (fun i _ hi => hi.1)
            case measure => simp [intOf]; omega
          · rw [hb] at hsv
            have HCS2 : Hid (crTo keep torn last s.dur s.pend (j + 1) = splice (crTo keep torn last s.dur s.pend j) (pa * 64) (pb.take (crSz last torn j))) := by have := HCS.out; rw [hb] at this; exact this
            clear hb HCS
            have hcases : (((j : Int) == last) = false ∧ crSz last torn j = 64) ∨ (((j : Int) == last) = true ∧ decide (0 ≤ torn) = false ∧ crSz last torn j = 64) ∨
                (((j : Int) == last) = true ∧ decide (0 ≤ torn) = true ∧ decide (torn < 64) = false ∧ crSz last torn j = 64) ∨ (((j : Int) == last) = true ∧ decide (0 ≤ torn) = true ∧ decide (torn < 64) = true ∧ crSz last torn j = torn.toNat) := by
              unfold crSz
              by_cases x1 : (j : Int) = last
              · by_cases x2 : 0 ≤ torn
                · by_cases x3 : torn < 64
                  · right; right; right; exact ⟨by simpa using x1, by simpa using x2, by simpa using x3, by rw [if_pos ⟨x1, x2, x3⟩]⟩
                  · right; right; left; exact ⟨by simpa using x1, by simpa using x2, by simpa using x3, by rw [if_neg (fun h => x3 h.2.2)]⟩
                · right; left; exact ⟨by simpa using x1, by simpa using x2, by rw [if_neg (fun h => x2 h.2.1)]⟩
              · left; exact ⟨by simpa using x1, by rw [if_neg (fun h => x1 h.1)]⟩
            rcases hcases with ⟨t1, e1⟩ | ⟨t1, t2, e1⟩ | ⟨t1, t2, t3, e1⟩ | ⟨t1, t2, t3, e1⟩
            · have HCS3 : Hid (crTo keep torn last s.dur s.pend (j + 1) = splice (crTo keep torn last s.dur s.pend j) (pa * 64) (pb.take 64)) := by have := HCS2.out; rw [e1] at this; exact this
              clear e1 HCS2
              go_wp2_with (first
                | (go_at_call 28; refine (hsv _).mono ?_; rintro e w' ⟨rfl, rfl⟩)
                | (refine wpList_value (by rfl) (run_load_row 60 _ (by rfl) q (j * 65) (by rfl) (pcell (pa, pb)) _ HROW.out Try.underlying60 rfl HI60.out) ?_)
                | (refine wpList_value (by rfl) (run_alloc_blk 60 (by rfl) _ zero_w) ?_)
                | (refine wpList_store_blk (by rfl) 60 _ _ (by rfl) wr.heap.size (pcell (pa, pb)).toArray (by rfl) (by rfl) 60 (pcell (0, zeros64)).toArray (heap_alloc_new wr _) (by simpa using HI60.out) (by simp [pcell_len, HPB.out, zeros64]) (all_oneCell_toArray (pcell_one _)) ?_; intro W2 hb2 he2
                   have he12 : Ext (· = wr.heap.size) wr W2 := (Ext.alloc _ _ _).trans he2 (fun _ _ h => h)
                   have D2 := hD.bound.ext he12 (fun k hk hT e => by have := hT.2; omega)))
              have c0 : W2.cell? ⟨g, 0, none⟩ = some (.slice (some ⟨bd, 0, none⟩) (s.n * 64) (s.n * 64)) := D2.blk.c0
              have b0 := cell_of_blk hb2.out 0 (.int .i64 pa) rfl
              have hsrc2 : Src W2 (.slice (some ⟨wr.heap.size, 1, none⟩) 64 64) 64 (bcells (pb.take 64)) := Src.of_blk hb2.out _ (by simp [pcell, bcells, HPB.out, List.map_take, List.take_take])
              have hpl2 : (pb.take 64).length = 64 := by rw [List.length_take, HPB.out]; omega
              have hl2 : (bcells (pb.take 64)).length = min 64 64 := by rw [bcells_len, hpl2]; omega
              have hf2 : pa * 64 + (bcells (pb.take 64)).length ≤ (bcells (crTo keep torn last s.dur s.pend j)).toArray.size := by rw [bcells_len, hpl2]; simp [bcells_len, HCL.out]; omega
              have sl : (splice (crTo keep torn last s.dur s.pend j) (pa * 64) (pb.take 64)).length = s.n * 64 := by rw [spl_len _ _ _ (by rw [hpl2, HCL.out]; omega)]; exact HCL.out
              have hne : wr.heap.size ≠ bd := by have := D2.sd.2; omega
              have HL2 := Lib.hid hl2
              have SL := Lib.hid sl
              clear hl2 sl hb2 he2 hpl2
              go_region_held3 (fun w' => w'.cell? ⟨g, 0, none⟩ = some (.slice (some ⟨bd, 0, none⟩) (s.n * 64) (s.n * 64)) ∧ w'.cell? ⟨wr.heap.size, 0, none⟩ = some (.int .i64 pa)) (go_keep)
                (first
                | (go_at_call 26; refine (sector_calls bd (s.n * 64) pa (by omega) (by omega) _).mono ?_; rintro e w' ⟨rfl, rfl⟩)
                | (refine step_of rfl ?_; refine wp_copy _ _ 27 27 (by rfl) 5 Try.underlying27 info_b bd (pa * 64) 64 (s.n * 64 - pa * 64) _ (64) (by rfl) (by rfl) (bcells (pb.take 64)) hsrc2 HL2.out (bcells (crTo keep torn last s.dur s.pend j)).toArray 5 D2.dur hf2 (bcells_one _) ?_; intro W4 hb4 he4
                   have D4 := D2.drew.durStep he4 (splice (crTo keep torn last s.dur s.pend j) (pa * 64) (pb.take 64)) SL.out (by rw [← splice_bcells]; exact hb4.out)
                   have c0' : W4.cell? ⟨g, 0, none⟩ = some (.slice (some ⟨bd, 0, none⟩) (s.n * 64) (s.n * 64)) := D4.blk.c0
                   have b0' : W4.cell? ⟨wr.heap.size, 0, none⟩ = some (.int .i64 pa) := by rw [World.cell?_of_block (he4.block wr.heap.size (World.block_lt_of_cell? _ _ b0) hne)]; exact b0))
              go_wp2_with fail
              go_roundw
              case rel =>
                refine ⟨j + 1, by omega, by go_num, (hE.trans he12 (fun i hi e => by have := hE.size; omega)).trans ((Ext.drew (· = bd) W2).trans he4 (fun _ _ e => e)) (fun i hi e => e ▸ D2.sd.1), ?_⟩
                rw [HCS3.out]
                exact D4.mono (fun i _ hi => hi.1)
              case measure => simp [intOf]; omega
            · have HCS3 : Hid (crTo keep torn last s.dur s.pend (j + 1) = splice (crTo keep torn last s.dur s.pend j) (pa * 64) (pb.take 64)) := by have := HCS2.out; rw [e1] at this; exact this
              clear e1 HCS2
              go_wp2_with (first
                | (go_at_call 28; refine (hsv _).mono ?_; rintro e w' ⟨rfl, rfl⟩)
                | (refine wpList_value (by rfl) (run_load_row 60 _ (by rfl) q (j * 65) (by rfl) (pcell (pa, pb)) _ HROW.out Try.underlying60 rfl HI60.out) ?_)
                | (refine wpList_value (by rfl) (run_alloc_blk 60 (by rfl) _ zero_w) ?_)
                | (refine wpList_store_blk (by rfl) 60 _ _ (by rfl) wr.heap.size (pcell (pa, pb)).toArray (by rfl) (by rfl) 60 (pcell (0, zeros64)).toArray (heap_alloc_new wr _) (by simpa using HI60.out) (by simp [pcell_len, HPB.out, zeros64]) (all_oneCell_toArray (pcell_one _)) ?_; intro W2 hb2 he2
                   have he12 : Ext (· = wr.heap.size) wr W2 := (Ext.alloc _ _ _).trans he2 (fun _ _ h => h)
                   have D2 := hD.bound.ext he12 (fun k hk hT e => by have := hT.2; omega)))
              have c0 : W2.cell? ⟨g, 0, none⟩ = some (.slice (some ⟨bd, 0, none⟩) (s.n * 64) (s.n * 64)) := D2.blk.c0
              have b0 := cell_of_blk hb2.out 0 (.int .i64 pa) rfl
              have hsrc2 : Src W2 (.slice (some ⟨wr.heap.size, 1, none⟩) 64 64) 64 (bcells (pb.take 64)) := Src.of_blk hb2.out _ (by simp [pcell, bcells, HPB.out, List.map_take, List.take_take])
              have hpl2 : (pb.take 64).length = 64 := by rw [List.length_take, HPB.out]; omega
              have hl2 : (bcells (pb.take 64)).length = min 64 64 := by rw [bcells_len, hpl2]; omega
              have hf2 : pa * 64 + (bcells (pb.take 64)).length ≤ (bcells (crTo keep torn last s.dur s.pend j)).toArray.size := by rw [bcells_len, hpl2]; simp [bcells_len, HCL.out]; omega
              have sl : (splice (crTo keep torn last s.dur s.pend j) (pa * 64) (pb.take 64)).length = s.n * 64 := by rw [spl_len _ _ _ (by rw [hpl2, HCL.out]; omega)]; exact HCL.out
              have hne : wr.heap.size ≠ bd := by have := D2.sd.2; omega
              have HL2 := Lib.hid hl2
              have SL := Lib.hid sl
              clear hl2 sl hb2 he2 hpl2
              go_region_held3 (fun w' => w'.cell? ⟨g, 0, none⟩ = some (.slice (some ⟨bd, 0, none⟩) (s.n * 64) (s.n * 64)) ∧ w'.cell? ⟨wr.heap.size, 0, none⟩ = some (.int .i64 pa)) (go_keep)
                (first
                | (go_at_call 26; refine (sector_calls bd (s.n * 64) pa (by omega) (by omega) _).mono ?_; rintro e w' ⟨rfl, rfl⟩)
                | (refine step_of rfl ?_; refine wp_copy _ _ 27 27 (by rfl) 5 Try.underlying27 info_b bd (pa * 64) 64 (s.n * 64 - pa * 64) _ (64) (by rfl) (by rfl) (bcells (pb.take 64)) hsrc2 HL2.out (bcells (crTo keep torn last s.dur s.pend j)).toArray 5 D2.dur hf2 (bcells_one _) ?_; intro W4 hb4 he4
                   have D4 := D2.drew.durStep he4 (splice (crTo keep torn last s.dur s.pend j) (pa * 64) (pb.take 64)) SL.out (by rw [← splice_bcells]; exact hb4.out)
                   have c0' : W4.cell? ⟨g, 0, none⟩ = some (.slice (some ⟨bd, 0, none⟩) (s.n * 64) (s.n * 64)) := D4.blk.c0
                   have b0' : W4.cell? ⟨wr.heap.size, 0, none⟩ = some (.int .i64 pa) := by rw [World.cell?_of_block (he4.block wr.heap.size (World.block_lt_of_cell? _ _ b0) hne)]; exact b0))
              go_wp2_with fail
              go_roundw
              case rel =>
                refine ⟨j + 1, by omega, by go_num, (hE.trans he12 (fun i hi e => by have := hE.size; omega)).trans ((Ext.drew (· = bd) W2).trans he4 (fun _ _ e => e)) (fun i hi e => e ▸ D2.sd.1), ?_⟩
                rw [HCS3.out]
                exact D4.mono (fun i _ hi => hi.1)
              case measure => simp [intOf]; omega
            · have HCS3 : Hid (crTo keep torn last s.dur s.pend (j + 1) = splice (crTo keep torn last s.dur s.pend j) (pa * 64) (pb.take 64)) := by have := HCS2.out; rw [e1] at this; exact this
              clear e1 HCS2
              go_wp2_with (first
                | (go_at_call 28; refine (hsv _).mono ?_; rintro e w' ⟨rfl, rfl⟩)
                | (refine wpList_value (by rfl) (run_load_row 60 _ (by rfl) q (j * 65) (by rfl) (pcell (pa, pb)) _ HROW.out Try.underlying60 rfl HI60.out) ?_)
                | (refine wpList_value (by rfl) (run_alloc_blk 60 (by rfl) _ zero_w) ?_)
                | (refine wpList_store_blk (by rfl) 60 _ _ (by rfl) wr.heap.size (pcell (pa, pb)).toArray (by rfl) (by rfl) 60 (pcell (0, zeros64)).toArray (heap_alloc_new wr _) (by simpa using HI60.out) (by simp [pcell_len, HPB.out, zeros64]) (all_oneCell_toArray (pcell_one _)) ?_; intro W2 hb2 he2
                   have he12 : Ext (· = wr.heap.size) wr W2 := (Ext.alloc _ _ _).trans he2 (fun _ _ h => h)
                   have D2 := hD.bound.ext he12 (fun k hk hT e => by have := hT.2; omega)))
              have c0 : W2.cell? ⟨g, 0, none⟩ = some (.slice (some ⟨bd, 0, none⟩) (s.n * 64) (s.n * 64)) := D2.blk.c0
              have b0 := cell_of_blk hb2.out 0 (.int .i64 pa) rfl
              have hsrc2 : Src W2 (.slice (some ⟨wr.heap.size, 1, none⟩) 64 64) 64 (bcells (pb.take 64)) := Src.of_blk hb2.out _ (by simp [pcell, bcells, HPB.out, List.map_take, List.take_take])
              have hpl2 : (pb.take 64).length = 64 := by rw [List.length_take, HPB.out]; omega
              have hl2 : (bcells (pb.take 64)).length = min 64 64 := by rw [bcells_len, hpl2]; omega
              have hf2 : pa * 64 + (bcells (pb.take 64)).length ≤ (bcells (crTo keep torn last s.dur s.pend j)).toArray.size := by rw [bcells_len, hpl2]; simp [bcells_len, HCL.out]; omega
              have sl : (splice (crTo keep torn last s.dur s.pend j) (pa * 64) (pb.take 64)).length = s.n * 64 := by rw [spl_len _ _ _ (by rw [hpl2, HCL.out]; omega)]; exact HCL.out
              have hne : wr.heap.size ≠ bd := by have := D2.sd.2; omega
              have HL2 := Lib.hid hl2
              have SL := Lib.hid sl
              clear hl2 sl hb2 he2 hpl2
              go_region_held3 (fun w' => w'.cell? ⟨g, 0, none⟩ = some (.slice (some ⟨bd, 0, none⟩) (s.n * 64) (s.n * 64)) ∧ w'.cell? ⟨wr.heap.size, 0, none⟩ = some (.int .i64 pa)) (go_keep)
                (first
                | (go_at_call 26; refine (sector_calls bd (s.n * 64) pa (by omega) (by omega) _).mono ?_; rintro e w' ⟨rfl, rfl⟩)
                | (refine step_of rfl ?_; refine wp_copy _ _ 27 27 (by rfl) 5 Try.underlying27 info_b bd (pa * 64) 64 (s.n * 64 - pa * 64) _ (64) (by rfl) (by rfl) (bcells (pb.take 64)) hsrc2 HL2.out (bcells (crTo keep torn last s.dur s.pend j)).toArray 5 D2.dur hf2 (bcells_one _) ?_; intro W4 hb4 he4
                   have D4 := D2.drew.durStep he4 (splice (crTo keep torn last s.dur s.pend j) (pa * 64) (pb.take 64)) SL.out (by rw [← splice_bcells]; exact hb4.out)
                   have c0' : W4.cell? ⟨g, 0, none⟩ = some (.slice (some ⟨bd, 0, none⟩) (s.n * 64) (s.n * 64)) := D4.blk.c0
                   have b0' : W4.cell? ⟨wr.heap.size, 0, none⟩ = some (.int .i64 pa) := by rw [World.cell?_of_block (he4.block wr.heap.size (World.block_lt_of_cell? _ _ b0) hne)]; exact b0))
              go_wp2_with fail
              go_roundw
              case rel =>
                refine ⟨j + 1, by omega, by go_num, (hE.trans he12 (fun i hi e => by have := hE.size; omega)).trans ((Ext.drew (· = bd) W2).trans he4 (fun _ _ e => e)) (fun i hi e => e ▸ D2.sd.1), ?_⟩
                rw [HCS3.out]
                exact D4.mono (fun i _ hi => hi.1)
              case measure => simp [intOf]; omega
            · obtain ⟨t, rfl⟩ := Int.eq_ofNat_of_zero_le (of_decide_eq_true t2)
              have ht64 := of_decide_eq_true t3
              have ht65 : (t : Int) ≤ 64 := by omega
              have ht66 : t ≤ 64 := by omega
              have HCS3 : Hid (crTo keep t last s.dur s.pend (j + 1) = splice (crTo keep t last s.dur s.pend j) (pa * 64) (pb.take t)) := by have := HCS2.out; rw [e1, Int.toNat_natCast] at this; exact this
              clear e1 HCS2 t2
              go_wp2_with (first
                | (go_at_call 28; refine (hsv _).mono ?_; rintro e w' ⟨rfl, rfl⟩)
                | (refine wpList_value (by rfl) (run_load_row 60 _ (by rfl) q (j * 65) (by rfl) (pcell (pa, pb)) _ HROW.out Try.underlying60 rfl HI60.out) ?_)
                | (refine wpList_value (by rfl) (run_alloc_blk 60 (by rfl) _ zero_w) ?_)
                | (refine wpList_store_blk (by rfl) 60 _ _ (by rfl) wr.heap.size (pcell (pa, pb)).toArray (by rfl) (by rfl) 60 (pcell (0, zeros64)).toArray (heap_alloc_new wr _) (by simpa using HI60.out) (by simp [pcell_len, HPB.out, zeros64]) (all_oneCell_toArray (pcell_one _)) ?_; intro W2 hb2 he2
                   have he12 : Ext (· = wr.heap.size) wr W2 := (Ext.alloc _ _ _).trans he2 (fun _ _ h => h)
                   have D2 := hD.bound.ext he12 (fun k hk hT e => by have := hT.2; omega)))
              have c0 : W2.cell? ⟨g, 0, none⟩ = some (.slice (some ⟨bd, 0, none⟩) (s.n * 64) (s.n * 64)) := D2.blk.c0
              have b0 := cell_of_blk hb2.out 0 (.int .i64 pa) rfl
              have hsrc2 : Src W2 (.slice (some ⟨wr.heap.size, 1, none⟩) t 64) t (bcells (pb.take t)) := Src.of_blk hb2.out _ (by simp [pcell, bcells, HPB.out, List.map_take, List.take_take])
              have hpl2 : (pb.take t).length = t := by rw [List.length_take, HPB.out]; omega
              have hl2 : (bcells (pb.take t)).length = min t 64 := by rw [bcells_len, hpl2]; omega
              have hf2 : pa * 64 + (bcells (pb.take t)).length ≤ (bcells (crTo keep t last s.dur s.pend j)).toArray.size := by rw [bcells_len, hpl2]; simp [bcells_len, HCL.out]; omega
              have sl : (splice (crTo keep t last s.dur s.pend j) (pa * 64) (pb.take t)).length = s.n * 64 := by rw [spl_len _ _ _ (by rw [hpl2, HCL.out]; omega)]; exact HCL.out
              have hne : wr.heap.size ≠ bd := by have := D2.sd.2; omega
              have HL2 := Lib.hid hl2
              have SL := Lib.hid sl
              clear hl2 sl hb2 he2 hpl2
              go_region_held3 (fun w' => w'.cell? ⟨g, 0, none⟩ = some (.slice (some ⟨bd, 0, none⟩) (s.n * 64) (s.n * 64)) ∧ w'.cell? ⟨wr.heap.size, 0, none⟩ = some (.int .i64 pa)) (go_keep)
                (first
                | (go_at_call 26; refine (sector_calls bd (s.n * 64) pa (by omega) (by omega) _).mono ?_; rintro e w' ⟨rfl, rfl⟩)
                | (refine step_of rfl ?_; refine wp_copy _ _ 27 27 (by rfl) 5 Try.underlying27 info_b bd (pa * 64) 64 (s.n * 64 - pa * 64) _ (t) (by rfl) (by rfl) (bcells (pb.take t)) hsrc2 HL2.out (bcells (crTo keep t last s.dur s.pend j)).toArray 5 D2.dur hf2 (bcells_one _) ?_; intro W4 hb4 he4
                   have D4 := D2.drew.durStep he4 (splice (crTo keep t last s.dur s.pend j) (pa * 64) (pb.take t)) SL.out (by rw [← splice_bcells]; exact hb4.out)
                   have c0' : W4.cell? ⟨g, 0, none⟩ = some (.slice (some ⟨bd, 0, none⟩) (s.n * 64) (s.n * 64)) := D4.blk.c0
                   have b0' : W4.cell? ⟨wr.heap.size, 0, none⟩ = some (.int .i64 pa) := by rw [World.cell?_of_block (he4.block wr.heap.size (World.block_lt_of_cell? _ _ b0) hne)]; exact b0))
              go_wp2_with fail
              go_roundw
              case rel =>
                refine ⟨j + 1, by omega, by go_num, (hE.trans he12 (fun i hi e => by have := hE.size; omega)).trans ((Ext.drew (· = bd) W2).trans he4 (fun _ _ e => e)) (fun i hi e => e ▸ D2.sd.1), ?_⟩
                rw [HCS3.out]
                exact D4.mono (fun i _ hi => hi.1)
              case measure => simp [intOf]; omega
        · obtain rfl : j = k := by omega
          have c2 := hD.blk.c2
          have f2 := hD.blk.fz 2
          have HD := Lib.hid hD
          clear hlt hj
          go_wp2_with fail
          have D5 := drop_pend HD.out
          have E5 : Ext S W (wr.setCell ⟨g, 2, none⟩ (.slice none 0 0)) := hE.trans (Ext.setCell (S := S) _ _ _ HD.out.sg) (fun _ _ h => h)
          generalize wr.setCell ⟨g, 2, none⟩ (.slice none 0 0) = W5 at *
          have c0 : W5.cell? ⟨g, 0, none⟩ = some (.slice (some ⟨bd, 0, none⟩) (s.n * 64) (s.n * 64)) := D5.blk.c0
          have c1 : W5.cell? ⟨g, 1, none⟩ = some (.slice (some ⟨bc, 0, none⟩) (s.n * 64) (s.n * 64)) := D5.blk.c1
          have hdl := crTo_len keep torn last s.dur s.pend s.n h.ok.dur h.ok.pend j (by have := HN.out; omega)
          have hcl : s.cur.length = s.n * 64 := h.ok.cur
          have hsrc : Src W5 (.slice (some ⟨bd, 0, none⟩) (s.n * 64) (s.n * 64)) (s.n * 64) (bcells (crTo keep torn last s.dur s.pend j)) := Src.of_blk D5.dur _ (by simp)
          have hl2 : (bcells (crTo keep torn last s.dur s.pend j)).length = min (s.n * 64) (s.n * 64) := by rw [bcells_len, hdl]; simp
          have hf2 : 0 + (bcells (crTo keep torn last s.dur s.pend j)).length ≤ (bcells s.cur).toArray.size := by simp [bcells_len, hdl, hcl]
          have hsp : splice (bcells s.cur).toArray.toList 0 (bcells (crTo keep torn last s.dur s.pend j)) = bcells (crTo keep torn last s.dur s.pend j) := by
            simp [splice, bcells_len, hdl, hcl]
          have HDL := Lib.hid hdl
          have HL2 := Lib.hid hl2
          have HSP := Lib.hid hsp
          clear hdl hcl hl2 hsp c2 f2
          go_region_held3 (fun w' => w'.cell? ⟨g, 0, none⟩ = some (.slice (some ⟨bd, 0, none⟩) (s.n * 64) (s.n * 64)) ∧ w'.cell? ⟨g, 1, none⟩ = some (.slice (some ⟨bc, 0, none⟩) (s.n * 64) (s.n * 64))) (go_keep)
            (first
            | (refine step_of rfl ?_; refine wp_copy _ _ 27 27 (by rfl) 5 Try.underlying27 info_b bc 0 (s.n * 64) (s.n * 64) _ (s.n * 64) (by rfl) (by rfl) _ hsrc HL2.out (bcells s.cur).toArray 5 D5.cur hf2 (bcells_one _) ?_; intro W4 hb4 he4
               have D6 := D5.drew.curStep he4 (crTo keep torn last s.dur s.pend j) HDL.out (by have := hb4.out; rw [HSP.out] at this; exact this)
               have c0' : W4.cell? ⟨g, 0, none⟩ = some (.slice (some ⟨bd, 0, none⟩) (s.n * 64) (s.n * 64)) := D6.blk.c0
               have c1' : W4.cell? ⟨g, 1, none⟩ = some (.slice (some ⟨bc, 0, none⟩) (s.n * 64) (s.n * 64)) := D6.blk.c1))
          go_wp2_with fail
          try go_end0
          refine HPost.out _ _ ⟨rfl, ?_⟩
          have e : s.cr keep torn = { s with on := false, ar := false, dur := crTo keep torn last s.dur s.pend j, pend := [], cur := crTo keep torn last s.dur s.pend j } := by
            unfold DSt.cr; rw [← HN.out, HLA.out]
          rw [e]
          exact DiskPost.of D6 (fun k hk => .inl hk) (E5.trans ((Ext.drew (· = bc) W5).trans he4 (fun _ _ e => e)) (fun i _ e => e ▸ D5.sc))
end Go.Proofs.Ytfnkbmjpiiabkaa
