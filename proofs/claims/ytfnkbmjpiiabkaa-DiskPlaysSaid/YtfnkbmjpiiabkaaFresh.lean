/- DiskFresh, the walk. -/
import Derived.Test.YtfnkbmjpiiabkaaSizes
set_option linter.unusedVariables false
set_option linter.unusedSimpArgs false
namespace Go.Proofs.Ytfnkbmjpiiabkaa
open Go.RowKit
theorem rd_wrote (s : DSt) (at_ : Nat) (b : List Int) (hok : s.Ok) (hon : s.on = true) (h1 : at_ < s.n) (hb : b.length ≤ 64) (hpf : pfB s.ar s.lf = false) (z : Int) (hz : z = at_) (x : DSt) (hx : x.cur = (s.wrote at_ b).cur) (hxn : x.n = s.n) (hxo : x.on = true) : x.rd z = padB b ∧ x.rdErr z = 0 := by
  subst hz
  have hd : dchk x.on at_ x.n = 0 := by unfold dchk; rw [hxo, if_pos rfl, if_neg (by omega)]
  have hp := padB_len b hb
  unfold DSt.rd DSt.rdErr
  rw [if_pos hd, hd, hx]
  refine ⟨?_, rfl⟩
  show ((splice s.cur (at_ * 64) (padB b)).drop (at_ * 64)).take 64 = padB b
  have := splice_get s.cur (at_ * 64) (padB b) (by rw [hp, hok.cur]; omega)
  rwa [hp] at this
theorem new_ok (n : Nat) (h1 : 1 ≤ n) (h2 : n ≤ 8192) : (DSt.new n).Ok := ⟨h1, h2, by simp [DSt.new], by simp [DSt.new], by simp [DSt.new], by simp [DSt.new], by simp [DSt.new]⟩
attribute [local go_sem ↓] Go.wp_at_zero Go.wp_at_succ
set_option maxHeartbeats 1000000 in
theorem fresh_ok (W : World) (A : Option Addr) (n c : Nat) (l : List Int) (y : Int) (hsrc : Src W (.slice A n c) n (bcells l)) (hl : l.length = n) (hn : 1 ≤ n) (hn2 : n ≤ 64) :
    Calls Try.prog 6 #[.slice A n c, .int .u8 y] W fun e W' => e = .returned (.bool true) ∧ Below W.heap.size W W' := by
  have hn3 : (1 : Int) ≤ (n : Int) := by omega
  have hn4 : (n : Int) ≤ 64 := by omega
  have HL := Lib.hid hl
  clear hl
  refine calls_hide fun P HPost => ?_
  go_enter Try.func6, Try.ntmps6
  go_wp2_with (first
    | (go_at_call 9; (with_reducible refine (dk_new _ 2 2 rfl (by decide) (by decide)).mono ?_); rintro e W1 ⟨g, S, rfl, D1, hS1, hB1⟩)
    | (refine wpList_of_wp rfl ?_; refine wp_append W1.heap.size _ _ 27 (by rfl) 5 _ 1 1 Try.underlying27 info_b3 rfl (by decide) _ 0 [] (by rfl) (own_empty W1 W1.heap.size 5 1 (Nat.le_refl _)) n (bcells l) _ (by rfl) (hsrc.ext (S := fun _ => False) ((Ext.of_below hB1).mono (fun k hk h => Nat.lt_irrefl _ (Nat.lt_of_lt_of_le hk h)) |>.trans (Ext.alloc _ _ _) (fun _ _ h => h)) (fun _ _ _ _ h => h)) (by rw [bcells_len, HL.out]; omega) (bcells_one _) (by unfold maxLen; omega) (by omega) (by simp) ?_; intro v2 W2 how2 hgr2 hat2))
  rw [Nat.zero_add, List.nil_append] at how2
  obtain ⟨q, cap, rfl, hq1, hq2, hq3, hq4⟩ := own_form' how2 (by omega)
  have heA : Ext (· = W1.heap.size) (W1.alloc (.cells #[] 5)) W2 := Ext.grown hgr2 (fun k hk => by simpa [Value.ownBlock] using hk.symm)
  have D2 := (D1.below (below_new W1 (.cells #[] 5))).ext heA (fun k hk e => by have := D1.lt _ hk; omega)
  have hqS : ¬ S q := fun h => by have := D1.lt _ h; omega
  have hw0 : (DSt.new 2).wr 1 l = (DSt.new 2).wrote 1 l ∧ (DSt.new 2).wrErr 1 n = 0 := by
    have := wr_ok (DSt.new 2) 1 l rfl (by decide) (by decide) (by rw [HL.out]; exact hn2) rfl
    rw [HL.out] at this; exact this
  have hwr := dk_write D2 1 (.slice (some ⟨q, 0, none⟩) n cap) n l (own_src how2) HL.out (fun _ => own_ne hqS) (by omega) (by rw [kp0]; decide)
  rw [hw0.1, hw0.2] at hwr
  (with_reducible refine hwr.mono ?_)
  rintro e W3 ⟨rfl, S3, D3, hS3, hE3⟩
  have how3 := own_ext how2 hE3 (own_ne hqS)
  obtain ⟨cur3, hb3, hc31, hc32, _⟩ := own_blk how3
  have hqS3 : ¬ S3 q := fun h => (hS3 q h).elim hqS (fun h => by omega)
  obtain ⟨x3, hx3⟩ : ∃ x, l[0]? = some x := ⟨_, List.getElem?_eq_getElem (by rw [HL.out]; omega)⟩
  have hcell3 : W3.cell? ⟨q, 0, none⟩ = some (.int .u8 x3) := by
    obtain ⟨A3, c3, hv3, hr3⟩ := own_src how3
    injection hv3 with hv3; subst hv3
    obtain ⟨ad, had, hc⟩ := hr3 (by rw [bcells_len, HL.out]; omega)
    injection had with had; subst had
    have := hc 0 (.int .u8 x3) (by simp [bcells, hx3])
    rwa [add_lit'] at this
  have hfz3 : W3.frozen? ⟨q, 0, none⟩ = false := frozen_of_blk hb3 0
  have z1 := hB1.size
  have z2 := heA.size
  have z2' := (below_new W1 (.cells #[] 5)).size
  have z3 := hE3.size
  have B3 : Below W.heap.size W W3 := below_ext (below_ext (hB1.trans ((below_new W1 (.cells #[] 5)).mono z1)) (by omega) heA (fun k hk => by omega)) (by omega) hE3 hS1
  have FB3 := Lib.hid B3
  have HX3 := Lib.hid hx3
  clear hx3 hwr hw0 hgr2 hat2 how2 how3 hb3 hB1 B3
  have hq30 : (0 : Int) < (n : Int) := by omega
  go_wp2_with fail
  have E4 : Ext (· = q) W3 (W3.setCell ⟨q, 0, none⟩ (.int .u8 (bits .xor .u8 x3 (bits .or .u8 y 1)))) := Ext.setCell _ _ _ rfl
  generalize W3.setCell ⟨q, 0, none⟩ (.int .u8 (bits .xor .u8 x3 (bits .or .u8 y 1))) = W4 at *
  have D4 := D3.ext E4 (fun k hk e => hqS3 (e ▸ hk))
  have hrw := rd_wrote (DSt.new 2) 1 l (new_ok 2 (by decide) (by decide)) rfl (by decide) (by rw [HL.out]; exact hn2) rfl 1 rfl
  have HRW := Lib.hid hrw
  have hr4 := dk_read D4 1
  rw [(hrw ((DSt.new 2).wrote 1 l) rfl rfl rfl).1, (hrw ((DSt.new 2).wrote 1 l) rfl rfl rfl).2] at hr4
  (with_reducible refine hr4.mono ?_)
  rintro e W5 ⟨v5, rfl, how5, hB5⟩
  have hpl := padB_len l (by rw [HL.out]; exact hn2)
  rw [hpl] at how5
  obtain ⟨q5, cap5, rfl, hq51, hq52, hq53, hq54⟩ := own_form' how5 (by decide)
  obtain ⟨cur5, hb5, _, hc52, _⟩ := own_blk how5
  have D5 := D4.below hB5
  have z4 := E4.size
  have z5 := hB5.size
  have hq5S : ¬ S3 q5 := fun h => by have := D4.lt _ h; omega
  have L0 : ∃ cur : Array Value, W5.heap[q5]? = some (.cells cur 5 (0, 0)) ∧ 64 ≤ cur.size := ⟨cur5, hb5, by rw [hc52]; omega⟩
  have B5 : Below W.heap.size W W5 := (below_ext FB3.out (by omega) E4 (fun k hk => by omega)).trans (hB5.mono (by omega))
  have FB5 := Lib.hid B5
  have HPL := Lib.hid hpl
  clear hrw hr4 how5 hb5 hB5 B5 hpl hcell3 hfz3
  go_wp2_with fail
  go_loopw [10] (fun i wr => ∃ k : Nat, k ≤ 64 ∧ i = .int .i64 k ∧ (∃ cur : Array Value, wr.heap[q5]? = some (.cells cur 5 (0, 0)) ∧ 64 ≤ cur.size) ∧ Ext (· = q5) W5 wr) (fun i _ => 64 - (intOf i).toNat)
  case atStart => exact ⟨0, Nat.zero_le _, rfl, L0, Ext.refl _ _⟩
  case round =>
    obtain ⟨k, hk, rfl, ⟨cur, hbk, hck⟩, hEk⟩ := hrel
    clear L0
    by_cases hlt : k < 64
    · obtain ⟨vk, hvk⟩ : ∃ v, cur[k]? = some v := ⟨_, Array.getElem?_eq_getElem (by omega)⟩
      have hcellk := cell_of_blk hbk k vk hvk
      have hfzk := frozen_of_blk hbk k
      have hset := blk_setCell hbk k (.int .u8 99)
      have HSET := Lib.hid hset
      clear hset hbk hvk
      go_wp2_with fail
      go_roundw
      case rel => exact ⟨k + 1, by omega, by go_num, ⟨_, HSET.out, by simpa using hck⟩, hEk.trans (Ext.setCell (S := (· = q5)) _ _ _ rfl) (fun _ _ e => e)⟩
      case measure => simp [intOf]; omega
    · clear hbk
      have D6 := D5.ext hEk (fun j hj e => hq5S (e ▸ hj))
      have hfl := dk_flush D6 (by show (1 : Nat) < 1000000; decide)
      have hfe : ((DSt.new 2).wrote 1 l).flErr = 0 := rfl
      rw [hfe] at hfl
      go_wp2_with (go_at_call 16; (with_reducible refine hfl.mono ?_); rintro e W7 ⟨rfl, S7, D7, hS7, hE7⟩)
      have hr7 := dk_read D7 1
      rw [(HRW.out (((DSt.new 2).wrote 1 l).fl) rfl rfl rfl).1, (HRW.out (((DSt.new 2).wrote 1 l).fl) rfl rfl rfl).2] at hr7
      (with_reducible refine hr7.mono ?_)
      rintro e W8 ⟨v8, rfl, how8, hB8⟩
      rw [HPL.out] at how8
      obtain ⟨q8, cap8, rfl, hq81, hq82, hq83, hq84⟩ := own_form' how8 (by decide)
      have z6 := hEk.size
      have z7 := hE7.size
      have z8 := hB8.size
      have B8 : Below W.heap.size W W8 := (below_ext (below_ext FB5.out (by omega) hEk (fun k hk => by omega)) (by omega) hE7 (own_from hS3 hS1 (by omega))).trans (hB8.mono (by omega))
      have hs8 : Src W8 (.slice (some ⟨q8, 0, none⟩) n cap8) n (bcells l) := by
        have := (own_src how8).take n cap8
        rwa [show (bcells (padB l)).take n = bcells l from by simp [bcells, padB, ← HL.out]] at this
      have hs9 : Src W8 (.slice A n c) n (bcells l) := hsrc.ext (S := fun k => W.heap.size ≤ k) (Ext.of_below B8) (fun _ k _ h1 h2 => by omega)
      have hcv : ∀ (w : World) (x : Value), Src w x n (bcells l) → (convert 27 9 x).run Try.prog w = .ok (.string (strOfNums l)) w := fun w x h => conv_src h HL.out 27 9 5 Try.underlying27 Try.underlying5 Try.underlying9
      have hn8 : (n : Int) ≤ (cap8 : Int) := by omega
      have hn80 : (0 : Int) ≤ (n : Int) := by omega
      have FB8 := Lib.hid B8
      clear hr7 how8 hB8 hfl B8
      go_wp2_with fail
      refine reg_start (fun w' => Src w' (.slice (some ⟨q8, 0, none⟩) n cap8) n (bcells l) ∧ Src w' (.slice A n c) n (bcells l)) (by kernel_rfl) ?_
      have hS : Src W8.drew (.slice (some ⟨q8, 0, none⟩) n cap8) n (bcells l) ∧ Src W8.drew (.slice A n c) n (bcells l) := ⟨hs8, hs9⟩
      refine reg_take 0 (v := ?_) rfl (by kernel_rfl) (by rfl) ?_ hS ?_; rotate_left; focus (intro w hw; go_simp; try with_reducible rfl)
      simp only [Act.put, List.setIfInBounds_toArray, List.set_cons_zero, List.set_cons_succ]
      refine reg_take 1 (v := ?_) rfl (by kernel_rfl) (by rfl) ?_ hS ?_; rotate_left; focus (intro w hw; go_simp; try with_reducible rfl)
      simp only [Act.put, List.setIfInBounds_toArray, List.set_cons_zero, List.set_cons_succ]
      refine reg_take 2 (v := ?_) rfl (by kernel_rfl) (by rfl) ?_ hS ?_; rotate_left; focus (intro w hw; go_simp; try with_reducible rfl)
      simp only [Act.put, List.setIfInBounds_toArray, List.set_cons_zero, List.set_cons_succ]
      refine reg_take 3 (v := ?_) rfl (by kernel_rfl) (by rfl) ?_ hS ?_; rotate_left; focus (intro w hw; go_simp; try with_reducible rfl)
      simp only [Act.put, List.setIfInBounds_toArray, List.set_cons_zero, List.set_cons_succ]
      refine reg_take 4 (v := ?_) rfl (by kernel_rfl) (by rfl) ?_ hS ?_; rotate_left; focus (intro w hw; go_simp; try with_reducible rfl)
      simp only [Act.put, List.setIfInBounds_toArray, List.set_cons_zero, List.set_cons_succ]
      refine reg_take 5 (v := ?_) rfl (by kernel_rfl) (by rfl) ?_ hS ?_; rotate_left; focus (intro w hw; go_simp; try with_reducible rfl)
      simp only [Act.put, List.setIfInBounds_toArray, List.set_cons_zero, List.set_cons_succ]
      refine reg_take 6 (v := ?_) rfl (by kernel_rfl) (by rfl) ?_ hS ?_; rotate_left; focus (intro w hw; go_simp; try with_reducible rfl)
      simp only [Act.put, List.setIfInBounds_toArray, List.set_cons_zero, List.set_cons_succ]
      refine reg_take 7 (v := ?_) rfl (by kernel_rfl) (by rfl) ?_ hS ?_; rotate_left; focus (intro w hw; go_simp; try with_reducible rfl)
      simp only [Act.put, List.setIfInBounds_toArray, List.set_cons_zero, List.set_cons_succ]
      refine reg_take 8 (v := ?_) rfl (by kernel_rfl) (by rfl) ?_ hS ?_; rotate_left; focus (intro w hw; go_simp; try with_reducible rfl)
      simp only [Act.put, List.setIfInBounds_toArray, List.set_cons_zero, List.set_cons_succ]
      refine reg_take 9 (v := ?_) rfl (by kernel_rfl) (by rfl) ?_ hS ?_; rotate_left; focus (intro w hw; go_simp; try with_reducible rfl)
      simp only [Act.put, List.setIfInBounds_toArray, List.set_cons_zero, List.set_cons_succ]
      refine reg_take 10 (v := ?_) rfl (by kernel_rfl) (by rfl) ?_ hS ?_; rotate_left; focus (intro w hw; go_simp; try with_reducible rfl)
      simp only [Act.put, List.setIfInBounds_toArray, List.set_cons_zero, List.set_cons_succ]
      refine reg_take 11 (v := ?_) rfl (by kernel_rfl) (by rfl) ?_ hS ?_; rotate_left; focus (intro w hw; go_simp; try with_reducible rfl)
      simp only [Act.put, List.setIfInBounds_toArray, List.set_cons_zero, List.set_cons_succ]
      refine reg_take 12 (v := ?_) rfl (by kernel_rfl) (by rfl) ?_ hS ?_; rotate_left; focus (intro w hw; go_simp; try with_reducible rfl)
      simp only [Act.put, List.setIfInBounds_toArray, List.set_cons_zero, List.set_cons_succ]
      refine reg_take 13 (v := ?_) rfl (by kernel_rfl) (by rfl) ?_ hS ?_; rotate_left; focus (intro w hw; go_simp; try with_reducible rfl)
      simp only [Act.put, List.setIfInBounds_toArray, List.set_cons_zero, List.set_cons_succ]
      refine reg_take 14 (v := ?_) rfl (by kernel_rfl) (by rfl) ?_ hS ?_; rotate_left; focus (intro w hw; go_simp; try with_reducible rfl)
      simp only [Act.put, List.setIfInBounds_toArray, List.set_cons_zero, List.set_cons_succ]
      refine reg_take 15 (v := ?_) rfl (by kernel_rfl) (by rfl) ?_ hS ?_; rotate_left; focus (intro w hw; go_simp; try with_reducible rfl)
      simp only [Act.put, List.setIfInBounds_toArray, List.set_cons_zero, List.set_cons_succ]
      refine reg_take 16 (v := ?_) rfl (by kernel_rfl) (by rfl) ?_ hS ?_; rotate_left; focus (intro w hw; go_simp; try with_reducible rfl)
      simp only [Act.put, List.setIfInBounds_toArray, List.set_cons_zero, List.set_cons_succ]
      refine reg_take 17 (v := ?_) rfl (by kernel_rfl) (by rfl) ?_ hS ?_; rotate_left; focus (intro w hw; go_simp; try with_reducible rfl)
      simp only [Act.put, List.setIfInBounds_toArray, List.set_cons_zero, List.set_cons_succ]
      refine reg_call 18 (by kernel_rfl) rfl (by rfl) ?_ ((known_calls _).mono ?_); focus go_simp
      rintro e W9 ⟨rfl, hB9⟩
      refine ⟨_, rfl, ⟨hS.1.fresh hB9, hS.2.fresh hB9⟩, ?_⟩
      replace hS := (⟨hS.1.fresh hB9, hS.2.fresh hB9⟩ : _ ∧ _)
      simp only [Act.put, List.setIfInBounds_toArray, List.set_cons_zero, List.set_cons_succ]
      refine reg_take 19 (v := ?_) rfl (by kernel_rfl) (by rfl) ?_ hS ?_; rotate_left; focus (intro w hw; go_simp; try with_reducible rfl)
      simp only [Act.put, List.setIfInBounds_toArray, List.set_cons_zero, List.set_cons_succ]
      refine reg_take 20 (v := ?_) rfl (by kernel_rfl) (by rfl) ?_ hS ?_; rotate_left; focus (intro w hw; go_simp; try with_reducible rfl)
      simp only [Act.put, List.setIfInBounds_toArray, List.set_cons_zero, List.set_cons_succ]
      refine reg_done (by kernel_rfl) ?_
      go_wp2_with fail
      exact HPost.out _ _ ⟨rfl, FB8.out.drew.trans (hB9.mono (by show W.heap.size ≤ W8.heap.size; omega))⟩
set_option maxHeartbeats 400000 in
theorem fresh_walk (W : World) (A : Option Addr) (n c : Nat) (l : List Int) (y : Int) (hsrc : Src W (.slice A n c) n (bcells l)) (hl : l.length = n) (hm : n ≤ maxLen) :
    Calls Try.prog 6 #[.slice A n c, .int .u8 y] W fun e W' => e = .returned (.bool true) ∧ Below W.heap.size W W' := by
  by_cases h : 1 ≤ n ∧ n ≤ 64
  · exact fresh_ok W A n c l y hsrc hl h.1 h.2
  · unfold maxLen at hm
    by_cases h1 : 64 < n
    · have h2 : decide ((64 : Int) < (n : Int)) = true := by simp; omega
      clear h hl
      refine calls_hide fun P HPost => ?_
      go_enter Try.func6, Try.ntmps6
      go_wp2_with fail
      exact HPost.out _ _ ⟨rfl, Below.refl _ _⟩
    · obtain rfl : n = 0 := by omega
      clear h hl
      refine calls_hide fun P HPost => ?_
      go_enter Try.func6, Try.ntmps6
      go_wp2_with fail
      exact HPost.out _ _ ⟨rfl, Below.refl _ _⟩
end Go.Proofs.Ytfnkbmjpiiabkaa
