/- The reference disk: Write. -/
import Derived.Test.YtfnkbmjpiiabkaaRef6
set_option linter.unusedVariables false
set_option linter.unusedSimpArgs false
namespace Go.Proofs.Ytfnkbmjpiiabkaa
open Go.RowKit
attribute [local go_sem ↓] Go.wp_at_zero Go.wp_at_succ
def padK (b : List Int) (k : Nat) : List Int := b.take k ++ List.replicate (64 - k) 0
theorem padK_len (b : List Int) (k : Nat) (hk : k ≤ b.length) (hb : b.length ≤ 64) : (padK b k).length = 64 := by
  unfold padK; rw [List.length_append, List.length_take, List.length_replicate]; omega
theorem padK_end (b : List Int) : padK b b.length = padB b := by unfold padK padB; rw [List.take_length]
theorem padK_step (at_ : Nat) (b : List Int) (k : Nat) (hk : k < b.length) (hb : b.length ≤ 64) : (pcell (at_, padK b k)).toArray.setIfInBounds (1 + k) (.int .u8 b[k]) = (pcell (at_, padK b (k + 1))).toArray := by
  rw [List.setIfInBounds_toArray]
  congr 1
  show (Value.int .i64 at_ :: bcells (padK b k)).set (1 + k) _ = Value.int .i64 at_ :: bcells (padK b (k + 1))
  rw [Nat.add_comm, List.set_cons_succ]
  congr 1
  unfold bcells padK
  rw [← List.map_set]
  congr 1
  have hl : (b.take k).length = k := by rw [List.length_take]; omega
  rw [List.set_append_right _ _ (by omega), hl, Nat.sub_self, show 64 - k = (64 - (k + 1)) + 1 by omega, List.replicate_succ, List.set_cons_zero, List.take_succ_eq_append_getElem hk, List.append_assoc, List.singleton_append]
/-- What the last region reads besides the reference's own cell. -/
structure RegW (m bp : Nat) (p : Nat × List Int) (w : World) : Prop where
  r2 : w.rangeAt bp 0 (pcell p)
  lt : bp < w.heap.size
theorem RegW.fresh {m bp : Nat} {p : Nat × List Int} {w w' : World} (h : RegW m bp p w) (hb : Below w.heap.size w w') : RegW m bp p w' :=
  ⟨fun j v hv => (hb.cell h.lt).trans (h.r2 j v hv), Nat.lt_of_lt_of_le h.lt hb.size⟩
theorem pcells_one (l : List (Nat × List Int)) : ∀ v ∈ pcells l, v.oneCell' = true := by
  intro v hv
  obtain ⟨p, _, hp⟩ := List.mem_flatMap.1 hv
  exact pcell_one p v hp
theorem RegW.ofB {m bp : Nat} {p : Nat × List Int} {w w' : World} (h : RegW m bp p w) (hb : Below w.heap.size w w') : RegW m bp p w' := h.fresh hb
section
variable {P : Program} {ops : Array Oper} {a : Act} {w : World} {Q : Exit → Act → World → Prop} {S : World → Prop} {fuel : Nat} {listed : Array Bool}
theorem reg_three (i j k : Nat) {oi oj ok : Oper} (hr : Region.ready .any ops listed = [i, j, k]) (hi : nthOp ops.toList i = some oi) (hj : nthOp ops.toList j = some oj) (hk : nthOp ops.toList k = some ok)
    (hwi : Region.wanted oi (yielded ops a.tmps) = true) (hwj : Region.wanted oj (yielded ops a.tmps) = true) (hwk : Region.wanted ok (yielded ops a.tmps) = true)
    (h1 : Oper.wp P oi a w (fun a' w' => S w' ∧ wpAnyH P .any ops (NoPanic Q) S fuel (listed.setIfInBounds i true) a' w') (NoPanic Q))
    (h2 : Oper.wp P oj a w (fun a' w' => S w' ∧ wpAnyH P .any ops (NoPanic Q) S fuel (listed.setIfInBounds j true) a' w') (NoPanic Q))
    (h3 : Oper.wp P ok a w (fun a' w' => S w' ∧ wpAnyH P .any ops (NoPanic Q) S fuel (listed.setIfInBounds k true) a' w') (NoPanic Q)) : wpAnyH P .any ops (NoPanic Q) S (fuel + 1) listed a w := by
  refine wpAnyH_all hr (by simp) (fun l hl => ?_)
  have hl' : l = i ∨ l = j ∨ l = k := by simpa using hl
  rcases hl' with rfl | rfl | rfl
  · unfold Go.wpOp
    rw [nthOp_arr hi]
    simp only [hwi, if_true]
    exact .inl h1
  · unfold Go.wpOp
    rw [nthOp_arr hj]
    simp only [hwj, if_true]
    exact .inl h2
  · unfold Go.wpOp
    rw [nthOp_arr hk]
    simp only [hwk, if_true]
    exact .inl h3
end
theorem rwrite_done {W w0 W6 : World} {S : Nat → Prop} {m : Nat} {vd vp x : Value} {s : DSt} {at_ : Nat} {b : List Int} (h0 : s.Ok) (R0 : RefAt w0 S m vd vp s.pw) (hS0 : ∀ k, S k → k < w0.heap.size) (he : Ext S W w0) (hat : at_ < s.n) (hb : b.length ≤ 64)
    (B6 : Below w0.heap.size w0 W6) (how : W6.ownsRow w0.heap.size 69 65 x (s.pend.length + 1) (([] ++ pcells s.pend) ++ pcell (at_, padB b))) : RfPost W S m (s.wrote at_ b) (W6.setCell ⟨m, 1, none⟩ x) := by
  have R6 := R0.below B6 hS0
  have hp := padB_len b hb
  have e3 : Ext (· = m) W6 (W6.setCell ⟨m, 1, none⟩ x) := Ext.setCell (S := (· = m)) _ _ _ rfl
  have hm := blk_lt R0.blk
  have z := he.size
  refine RfPost.of (S' := fun k => S k ∨ W.heap.size ≤ k) (vd := vd) (vp := x) ⟨⟨h0.n0, h0.n1, h0.dur, ?_, ?_, R0.ok.l0, R0.ok.l1⟩, R6.blk.s1 x, own_ext R6.dur e3 (fun k hk e => R6.nd (e ▸ hk)), ?_, .inl R0.sm, fun k hk => .inl (R0.sd k hk), fun k hk => .inr ?_⟩ (fun k hk => hk) ?_
  · show (splice s.cur (at_ * 64) (padB b)).length = s.n * 64
    rw [spl_len _ _ _ (by rw [hp, h0.cur]; omega), h0.cur]
  · intro p hp'
    simp only [DSt.wrote, List.mem_append, List.mem_singleton] at hp'
    rcases hp' with hp' | rfl
    · exact h0.pend p hp'
    · exact ⟨hat, hp⟩
  · have e : pcells (s.wrote at_ b).pend = ([] ++ pcells s.pend) ++ pcell (at_, padB b) := by simp [DSt.wrote, pcells]
    rw [e, show (s.wrote at_ b).pend.length = s.pend.length + 1 from by simp [DSt.wrote]]
    exact own_ext (own_zero how) e3 (fun k hk e => by have := (how.lt k hk).1; omega)
  · have := (how.lt k hk).1; omega
  · exact (he.trans (Ext.of_fresh (S := S) B6) (fun _ _ h => h)).trans e3 (fun k _ e => e ▸ R0.sm)
set_option maxRecDepth 4000 in
set_option maxHeartbeats 4000000 in
theorem rf_write_yes (W : World) (S : Nat → Prop) (m : Nat) (s : DSt) (h : Rf W S m s) (at_ : Nat) (A0 : Option Addr) (n cc : Nat) (b : List Int) (hb : Src W (.slice A0 n cc) n (bcells b)) (hbn : b.length = n)
    (hbS : 0 < b.length → ∀ k, (Value.slice A0 n cc).ownBlock = some k → ¬ S k) (hn : n ≤ 64) (hon : s.on = true) (hat : at_ < s.n) (hpf : pfB s.ar s.lf = false) (hpl : s.pend.length < 1000000) :
    Calls Try.prog 33 #[.pointer (some ⟨m, 0, none⟩), .int .i64 at_, .slice A0 n cc] W fun e W' => e = .returned (.int .i64 0) ∧ RfPost W S m (s.wrote at_ b) W' := by
  obtain ⟨⟨vd, vp, h⟩, hSl⟩ := h
  have c2 := h.blk.c2
  rw [hon] at c2
  have c0 := h.blk.c0
  obtain ⟨A, c, hvd⟩ := own_any h.dur
  rw [hvd] at c0
  have hn1 := h.ok.n1
  have hp := fails_calls s.on h.blk h.ok.l0 h.ok.l1
  rw [hpf] at hp
  have lr := pfLf_range (ar := s.ar) h.ok.l0 h.ok.l1
  have HN := Lib.hid hbn
  have HBS := Lib.hid hbS
  clear hon hpf hbn hbS hvd
  refine calls_hide fun P HPost => ?_
  go_enter Try.func33, Try.ntmps33
  go_wp2_with (first
    | (go_at_call 35; (with_reducible refine hp.mono ?_); rintro e W1 ⟨rfl, hb1, he1⟩; have R1 := h.blkStep he1 hb1 lr.1 lr.2)
    | (refine wpList_value (by rfl) (run_build_eq 69 _ (by rfl) _ (by rfl) _ (build_P at_)) ?_)
    | (refine wpList_value (by rfl) (run_alloc_blk 69 (by rfl) _ zero_P) ?_)
    | (refine wpList_store_blk (by rfl) 69 _ _ (by rfl) W1.heap.size (pcell (at_, zeros64)).toArray (by rfl) (by rfl) 69 (pcell (0, zeros64)).toArray (heap_alloc_new W1 _) size_P rfl (all_oneCell_toArray (pcell_one _)) ?_; intro W2 hb2 he2))
  have hs1 : ∀ k, S k → k < W1.heap.size := fun k hk => Nat.lt_of_lt_of_le (hSl k hk) he1.size
  have he12 : Ext (· = W1.heap.size) W1 W2 := (Ext.alloc _ _ _).trans he2 (fun _ _ h => h)
  have hz2 : W1.heap.size < W2.heap.size := blk_lt hb2.out
  have hsrc2 : Src W2 (.slice A0 n cc) n (bcells b) := (hb.ext he1 (fun hp k hk _ e => HBS.out (by rw [bcells_len] at hp; exact hp) k hk (e ▸ h.sm))).ext he12 (fun _ k hk hlt e => by omega)
  have R2 := R1.ext he12 (fun k hk e => by have := hs1 k hk; omega)
  have L0 : Ext (· = W1.heap.size) W2 W2 ∧ W2.heap[W1.heap.size]? = some (.cells (pcell (at_, padK b 0)).toArray 69 (0, 0)) := ⟨Ext.refl _ _, hb2.out⟩
  generalize hbp : W1.heap.size = bp at *
  clear c0 c2 hp hb2 he2
  go_wp2_with fail
  go_loopw [8] (fun i wr => ∃ k : Nat, k ≤ n ∧ i = .int .i64 k ∧ Ext (· = bp) W2 wr ∧ wr.heap[bp]? = some (.cells (pcell (at_, padK b k)).toArray 69 (0, 0))) (fun i _ => n - (intOf i).toNat)
  case atStart => exact ⟨0, Nat.zero_le _, rfl, L0.1, L0.2⟩
  case round =>
    clear L0
    obtain ⟨k, hk, rfl, hE, hB⟩ := hrel
    by_cases hlt : k < n
    · have hkb : k < b.length := by rw [HN.out]; exact hlt
      have hps := padK_step at_ b k hkb (by rw [HN.out]; exact hn)
      have hpl2 := padK_len b k (by omega) (by rw [HN.out]; exact hn)
      obtain ⟨A', c', hv, hr⟩ := hsrc2
      injection hv with hv hv2 hv3
      subst hv hv3
      obtain ⟨ad, rfl, hcell⟩ := hr (by rw [bcells_len]; omega)
      have hck : W2.cell? (ad.add k) = some (.int .u8 b[k]) := hcell k _ (by simp [bcells, List.getElem?_eq_getElem hkb])
      have hadb : (ad.add k).block = ad.block := by unfold Addr.add; split <;> rfl
      have hne : ad.block ≠ bp := by
        intro e
        have hi0 := hb
        obtain ⟨A', c', hv, hr0⟩ := hi0
        injection hv with hv _ _
        subst hv
        obtain ⟨ad', e', hcell0⟩ := hr0 (by rw [bcells_len]; omega)
        injection e' with e'
        subst e'
        have := World.block_lt_of_cell? W _ (hcell0 k (.int .u8 b[k]) (by simp [bcells, List.getElem?_eq_getElem hkb]))
        rw [hadb] at this
        have := he1.size
        omega
      have hcw : wr.cell? (ad.add k) = some (.int .u8 b[k]) := by
        rw [World.cell?_of_block (hE.block _ (World.block_lt_of_cell? W2 _ hck) (by rw [hadb]; exact hne))]; exact hck
      obtain ⟨u0, hu0⟩ : ∃ u, (pcell (at_, padK b k))[1 + k]? = some u := ⟨_, List.getElem?_eq_getElem (by rw [pcell_len, hpl2]; omega)⟩
      have cp := cell_of_blk hB (1 + k) u0 (by rw [List.getElem?_toArray]; exact hu0)
      have fp := frozen_of_blk hB (1 + k)
      have hB2 := blk_setCell hB (1 + k) (.int .u8 b[k])
      rw [hps] at hB2
      have hn64 : k < 64 := by omega
      generalize b[k] = bk at *
      clear hps hcell hr hck hadb
      go_wp2_with fail
      go_roundw
      case rel => exact ⟨k + 1, by omega, by go_num, hE.trans (Ext.setCell (S := (· = bp)) _ _ _ rfl) (fun _ _ e => e), hB2⟩
      case measure => simp [intOf]; omega
    · obtain rfl : k = n := by omega
      clear hlt hk
      rw [← HN.out, padK_end] at hB
      have R3 := R2.ext hE (fun k hk e => by have := hs1 k hk; omega)
      have plb := padB_len b (by rw [HN.out]; omega)
      have hs3 : ∀ k, S k → k < wr.drew.heap.size := fun k hk => Nat.lt_of_lt_of_le (hs1 k hk) (by have := hE.size; show bp ≤ wr.heap.size; omega)
      have heW : Ext S W wr.drew := ((((he1.mono (fun k _ e => e ▸ h.sm)).trans he12 (fun k hk e => by have := he1.size; omega)).trans hE (fun k hk e => by have := he1.size; omega)).trans (Ext.drew S wr) (fun _ _ h => h))
      have R0 : RefAt wr.drew S m vd vp s.pw := R3.drew
      have hW0 : RegW m bp (at_, padB b) wr.drew := ⟨fun j v hv => by rw [Nat.zero_add]; exact cell_of_blk (w := wr) hB j v (by simpa using hv), blk_lt hB⟩
      have fin := fun (W6 : World) (x : Value) => rwrite_done (W6 := W6) (x := x) h.ok R0 hs3 heW hat (by rw [HN.out]; omega)
      have FIN := Lib.hid fin
      have HS3 := Lib.hid hs3
      have HMB : Hid (m ≠ bp) := Lib.hid (by have := hs1 m h.sm; omega)
      have PLB := Lib.hid plb
      clear hsrc2 plb hb fin hs3 heW R1 R2 R3 hB hE he12 he1 hb1 hs1 hz2
      go_wp2_with fail
      refine reg_start (RegW m bp (at_, padB b)) (by kernel_rfl) ?_
      generalize wr.drew = w0 at *
      have hvs : Src w0 vp s.pend.length (pcells s.pend) := own_srcN R0.pend
      have hpll : (pcells s.pend).length = s.pend.length * 65 := R0.pend.1
      have HPLL := Lib.hid hpll
      have B0 : Below w0.heap.size w0 w0 := Below.refl _ _
      clear hpll
      have hS := hW0
      refine reg_take 0 (v := ?_) rfl (by kernel_rfl) (by rfl) ?_ hS ?_; rotate_left; focus (intro w hw; go_simp; try with_reducible rfl)
      simp only [Act.put, List.setIfInBounds_toArray, List.set_cons_zero, List.set_cons_succ]
      refine reg_take 2 (v := ?_) rfl (by kernel_rfl) (by rfl) ?_ hS ?_; rotate_left; focus (intro w hw; go_simp; try with_reducible rfl)
      simp only [Act.put, List.setIfInBounds_toArray, List.set_cons_zero, List.set_cons_succ]
      refine reg_take 3 (v := ?_) rfl (by kernel_rfl) (by rfl) ?_ hS ?_; rotate_left; focus (intro w hw; go_simp; try with_reducible rfl)
      simp only [Act.put, List.setIfInBounds_toArray, List.set_cons_zero, List.set_cons_succ]
      refine reg_take 4 (v := ?_) rfl (by kernel_rfl) (by rfl) ?_ hS ?_; rotate_left; focus (intro w hw; go_simp; try with_reducible rfl)
      simp only [Act.put, List.setIfInBounds_toArray, List.set_cons_zero, List.set_cons_succ]
      refine reg_take 7 (v := ?_) rfl (by kernel_rfl) (by rfl) ?_ hS ?_; rotate_left; focus (intro w hw; refine run_load_row 69 (.tmp 7) ?_ bp 0 ?_ (pcell (at_, padB b)) _ hw.r2 Try.underlying69 rfl ?_; rfl; rfl; (rw [pcell_len, PLB.out]; exact size_P))
      simp only [Act.put, List.setIfInBounds_toArray, List.set_cons_zero, List.set_cons_succ]
      have hmw : m ≠ bp := HMB.out
      have hW6 : ∀ (W6 : World) {x : Value}, Below w0.heap.size w0 W6 → RegW m bp (at_, padB b) (W6.setCell ⟨m, 1, none⟩ x) := fun W6 x hB => by
        have h6 := hW0.ofB hB
        refine ⟨fun j v hv => ?_, Nat.lt_of_lt_of_le h6.lt (Ext.setCell (S := (· = m)) W6 ⟨m, 1, none⟩ x rfl).size⟩
        rw [World.cell?_of_block ((Ext.setCell (S := (· = m)) W6 ⟨m, 1, none⟩ x rfl).block bp h6.lt (fun e => hmw e.symm))]
        exact h6.r2 j v hv
      refine reg_three 1 5 8 (by kernel_rfl) rfl rfl rfl (by rfl) (by rfl) (by rfl) ?_ ?_ ?_
      · refine wp_value (bs0_P _ _ _ _ _ _ _) ⟨hW0.ofB (B0.alloc B0.size (.cells #[] 69)), ?_⟩
        simp only [Act.put, List.setIfInBounds_toArray, List.set_cons_zero, List.set_cons_succ]
        refine reg_two 5 8 (by kernel_rfl) rfl rfl (by rfl) (by rfl) ?_ ?_
        · have c5 := (R0.below (B0.alloc B0.size (.cells #[] 69)) HS3.out).blk.c1
          refine wp_value (v := vp) (w' := (w0.alloc (.cells #[] 69))) ?_ ⟨hW0.ofB (B0.alloc B0.size (.cells #[] 69)), ?_⟩; focus (go_simp; try with_reducible rfl)
          clear c5
          simp only [Act.put, List.setIfInBounds_toArray, List.set_cons_zero, List.set_cons_succ]
          refine reg_two 6 8 (by kernel_rfl) rfl rfl (by rfl) (by rfl) ?_ ?_
          · refine wp_append w0.heap.size _ _ 63 (by rfl) 69 _ 65 72 Try.underlying63 info_P rfl (by decide) _ 0 [] (by rfl) (own_empty w0 w0.heap.size 69 65 B0.size) s.pend.length (pcells s.pend) _ (by rfl) (hvs.fresh (B0.alloc B0.size (.cells #[] 69))) HPLL.out (pcells_one _) (by unfold maxLen; omega) (by omega) (B0.alloc B0.size (.cells #[] 69)).size ?_
            intro v5 W5 how5 hgr5 hat5
            have B5 := (B0.alloc B0.size (.cells #[] 69)).grown hgr5 (B0.alloc B0.size (.cells #[] 69)).size (fun k hk => by have e : w0.heap.size = k := (by simpa [Value.ownBlock] using hk); have := B0.size; omega)
            refine ⟨hW0.ofB B5, ?_⟩
            simp only [Act.put, List.setIfInBounds_toArray, List.set_cons_zero, List.set_cons_succ]
            refine reg_one 8 (by kernel_rfl) rfl (by rfl) ?_
            refine wp_value (bs1_P (at_, padB b) PLB.out _ _ _ rfl _ _ _ _ _) ⟨hW0.ofB (B5.alloc B5.size (.cells (pcell (at_, padB b)).toArray 69)), ?_⟩
            simp only [Act.put, List.setIfInBounds_toArray, List.set_cons_zero, List.set_cons_succ]
            refine reg_one 9 (by kernel_rfl) rfl (by rfl) ?_
            refine wp_append w0.heap.size _ _ 63 (by rfl) 69 _ 65 72 Try.underlying63 info_P rfl (by decide) _ (0 + s.pend.length) ([] ++ pcells s.pend) (by rfl) (how5.alloc _) 1 (pcell (at_, padB b)) _ (by rfl) (Src.of_blk (o := 0) (m := 1) (c := 1) (heap_alloc_new W5 (.cells (pcell (at_, padB b)).toArray 69)) (pcell (at_, padB b)) (by simp)) (by rw [pcell_len, PLB.out]) (pcell_one _) (by unfold maxLen; omega) (by omega) (B5.alloc B5.size (.cells (pcell (at_, padB b)).toArray 69)).size ?_
            intro v6 W6 how6 hgr6 hat6
            have B6 := (B5.alloc B5.size (.cells (pcell (at_, padB b)).toArray 69)).grown hgr6 (B5.alloc B5.size (.cells (pcell (at_, padB b)).toArray 69)).size (fun k hk => (how5.lt k hk).1)
            refine ⟨hW0.ofB B6, ?_⟩
            simp only [Act.put, List.setIfInBounds_toArray, List.set_cons_zero, List.set_cons_succ]
            rw [Nat.zero_add] at how6
            obtain ⟨A6, c6, rfl⟩ := own_any how6
            have b6 := (R0.below B6 HS3.out).blk
            have c6' := b6.c1
            have f6' := b6.fz 1
            refine reg_take 10 (v := ?_) rfl (by kernel_rfl) (by rfl) ?_ (hW0.ofB B6) ?_; rotate_left; focus (intro w hw; go_simp; try with_reducible rfl)
            simp only [Act.put, List.setIfInBounds_toArray, List.set_cons_zero, List.set_cons_succ]
            refine reg_take 11 (v := ?_) rfl (by kernel_rfl) (by rfl) ?_ (hW0.ofB B6) ?_; rotate_left; focus (intro w hw; go_simp; try with_reducible rfl)
            simp only [Act.put, List.setIfInBounds_toArray, List.set_cons_zero, List.set_cons_succ]
            refine reg_store 12 (by kernel_rfl) rfl (by rfl) (w' := W6.setCell ⟨m, 1, none⟩ (.slice A6 (s.pend.length + 1) c6)) ?_ (hW6 _ B6) ?_; focus (go_simp; try with_reducible rfl)
            refine reg_done (by kernel_rfl) ?_
            go_wp2_with fail
            exact HPost.out _ _ ⟨rfl, FIN.out W6 _ B6 how6⟩
          · refine wp_value (bs1_P (at_, padB b) PLB.out _ _ _ rfl _ _ _ _ _) ⟨hW0.ofB ((B0.alloc B0.size (.cells #[] 69)).alloc (B0.alloc B0.size (.cells #[] 69)).size (.cells (pcell (at_, padB b)).toArray 69)), ?_⟩
            simp only [Act.put, List.setIfInBounds_toArray, List.set_cons_zero, List.set_cons_succ]
            refine reg_one 6 (by kernel_rfl) rfl (by rfl) ?_
            refine wp_append w0.heap.size _ _ 63 (by rfl) 69 _ 65 72 Try.underlying63 info_P rfl (by decide) _ 0 [] (by rfl) ((own_empty w0 w0.heap.size 69 65 B0.size).alloc _) s.pend.length (pcells s.pend) _ (by rfl) (hvs.fresh ((B0.alloc B0.size (.cells #[] 69)).alloc (B0.alloc B0.size (.cells #[] 69)).size (.cells (pcell (at_, padB b)).toArray 69))) HPLL.out (pcells_one _) (by unfold maxLen; omega) (by omega) ((B0.alloc B0.size (.cells #[] 69)).alloc (B0.alloc B0.size (.cells #[] 69)).size (.cells (pcell (at_, padB b)).toArray 69)).size ?_
            intro v5 W5 how5 hgr5 hat5
            have B5 := ((B0.alloc B0.size (.cells #[] 69)).alloc (B0.alloc B0.size (.cells #[] 69)).size (.cells (pcell (at_, padB b)).toArray 69)).grown hgr5 ((B0.alloc B0.size (.cells #[] 69)).alloc (B0.alloc B0.size (.cells #[] 69)).size (.cells (pcell (at_, padB b)).toArray 69)).size (fun k hk => by have e : w0.heap.size = k := (by simpa [Value.ownBlock] using hk); have := B0.size; omega)
            refine ⟨hW0.ofB B5, ?_⟩
            simp only [Act.put, List.setIfInBounds_toArray, List.set_cons_zero, List.set_cons_succ]
            have hs8 := (Src.of_blk (o := 0) (m := 1) (c := 1) (heap_alloc_new (w0.alloc (.cells #[] 69)) (.cells (pcell (at_, padB b)).toArray 69)) (pcell (at_, padB b)) (by simp)).ext (Ext.grown (S := (· = w0.heap.size)) hgr5 (fun k hk => by simpa [Value.ownBlock] using hk.symm)) (fun _ k hk _ e => by
              have e1 : (w0.alloc (.cells #[] 69)).heap.size = k := (by simpa [Value.ownBlock] using hk)
              simp only [World.size_alloc] at e e1
              omega)
            refine reg_one 9 (by kernel_rfl) rfl (by rfl) ?_
            refine wp_append w0.heap.size _ _ 63 (by rfl) 69 _ 65 72 Try.underlying63 info_P rfl (by decide) _ (0 + s.pend.length) ([] ++ pcells s.pend) (by rfl) how5 1 (pcell (at_, padB b)) _ (by rfl) hs8 (by rw [pcell_len, PLB.out]) (pcell_one _) (by unfold maxLen; omega) (by omega) B5.size ?_
            intro v6 W6 how6 hgr6 hat6
            have B6 := B5.grown hgr6 B5.size (fun k hk => (how5.lt k hk).1)
            refine ⟨hW0.ofB B6, ?_⟩
            simp only [Act.put, List.setIfInBounds_toArray, List.set_cons_zero, List.set_cons_succ]
            rw [Nat.zero_add] at how6
            obtain ⟨A6, c6, rfl⟩ := own_any how6
            have b6 := (R0.below B6 HS3.out).blk
            have c6' := b6.c1
            have f6' := b6.fz 1
            refine reg_take 10 (v := ?_) rfl (by kernel_rfl) (by rfl) ?_ (hW0.ofB B6) ?_; rotate_left; focus (intro w hw; go_simp; try with_reducible rfl)
            simp only [Act.put, List.setIfInBounds_toArray, List.set_cons_zero, List.set_cons_succ]
            refine reg_take 11 (v := ?_) rfl (by kernel_rfl) (by rfl) ?_ (hW0.ofB B6) ?_; rotate_left; focus (intro w hw; go_simp; try with_reducible rfl)
            simp only [Act.put, List.setIfInBounds_toArray, List.set_cons_zero, List.set_cons_succ]
            refine reg_store 12 (by kernel_rfl) rfl (by rfl) (w' := W6.setCell ⟨m, 1, none⟩ (.slice A6 (s.pend.length + 1) c6)) ?_ (hW6 _ B6) ?_; focus (go_simp; try with_reducible rfl)
            refine reg_done (by kernel_rfl) ?_
            go_wp2_with fail
            exact HPost.out _ _ ⟨rfl, FIN.out W6 _ B6 how6⟩
        · refine wp_value (bs1_P (at_, padB b) PLB.out _ _ _ rfl _ _ _ _ _) ⟨hW0.ofB ((B0.alloc B0.size (.cells #[] 69)).alloc (B0.alloc B0.size (.cells #[] 69)).size (.cells (pcell (at_, padB b)).toArray 69)), ?_⟩
          simp only [Act.put, List.setIfInBounds_toArray, List.set_cons_zero, List.set_cons_succ]
          refine reg_one 5 (by kernel_rfl) rfl (by rfl) ?_
          have c5 := (R0.below ((B0.alloc B0.size (.cells #[] 69)).alloc (B0.alloc B0.size (.cells #[] 69)).size (.cells (pcell (at_, padB b)).toArray 69)) HS3.out).blk.c1
          refine wp_value (v := vp) (w' := ((w0.alloc (.cells #[] 69)).alloc (.cells (pcell (at_, padB b)).toArray 69))) ?_ ⟨hW0.ofB ((B0.alloc B0.size (.cells #[] 69)).alloc (B0.alloc B0.size (.cells #[] 69)).size (.cells (pcell (at_, padB b)).toArray 69)), ?_⟩; focus (go_simp; try with_reducible rfl)
          clear c5
          simp only [Act.put, List.setIfInBounds_toArray, List.set_cons_zero, List.set_cons_succ]
          refine reg_one 6 (by kernel_rfl) rfl (by rfl) ?_
          refine wp_append w0.heap.size _ _ 63 (by rfl) 69 _ 65 72 Try.underlying63 info_P rfl (by decide) _ 0 [] (by rfl) ((own_empty w0 w0.heap.size 69 65 B0.size).alloc _) s.pend.length (pcells s.pend) _ (by rfl) (hvs.fresh ((B0.alloc B0.size (.cells #[] 69)).alloc (B0.alloc B0.size (.cells #[] 69)).size (.cells (pcell (at_, padB b)).toArray 69))) HPLL.out (pcells_one _) (by unfold maxLen; omega) (by omega) ((B0.alloc B0.size (.cells #[] 69)).alloc (B0.alloc B0.size (.cells #[] 69)).size (.cells (pcell (at_, padB b)).toArray 69)).size ?_
          intro v5 W5 how5 hgr5 hat5
          have B5 := ((B0.alloc B0.size (.cells #[] 69)).alloc (B0.alloc B0.size (.cells #[] 69)).size (.cells (pcell (at_, padB b)).toArray 69)).grown hgr5 ((B0.alloc B0.size (.cells #[] 69)).alloc (B0.alloc B0.size (.cells #[] 69)).size (.cells (pcell (at_, padB b)).toArray 69)).size (fun k hk => by have e : w0.heap.size = k := (by simpa [Value.ownBlock] using hk); have := B0.size; omega)
          refine ⟨hW0.ofB B5, ?_⟩
          simp only [Act.put, List.setIfInBounds_toArray, List.set_cons_zero, List.set_cons_succ]
          have hs8 := (Src.of_blk (o := 0) (m := 1) (c := 1) (heap_alloc_new (w0.alloc (.cells #[] 69)) (.cells (pcell (at_, padB b)).toArray 69)) (pcell (at_, padB b)) (by simp)).ext (Ext.grown (S := (· = w0.heap.size)) hgr5 (fun k hk => by simpa [Value.ownBlock] using hk.symm)) (fun _ k hk _ e => by
            have e1 : (w0.alloc (.cells #[] 69)).heap.size = k := (by simpa [Value.ownBlock] using hk)
            simp only [World.size_alloc] at e e1
            omega)
          refine reg_one 9 (by kernel_rfl) rfl (by rfl) ?_
          refine wp_append w0.heap.size _ _ 63 (by rfl) 69 _ 65 72 Try.underlying63 info_P rfl (by decide) _ (0 + s.pend.length) ([] ++ pcells s.pend) (by rfl) how5 1 (pcell (at_, padB b)) _ (by rfl) hs8 (by rw [pcell_len, PLB.out]) (pcell_one _) (by unfold maxLen; omega) (by omega) B5.size ?_
          intro v6 W6 how6 hgr6 hat6
          have B6 := B5.grown hgr6 B5.size (fun k hk => (how5.lt k hk).1)
          refine ⟨hW0.ofB B6, ?_⟩
          simp only [Act.put, List.setIfInBounds_toArray, List.set_cons_zero, List.set_cons_succ]
          rw [Nat.zero_add] at how6
          obtain ⟨A6, c6, rfl⟩ := own_any how6
          have b6 := (R0.below B6 HS3.out).blk
          have c6' := b6.c1
          have f6' := b6.fz 1
          refine reg_take 10 (v := ?_) rfl (by kernel_rfl) (by rfl) ?_ (hW0.ofB B6) ?_; rotate_left; focus (intro w hw; go_simp; try with_reducible rfl)
          simp only [Act.put, List.setIfInBounds_toArray, List.set_cons_zero, List.set_cons_succ]
          refine reg_take 11 (v := ?_) rfl (by kernel_rfl) (by rfl) ?_ (hW0.ofB B6) ?_; rotate_left; focus (intro w hw; go_simp; try with_reducible rfl)
          simp only [Act.put, List.setIfInBounds_toArray, List.set_cons_zero, List.set_cons_succ]
          refine reg_store 12 (by kernel_rfl) rfl (by rfl) (w' := W6.setCell ⟨m, 1, none⟩ (.slice A6 (s.pend.length + 1) c6)) ?_ (hW6 _ B6) ?_; focus (go_simp; try with_reducible rfl)
          refine reg_done (by kernel_rfl) ?_
          go_wp2_with fail
          exact HPost.out _ _ ⟨rfl, FIN.out W6 _ B6 how6⟩
      · have c5 := (R0.below B0 HS3.out).blk.c1
        refine wp_value (v := vp) (w' := w0) ?_ ⟨hW0.ofB B0, ?_⟩; focus (go_simp; try with_reducible rfl)
        clear c5
        simp only [Act.put, List.setIfInBounds_toArray, List.set_cons_zero, List.set_cons_succ]
        refine reg_two 1 8 (by kernel_rfl) rfl rfl (by rfl) (by rfl) ?_ ?_
        · refine wp_value (bs0_P _ _ _ _ _ _ _) ⟨hW0.ofB (B0.alloc B0.size (.cells #[] 69)), ?_⟩
          simp only [Act.put, List.setIfInBounds_toArray, List.set_cons_zero, List.set_cons_succ]
          refine reg_two 6 8 (by kernel_rfl) rfl rfl (by rfl) (by rfl) ?_ ?_
          · refine wp_append w0.heap.size _ _ 63 (by rfl) 69 _ 65 72 Try.underlying63 info_P rfl (by decide) _ 0 [] (by rfl) (own_empty w0 w0.heap.size 69 65 B0.size) s.pend.length (pcells s.pend) _ (by rfl) (hvs.fresh (B0.alloc B0.size (.cells #[] 69))) HPLL.out (pcells_one _) (by unfold maxLen; omega) (by omega) (B0.alloc B0.size (.cells #[] 69)).size ?_
            intro v5 W5 how5 hgr5 hat5
            have B5 := (B0.alloc B0.size (.cells #[] 69)).grown hgr5 (B0.alloc B0.size (.cells #[] 69)).size (fun k hk => by have e : w0.heap.size = k := (by simpa [Value.ownBlock] using hk); have := B0.size; omega)
            refine ⟨hW0.ofB B5, ?_⟩
            simp only [Act.put, List.setIfInBounds_toArray, List.set_cons_zero, List.set_cons_succ]
            refine reg_one 8 (by kernel_rfl) rfl (by rfl) ?_
            refine wp_value (bs1_P (at_, padB b) PLB.out _ _ _ rfl _ _ _ _ _) ⟨hW0.ofB (B5.alloc B5.size (.cells (pcell (at_, padB b)).toArray 69)), ?_⟩
            simp only [Act.put, List.setIfInBounds_toArray, List.set_cons_zero, List.set_cons_succ]
            refine reg_one 9 (by kernel_rfl) rfl (by rfl) ?_
            refine wp_append w0.heap.size _ _ 63 (by rfl) 69 _ 65 72 Try.underlying63 info_P rfl (by decide) _ (0 + s.pend.length) ([] ++ pcells s.pend) (by rfl) (how5.alloc _) 1 (pcell (at_, padB b)) _ (by rfl) (Src.of_blk (o := 0) (m := 1) (c := 1) (heap_alloc_new W5 (.cells (pcell (at_, padB b)).toArray 69)) (pcell (at_, padB b)) (by simp)) (by rw [pcell_len, PLB.out]) (pcell_one _) (by unfold maxLen; omega) (by omega) (B5.alloc B5.size (.cells (pcell (at_, padB b)).toArray 69)).size ?_
            intro v6 W6 how6 hgr6 hat6
            have B6 := (B5.alloc B5.size (.cells (pcell (at_, padB b)).toArray 69)).grown hgr6 (B5.alloc B5.size (.cells (pcell (at_, padB b)).toArray 69)).size (fun k hk => (how5.lt k hk).1)
            refine ⟨hW0.ofB B6, ?_⟩
            simp only [Act.put, List.setIfInBounds_toArray, List.set_cons_zero, List.set_cons_succ]
            rw [Nat.zero_add] at how6
            obtain ⟨A6, c6, rfl⟩ := own_any how6
            have b6 := (R0.below B6 HS3.out).blk
            have c6' := b6.c1
            have f6' := b6.fz 1
            refine reg_take 10 (v := ?_) rfl (by kernel_rfl) (by rfl) ?_ (hW0.ofB B6) ?_; rotate_left; focus (intro w hw; go_simp; try with_reducible rfl)
            simp only [Act.put, List.setIfInBounds_toArray, List.set_cons_zero, List.set_cons_succ]
            refine reg_take 11 (v := ?_) rfl (by kernel_rfl) (by rfl) ?_ (hW0.ofB B6) ?_; rotate_left; focus (intro w hw; go_simp; try with_reducible rfl)
            simp only [Act.put, List.setIfInBounds_toArray, List.set_cons_zero, List.set_cons_succ]
            refine reg_store 12 (by kernel_rfl) rfl (by rfl) (w' := W6.setCell ⟨m, 1, none⟩ (.slice A6 (s.pend.length + 1) c6)) ?_ (hW6 _ B6) ?_; focus (go_simp; try with_reducible rfl)
            refine reg_done (by kernel_rfl) ?_
            go_wp2_with fail
            exact HPost.out _ _ ⟨rfl, FIN.out W6 _ B6 how6⟩
          · refine wp_value (bs1_P (at_, padB b) PLB.out _ _ _ rfl _ _ _ _ _) ⟨hW0.ofB ((B0.alloc B0.size (.cells #[] 69)).alloc (B0.alloc B0.size (.cells #[] 69)).size (.cells (pcell (at_, padB b)).toArray 69)), ?_⟩
            simp only [Act.put, List.setIfInBounds_toArray, List.set_cons_zero, List.set_cons_succ]
            refine reg_one 6 (by kernel_rfl) rfl (by rfl) ?_
            refine wp_append w0.heap.size _ _ 63 (by rfl) 69 _ 65 72 Try.underlying63 info_P rfl (by decide) _ 0 [] (by rfl) ((own_empty w0 w0.heap.size 69 65 B0.size).alloc _) s.pend.length (pcells s.pend) _ (by rfl) (hvs.fresh ((B0.alloc B0.size (.cells #[] 69)).alloc (B0.alloc B0.size (.cells #[] 69)).size (.cells (pcell (at_, padB b)).toArray 69))) HPLL.out (pcells_one _) (by unfold maxLen; omega) (by omega) ((B0.alloc B0.size (.cells #[] 69)).alloc (B0.alloc B0.size (.cells #[] 69)).size (.cells (pcell (at_, padB b)).toArray 69)).size ?_
            intro v5 W5 how5 hgr5 hat5
            have B5 := ((B0.alloc B0.size (.cells #[] 69)).alloc (B0.alloc B0.size (.cells #[] 69)).size (.cells (pcell (at_, padB b)).toArray 69)).grown hgr5 ((B0.alloc B0.size (.cells #[] 69)).alloc (B0.alloc B0.size (.cells #[] 69)).size (.cells (pcell (at_, padB b)).toArray 69)).size (fun k hk => by have e : w0.heap.size = k := (by simpa [Value.ownBlock] using hk); have := B0.size; omega)
            refine ⟨hW0.ofB B5, ?_⟩
            simp only [Act.put, List.setIfInBounds_toArray, List.set_cons_zero, List.set_cons_succ]
            have hs8 := (Src.of_blk (o := 0) (m := 1) (c := 1) (heap_alloc_new (w0.alloc (.cells #[] 69)) (.cells (pcell (at_, padB b)).toArray 69)) (pcell (at_, padB b)) (by simp)).ext (Ext.grown (S := (· = w0.heap.size)) hgr5 (fun k hk => by simpa [Value.ownBlock] using hk.symm)) (fun _ k hk _ e => by
              have e1 : (w0.alloc (.cells #[] 69)).heap.size = k := (by simpa [Value.ownBlock] using hk)
              simp only [World.size_alloc] at e e1
              omega)
            refine reg_one 9 (by kernel_rfl) rfl (by rfl) ?_
            refine wp_append w0.heap.size _ _ 63 (by rfl) 69 _ 65 72 Try.underlying63 info_P rfl (by decide) _ (0 + s.pend.length) ([] ++ pcells s.pend) (by rfl) how5 1 (pcell (at_, padB b)) _ (by rfl) hs8 (by rw [pcell_len, PLB.out]) (pcell_one _) (by unfold maxLen; omega) (by omega) B5.size ?_
            intro v6 W6 how6 hgr6 hat6
            have B6 := B5.grown hgr6 B5.size (fun k hk => (how5.lt k hk).1)
            refine ⟨hW0.ofB B6, ?_⟩
            simp only [Act.put, List.setIfInBounds_toArray, List.set_cons_zero, List.set_cons_succ]
            rw [Nat.zero_add] at how6
            obtain ⟨A6, c6, rfl⟩ := own_any how6
            have b6 := (R0.below B6 HS3.out).blk
            have c6' := b6.c1
            have f6' := b6.fz 1
            refine reg_take 10 (v := ?_) rfl (by kernel_rfl) (by rfl) ?_ (hW0.ofB B6) ?_; rotate_left; focus (intro w hw; go_simp; try with_reducible rfl)
            simp only [Act.put, List.setIfInBounds_toArray, List.set_cons_zero, List.set_cons_succ]
            refine reg_take 11 (v := ?_) rfl (by kernel_rfl) (by rfl) ?_ (hW0.ofB B6) ?_; rotate_left; focus (intro w hw; go_simp; try with_reducible rfl)
            simp only [Act.put, List.setIfInBounds_toArray, List.set_cons_zero, List.set_cons_succ]
            refine reg_store 12 (by kernel_rfl) rfl (by rfl) (w' := W6.setCell ⟨m, 1, none⟩ (.slice A6 (s.pend.length + 1) c6)) ?_ (hW6 _ B6) ?_; focus (go_simp; try with_reducible rfl)
            refine reg_done (by kernel_rfl) ?_
            go_wp2_with fail
            exact HPost.out _ _ ⟨rfl, FIN.out W6 _ B6 how6⟩
        · refine wp_value (bs1_P (at_, padB b) PLB.out _ _ _ rfl _ _ _ _ _) ⟨hW0.ofB (B0.alloc B0.size (.cells (pcell (at_, padB b)).toArray 69)), ?_⟩
          simp only [Act.put, List.setIfInBounds_toArray, List.set_cons_zero, List.set_cons_succ]
          refine reg_one 1 (by kernel_rfl) rfl (by rfl) ?_
          refine wp_value (bs0_P _ _ _ _ _ _ _) ⟨hW0.ofB ((B0.alloc B0.size (.cells (pcell (at_, padB b)).toArray 69)).alloc (B0.alloc B0.size (.cells (pcell (at_, padB b)).toArray 69)).size (.cells #[] 69)), ?_⟩
          simp only [Act.put, List.setIfInBounds_toArray, List.set_cons_zero, List.set_cons_succ]
          refine reg_one 6 (by kernel_rfl) rfl (by rfl) ?_
          refine wp_append w0.heap.size _ _ 63 (by rfl) 69 _ 65 72 Try.underlying63 info_P rfl (by decide) _ 0 [] (by rfl) (own_empty (w0.alloc (.cells (pcell (at_, padB b)).toArray 69)) w0.heap.size 69 65 (B0.alloc B0.size (.cells (pcell (at_, padB b)).toArray 69)).size) s.pend.length (pcells s.pend) _ (by rfl) (hvs.fresh ((B0.alloc B0.size (.cells (pcell (at_, padB b)).toArray 69)).alloc (B0.alloc B0.size (.cells (pcell (at_, padB b)).toArray 69)).size (.cells #[] 69))) HPLL.out (pcells_one _) (by unfold maxLen; omega) (by omega) ((B0.alloc B0.size (.cells (pcell (at_, padB b)).toArray 69)).alloc (B0.alloc B0.size (.cells (pcell (at_, padB b)).toArray 69)).size (.cells #[] 69)).size ?_
          intro v5 W5 how5 hgr5 hat5
          have B5 := ((B0.alloc B0.size (.cells (pcell (at_, padB b)).toArray 69)).alloc (B0.alloc B0.size (.cells (pcell (at_, padB b)).toArray 69)).size (.cells #[] 69)).grown hgr5 ((B0.alloc B0.size (.cells (pcell (at_, padB b)).toArray 69)).alloc (B0.alloc B0.size (.cells (pcell (at_, padB b)).toArray 69)).size (.cells #[] 69)).size (fun k hk => by have e : (w0.alloc (.cells (pcell (at_, padB b)).toArray 69)).heap.size = k := (by simpa [Value.ownBlock] using hk); have := (B0.alloc B0.size (.cells (pcell (at_, padB b)).toArray 69)).size; omega)
          refine ⟨hW0.ofB B5, ?_⟩
          simp only [Act.put, List.setIfInBounds_toArray, List.set_cons_zero, List.set_cons_succ]
          have hs8 := ((Src.of_blk (o := 0) (m := 1) (c := 1) (heap_alloc_new w0 (.cells (pcell (at_, padB b)).toArray 69)) (pcell (at_, padB b)) (by simp)).fresh (below_new _ (.cells #[] 69))).ext (Ext.grown (S := (· = (w0.alloc (.cells (pcell (at_, padB b)).toArray 69)).heap.size)) hgr5 (fun k hk => by simpa [Value.ownBlock] using hk.symm)) (fun _ k hk _ e => by
            have e1 : w0.heap.size = k := (by simpa [Value.ownBlock] using hk)
            simp only [World.size_alloc] at e e1
            omega)
          refine reg_one 9 (by kernel_rfl) rfl (by rfl) ?_
          refine wp_append w0.heap.size _ _ 63 (by rfl) 69 _ 65 72 Try.underlying63 info_P rfl (by decide) _ (0 + s.pend.length) ([] ++ pcells s.pend) (by rfl) how5 1 (pcell (at_, padB b)) _ (by rfl) hs8 (by rw [pcell_len, PLB.out]) (pcell_one _) (by unfold maxLen; omega) (by omega) B5.size ?_
          intro v6 W6 how6 hgr6 hat6
          have B6 := B5.grown hgr6 B5.size (fun k hk => (how5.lt k hk).1)
          refine ⟨hW0.ofB B6, ?_⟩
          simp only [Act.put, List.setIfInBounds_toArray, List.set_cons_zero, List.set_cons_succ]
          rw [Nat.zero_add] at how6
          obtain ⟨A6, c6, rfl⟩ := own_any how6
          have b6 := (R0.below B6 HS3.out).blk
          have c6' := b6.c1
          have f6' := b6.fz 1
          refine reg_take 10 (v := ?_) rfl (by kernel_rfl) (by rfl) ?_ (hW0.ofB B6) ?_; rotate_left; focus (intro w hw; go_simp; try with_reducible rfl)
          simp only [Act.put, List.setIfInBounds_toArray, List.set_cons_zero, List.set_cons_succ]
          refine reg_take 11 (v := ?_) rfl (by kernel_rfl) (by rfl) ?_ (hW0.ofB B6) ?_; rotate_left; focus (intro w hw; go_simp; try with_reducible rfl)
          simp only [Act.put, List.setIfInBounds_toArray, List.set_cons_zero, List.set_cons_succ]
          refine reg_store 12 (by kernel_rfl) rfl (by rfl) (w' := W6.setCell ⟨m, 1, none⟩ (.slice A6 (s.pend.length + 1) c6)) ?_ (hW6 _ B6) ?_; focus (go_simp; try with_reducible rfl)
          refine reg_done (by kernel_rfl) ?_
          go_wp2_with fail
          exact HPost.out _ _ ⟨rfl, FIN.out W6 _ B6 how6⟩
      · refine wp_value (bs1_P (at_, padB b) PLB.out _ _ _ rfl _ _ _ _ _) ⟨hW0.ofB (B0.alloc B0.size (.cells (pcell (at_, padB b)).toArray 69)), ?_⟩
        simp only [Act.put, List.setIfInBounds_toArray, List.set_cons_zero, List.set_cons_succ]
        refine reg_two 1 5 (by kernel_rfl) rfl rfl (by rfl) (by rfl) ?_ ?_
        · refine wp_value (bs0_P _ _ _ _ _ _ _) ⟨hW0.ofB ((B0.alloc B0.size (.cells (pcell (at_, padB b)).toArray 69)).alloc (B0.alloc B0.size (.cells (pcell (at_, padB b)).toArray 69)).size (.cells #[] 69)), ?_⟩
          simp only [Act.put, List.setIfInBounds_toArray, List.set_cons_zero, List.set_cons_succ]
          refine reg_one 5 (by kernel_rfl) rfl (by rfl) ?_
          have c5 := (R0.below ((B0.alloc B0.size (.cells (pcell (at_, padB b)).toArray 69)).alloc (B0.alloc B0.size (.cells (pcell (at_, padB b)).toArray 69)).size (.cells #[] 69)) HS3.out).blk.c1
          refine wp_value (v := vp) (w' := ((w0.alloc (.cells (pcell (at_, padB b)).toArray 69)).alloc (.cells #[] 69))) ?_ ⟨hW0.ofB ((B0.alloc B0.size (.cells (pcell (at_, padB b)).toArray 69)).alloc (B0.alloc B0.size (.cells (pcell (at_, padB b)).toArray 69)).size (.cells #[] 69)), ?_⟩; focus (go_simp; try with_reducible rfl)
          clear c5
          simp only [Act.put, List.setIfInBounds_toArray, List.set_cons_zero, List.set_cons_succ]
          refine reg_one 6 (by kernel_rfl) rfl (by rfl) ?_
          refine wp_append w0.heap.size _ _ 63 (by rfl) 69 _ 65 72 Try.underlying63 info_P rfl (by decide) _ 0 [] (by rfl) (own_empty (w0.alloc (.cells (pcell (at_, padB b)).toArray 69)) w0.heap.size 69 65 (B0.alloc B0.size (.cells (pcell (at_, padB b)).toArray 69)).size) s.pend.length (pcells s.pend) _ (by rfl) (hvs.fresh ((B0.alloc B0.size (.cells (pcell (at_, padB b)).toArray 69)).alloc (B0.alloc B0.size (.cells (pcell (at_, padB b)).toArray 69)).size (.cells #[] 69))) HPLL.out (pcells_one _) (by unfold maxLen; omega) (by omega) ((B0.alloc B0.size (.cells (pcell (at_, padB b)).toArray 69)).alloc (B0.alloc B0.size (.cells (pcell (at_, padB b)).toArray 69)).size (.cells #[] 69)).size ?_
          intro v5 W5 how5 hgr5 hat5
          have B5 := ((B0.alloc B0.size (.cells (pcell (at_, padB b)).toArray 69)).alloc (B0.alloc B0.size (.cells (pcell (at_, padB b)).toArray 69)).size (.cells #[] 69)).grown hgr5 ((B0.alloc B0.size (.cells (pcell (at_, padB b)).toArray 69)).alloc (B0.alloc B0.size (.cells (pcell (at_, padB b)).toArray 69)).size (.cells #[] 69)).size (fun k hk => by have e : (w0.alloc (.cells (pcell (at_, padB b)).toArray 69)).heap.size = k := (by simpa [Value.ownBlock] using hk); have := (B0.alloc B0.size (.cells (pcell (at_, padB b)).toArray 69)).size; omega)
          refine ⟨hW0.ofB B5, ?_⟩
          simp only [Act.put, List.setIfInBounds_toArray, List.set_cons_zero, List.set_cons_succ]
          have hs8 := ((Src.of_blk (o := 0) (m := 1) (c := 1) (heap_alloc_new w0 (.cells (pcell (at_, padB b)).toArray 69)) (pcell (at_, padB b)) (by simp)).fresh (below_new _ (.cells #[] 69))).ext (Ext.grown (S := (· = (w0.alloc (.cells (pcell (at_, padB b)).toArray 69)).heap.size)) hgr5 (fun k hk => by simpa [Value.ownBlock] using hk.symm)) (fun _ k hk _ e => by
            have e1 : w0.heap.size = k := (by simpa [Value.ownBlock] using hk)
            simp only [World.size_alloc] at e e1
            omega)
          refine reg_one 9 (by kernel_rfl) rfl (by rfl) ?_
          refine wp_append w0.heap.size _ _ 63 (by rfl) 69 _ 65 72 Try.underlying63 info_P rfl (by decide) _ (0 + s.pend.length) ([] ++ pcells s.pend) (by rfl) how5 1 (pcell (at_, padB b)) _ (by rfl) hs8 (by rw [pcell_len, PLB.out]) (pcell_one _) (by unfold maxLen; omega) (by omega) B5.size ?_
          intro v6 W6 how6 hgr6 hat6
          have B6 := B5.grown hgr6 B5.size (fun k hk => (how5.lt k hk).1)
          refine ⟨hW0.ofB B6, ?_⟩
          simp only [Act.put, List.setIfInBounds_toArray, List.set_cons_zero, List.set_cons_succ]
          rw [Nat.zero_add] at how6
          obtain ⟨A6, c6, rfl⟩ := own_any how6
          have b6 := (R0.below B6 HS3.out).blk
          have c6' := b6.c1
          have f6' := b6.fz 1
          refine reg_take 10 (v := ?_) rfl (by kernel_rfl) (by rfl) ?_ (hW0.ofB B6) ?_; rotate_left; focus (intro w hw; go_simp; try with_reducible rfl)
          simp only [Act.put, List.setIfInBounds_toArray, List.set_cons_zero, List.set_cons_succ]
          refine reg_take 11 (v := ?_) rfl (by kernel_rfl) (by rfl) ?_ (hW0.ofB B6) ?_; rotate_left; focus (intro w hw; go_simp; try with_reducible rfl)
          simp only [Act.put, List.setIfInBounds_toArray, List.set_cons_zero, List.set_cons_succ]
          refine reg_store 12 (by kernel_rfl) rfl (by rfl) (w' := W6.setCell ⟨m, 1, none⟩ (.slice A6 (s.pend.length + 1) c6)) ?_ (hW6 _ B6) ?_; focus (go_simp; try with_reducible rfl)
          refine reg_done (by kernel_rfl) ?_
          go_wp2_with fail
          exact HPost.out _ _ ⟨rfl, FIN.out W6 _ B6 how6⟩
        · have c5 := (R0.below (B0.alloc B0.size (.cells (pcell (at_, padB b)).toArray 69)) HS3.out).blk.c1
          refine wp_value (v := vp) (w' := (w0.alloc (.cells (pcell (at_, padB b)).toArray 69))) ?_ ⟨hW0.ofB (B0.alloc B0.size (.cells (pcell (at_, padB b)).toArray 69)), ?_⟩; focus (go_simp; try with_reducible rfl)
          clear c5
          simp only [Act.put, List.setIfInBounds_toArray, List.set_cons_zero, List.set_cons_succ]
          refine reg_one 1 (by kernel_rfl) rfl (by rfl) ?_
          refine wp_value (bs0_P _ _ _ _ _ _ _) ⟨hW0.ofB ((B0.alloc B0.size (.cells (pcell (at_, padB b)).toArray 69)).alloc (B0.alloc B0.size (.cells (pcell (at_, padB b)).toArray 69)).size (.cells #[] 69)), ?_⟩
          simp only [Act.put, List.setIfInBounds_toArray, List.set_cons_zero, List.set_cons_succ]
          refine reg_one 6 (by kernel_rfl) rfl (by rfl) ?_
          refine wp_append w0.heap.size _ _ 63 (by rfl) 69 _ 65 72 Try.underlying63 info_P rfl (by decide) _ 0 [] (by rfl) (own_empty (w0.alloc (.cells (pcell (at_, padB b)).toArray 69)) w0.heap.size 69 65 (B0.alloc B0.size (.cells (pcell (at_, padB b)).toArray 69)).size) s.pend.length (pcells s.pend) _ (by rfl) (hvs.fresh ((B0.alloc B0.size (.cells (pcell (at_, padB b)).toArray 69)).alloc (B0.alloc B0.size (.cells (pcell (at_, padB b)).toArray 69)).size (.cells #[] 69))) HPLL.out (pcells_one _) (by unfold maxLen; omega) (by omega) ((B0.alloc B0.size (.cells (pcell (at_, padB b)).toArray 69)).alloc (B0.alloc B0.size (.cells (pcell (at_, padB b)).toArray 69)).size (.cells #[] 69)).size ?_
          intro v5 W5 how5 hgr5 hat5
          have B5 := ((B0.alloc B0.size (.cells (pcell (at_, padB b)).toArray 69)).alloc (B0.alloc B0.size (.cells (pcell (at_, padB b)).toArray 69)).size (.cells #[] 69)).grown hgr5 ((B0.alloc B0.size (.cells (pcell (at_, padB b)).toArray 69)).alloc (B0.alloc B0.size (.cells (pcell (at_, padB b)).toArray 69)).size (.cells #[] 69)).size (fun k hk => by have e : (w0.alloc (.cells (pcell (at_, padB b)).toArray 69)).heap.size = k := (by simpa [Value.ownBlock] using hk); have := (B0.alloc B0.size (.cells (pcell (at_, padB b)).toArray 69)).size; omega)
          refine ⟨hW0.ofB B5, ?_⟩
          simp only [Act.put, List.setIfInBounds_toArray, List.set_cons_zero, List.set_cons_succ]
          have hs8 := ((Src.of_blk (o := 0) (m := 1) (c := 1) (heap_alloc_new w0 (.cells (pcell (at_, padB b)).toArray 69)) (pcell (at_, padB b)) (by simp)).fresh (below_new _ (.cells #[] 69))).ext (Ext.grown (S := (· = (w0.alloc (.cells (pcell (at_, padB b)).toArray 69)).heap.size)) hgr5 (fun k hk => by simpa [Value.ownBlock] using hk.symm)) (fun _ k hk _ e => by
            have e1 : w0.heap.size = k := (by simpa [Value.ownBlock] using hk)
            simp only [World.size_alloc] at e e1
            omega)
          refine reg_one 9 (by kernel_rfl) rfl (by rfl) ?_
          refine wp_append w0.heap.size _ _ 63 (by rfl) 69 _ 65 72 Try.underlying63 info_P rfl (by decide) _ (0 + s.pend.length) ([] ++ pcells s.pend) (by rfl) how5 1 (pcell (at_, padB b)) _ (by rfl) hs8 (by rw [pcell_len, PLB.out]) (pcell_one _) (by unfold maxLen; omega) (by omega) B5.size ?_
          intro v6 W6 how6 hgr6 hat6
          have B6 := B5.grown hgr6 B5.size (fun k hk => (how5.lt k hk).1)
          refine ⟨hW0.ofB B6, ?_⟩
          simp only [Act.put, List.setIfInBounds_toArray, List.set_cons_zero, List.set_cons_succ]
          rw [Nat.zero_add] at how6
          obtain ⟨A6, c6, rfl⟩ := own_any how6
          have b6 := (R0.below B6 HS3.out).blk
          have c6' := b6.c1
          have f6' := b6.fz 1
          refine reg_take 10 (v := ?_) rfl (by kernel_rfl) (by rfl) ?_ (hW0.ofB B6) ?_; rotate_left; focus (intro w hw; go_simp; try with_reducible rfl)
          simp only [Act.put, List.setIfInBounds_toArray, List.set_cons_zero, List.set_cons_succ]
          refine reg_take 11 (v := ?_) rfl (by kernel_rfl) (by rfl) ?_ (hW0.ofB B6) ?_; rotate_left; focus (intro w hw; go_simp; try with_reducible rfl)
          simp only [Act.put, List.setIfInBounds_toArray, List.set_cons_zero, List.set_cons_succ]
          refine reg_store 12 (by kernel_rfl) rfl (by rfl) (w' := W6.setCell ⟨m, 1, none⟩ (.slice A6 (s.pend.length + 1) c6)) ?_ (hW6 _ B6) ?_; focus (go_simp; try with_reducible rfl)
          refine reg_done (by kernel_rfl) ?_
          go_wp2_with fail
          exact HPost.out _ _ ⟨rfl, FIN.out W6 _ B6 how6⟩
theorem rf_write (W : World) (S : Nat → Prop) (m : Nat) (s : DSt) (h : Rf W S m s) (at_ : Int) (x : Value) (n : Nat) (b : List Int) (hb : Src W x n (bcells b)) (hbn : b.length = n)
    (hbS : 0 < b.length → ∀ k, x.ownBlock = some k → ¬ S k) (hn : n ≤ 1000000) (hpl : s.pend.length < 1000000) :
    Calls Try.prog 33 #[.pointer (some ⟨m, 0, none⟩), .int .i64 at_, x] W fun e W' => e = .returned (.int .i64 (s.wrErr at_ n)) ∧ RfPost W S m (s.wr at_ b) W' := by
  obtain ⟨A0, cc, rfl, _⟩ := id hb
  by_cases hno : dchk s.on at_ s.n ≠ 0 ∨ 64 < n ∨ pfB s.ar s.lf = true
  · exact rf_write_no W S m s h at_ A0 n cc b hbn hn hno
  · have h1 : dchk s.on at_ s.n = 0 := Classical.byContradiction fun h => hno (.inl h)
    have h2 : n ≤ 64 := by omega
    have h3 : pfB s.ar s.lf = false := by
      cases hp : pfB s.ar s.lf
      · rfl
      · exact absurd (.inr (.inr hp)) hno
    obtain ⟨hon, h4, h5⟩ := dchk_zero h1
    obtain ⟨i, rfl⟩ := Int.eq_ofNat_of_zero_le h4
    have hw := wr_ok s i b hon (by omega) h5 (by omega) h3
    rw [hbn] at hw
    rw [hw.1, hw.2]
    exact rf_write_yes W S m s h i A0 n cc b hb hbn hbS h2 hon (by omega) h3 hpl
end Go.Proofs.Ytfnkbmjpiiabkaa
