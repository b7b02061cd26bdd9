/- DiskFails, the walk. -/
import Derived.Test.YtfnkbmjpiiabkaaFresh
set_option linter.unusedVariables false
set_option linter.unusedSimpArgs false
namespace Go.Proofs.Ytfnkbmjpiiabkaa
open Go.RowKit
/-- The disk behind i writes of the armed k. -/
structure FInv (k i : Nat) (s : DSt) : Prop where
  ok : s.Ok
  n : s.n = 8
  on : s.on = true
  ar : s.ar = true
  lf : s.lf = (k : Int) - i
  pend : s.pend.length = i
  z : (s.cur.drop 448).take 64 = List.replicate 64 0
theorem FInv.calm {k i : Nat} {s : DSt} (h : FInv k i s) (hi : i < k) : pfB s.ar s.lf = false := by
  unfold pfB; rw [h.ar, h.lf]; simp; omega
theorem FInv.step {k i : Nat} {s : DSt} (h : FInv k i s) (hi : i < k) (hk : k < 8) (b : List Int) (hb : b.length ≤ 64) : s.wr i b = s.wrote i b ∧ s.wrErr i b.length = 0 ∧ FInv k (i + 1) (s.wrote i b) := by
  have hc := h.calm hi
  have h1 := wr_ok s i b h.on (by omega) (by rw [h.n]; omega) hb hc
  have hp := padB_len b hb
  have hcl : s.cur.length = 512 := by rw [h.ok.cur, h.n]
  have hpw := pw_calm hc
  have hlf : s.pw.lf = (k : Int) - (i + 1) := by
    show pfLf s.ar s.lf = _
    unfold pfLf; rw [h.ar, h.lf]; simp; omega
  refine ⟨h1.1, h1.2, ⟨⟨h.ok.n0, h.ok.n1, h.ok.dur, ?_, ?_, ?_, ?_⟩, h.n, by rw [show (s.wrote i b).on = s.pw.on from rfl, hpw.1, h.on], by rw [show (s.wrote i b).ar = s.pw.ar from rfl, hpw.2, h.ar], hlf, ?_, ?_⟩⟩
  · show (splice s.cur (i * 64) (padB b)).length = s.n * 64
    rw [spl_len _ _ _ (by rw [hp, hcl]; omega), h.ok.cur]
  · intro p hp'
    simp only [DSt.wrote, List.mem_append, List.mem_singleton] at hp'
    rcases hp' with hp' | rfl
    · exact h.ok.pend p hp'
    · exact ⟨by show i < s.n; rw [h.n]; omega, hp⟩
  · show 0 ≤ s.pw.lf; rw [hlf]; omega
  · show s.pw.lf ≤ _; rw [hlf]; omega
  · show (s.pend ++ [_]).length = i + 1
    rw [List.length_append, h.pend]; rfl
  · show ((splice s.cur (i * 64) (padB b)).drop 448).take 64 = _
    rw [splice_far _ _ _ (by rw [hp, hcl]; omega) 448 64 (by rw [hp]; omega), h.z]
theorem fails_start (k : Nat) (hk : k < 8) (x : DSt) (hx : x = { DSt.new 8 with ar := decide (0 ≤ (k : Int)), lf := max (k : Int) 0 }) : FInv k 0 x := by
  have h : max (k : Int) 0 = k := by omega
  have hn := new_ok 8 (by decide) (by decide)
  have h1 : x.n = 8 := by rw [hx]; rfl
  have h2 : x.dur = (DSt.new 8).dur := by rw [hx]
  have h3 : x.cur = (DSt.new 8).cur := by rw [hx]
  have h4 : x.pend = [] := by rw [hx]; rfl
  have h5 : x.on = true := by rw [hx]; rfl
  have h6 : x.ar = true := by rw [hx]; simp
  have h7 : x.lf = k := by rw [hx]; exact h
  clear hx
  refine ⟨⟨by omega, by omega, by rw [h2, h1]; exact hn.dur, by rw [h3, h1]; exact hn.cur, by rw [h4]; simp, by omega, by omega⟩, h1, h5, h6, by omega, by rw [h4]; rfl, ?_⟩
  rw [h3]
  show ((List.replicate (8 * 64) (0 : Int)).drop 448).take 64 = _
  rw [List.drop_replicate, List.take_replicate]; rfl
theorem FInv.range {k i : Nat} {s : DSt} (h : FInv k i s) (b : List Int) (n : Nat) : s.wr 99 b = s ∧ s.wrErr 99 n = 6 := by
  have hd : dchk s.on 99 s.n = 6 := by unfold dchk; rw [h.on, h.n]; rfl
  unfold DSt.wr DSt.wrErr
  rw [if_pos (by rw [hd]; decide), if_pos (by rw [hd]; decide), hd]
  exact ⟨rfl, rfl⟩
/-- The next write: the power goes off. -/
def DSt.off (s : DSt) : DSt := { s with on := false, ar := false }
theorem FInv.strike {k : Nat} {s : DSt} (h : FInv k k s) (b : List Int) (hb : b.length ≤ 64) : s.wr 7 b = s.off ∧ s.wrErr 7 b.length = 10 := by
  have hd : dchk s.on 7 s.n = 0 := by unfold dchk; rw [h.on, h.n]; rfl
  have hp : pfB s.ar s.lf = true := by unfold pfB; rw [h.ar, h.lf]; simp
  unfold DSt.wr DSt.wrErr
  rw [if_neg (by rw [hd]; decide), if_neg (by omega), if_pos hp, if_neg (by rw [hd]; decide), if_neg (by omega), if_pos hp]
  refine ⟨?_, rfl⟩
  have hl : pfLf s.ar s.lf = s.lf := by unfold pfLf; rw [h.ar, h.lf]; simp
  unfold DSt.pw DSt.off pfOn pfAr
  rw [if_pos hp, if_pos hp, hl]
def klost : List Int := [108, 111, 115, 116]
theorem i8_and7 (n : Int) (h0 : 0 ≤ n) (h1 : n ≤ 255) : ∃ k : Nat, bits .and .u8 n 7 = (k : Int) ∧ k < 8 := by
  refine ⟨n.toNat &&& 7, u8_and n 7 h0 (by omega) (by decide) (by decide), ?_⟩
  have := Nat.and_two_pow_sub_one_eq_mod n.toNat 3
  simp only [Nat.reducePow, Nat.reduceSub] at this
  rw [this]; omega
/-- On again. -/
theorem FInv.back {k : Nat} {s : DSt} (h : FInv k k s) (x : DSt) (hx : x = { s.off with on := true, ar := false }) : x.rd 7 = List.replicate 64 0 ∧ x.rdErr 7 = 0 ∧ x.pend.length = k ∧ x.flErr = 0 := by
  subst hx
  have hd : dchk true 7 s.n = 0 := by unfold dchk; rw [h.n]; rfl
  refine ⟨?_, hd, h.pend, rfl⟩
  show (if dchk true 7 s.n = 0 then (s.cur.drop 448).take 64 else []) = _
  rw [if_pos hd]
  exact h.z
theorem FInv.last {k : Nat} {s : DSt} (h : FInv k k s) (x : DSt) (hx : x = { s.off with on := true, ar := false }) (b : List Int) (hb : b.length ≤ 64) : x.wrErr 7 b.length = 0 ∧ (x.wr 7 b).pend.length ≤ k + 1 ∧ (x.wr 7 b).flErr = 0 := by
  have hpf : pfB x.ar x.lf = false := by subst hx; rfl
  have hon : x.on = true := by subst hx; rfl
  have hn : x.n = 8 := by subst hx; exact h.n
  have hp : x.pend.length = k := by subst hx; exact h.pend
  have hw := wr_ok x 7 b hon (by decide) (by rw [hn]; decide) hb hpf
  refine ⟨hw.2, ?_, ?_⟩
  · rw [hw.1]; show (x.pend ++ [_]).length ≤ k + 1; rw [List.length_append, hp]; simp
  · rw [hw.1]
    have h1 := pw_calm hpf
    have : (x.wrote (7 : Int).toNat b).on = true := by rw [show (x.wrote (7 : Int).toNat b).on = x.pw.on from rfl, h1.1, hon]
    have h3 : (x.wrote (7 : Int).toNat b).ar = false := by rw [show (x.wrote (7 : Int).toNat b).ar = x.pw.ar from rfl, h1.2]; subst hx; rfl
    unfold DSt.flErr
    rw [if_neg]
    rw [this, h3]; simp [pfB]
/-- What came in lies apart from what was made since. -/
theorem src_dis {W : World} {x : Value} {n : Nat} {l : List Int} (h : Src W x n (bcells l)) {T : Nat → Prop} (hT : ∀ i, T i → W.heap.size ≤ i) (hp : 0 < l.length) (i : Nat) (hi : x.ownBlock = some i) : ¬ T i := by
  intro hTi
  obtain ⟨A', c', rfl, hr⟩ := h
  obtain ⟨ad, rfl, hc⟩ := hr (by rw [bcells_len]; exact hp)
  have h0 := hc 0 _ (List.getElem?_eq_getElem (by rw [bcells_len]; exact hp))
  have h1 := World.block_lt_of_cell? W _ h0
  have e : ad.block = i := by simpa [Value.ownBlock] using hi
  have e2 : (ad.add 0).block = ad.block := by unfold Addr.add; split <;> rfl
  have := hT i hTi
  omega
attribute [local go_sem ↓] Go.wp_at_zero Go.wp_at_succ
set_option maxHeartbeats 2000000 in
theorem fails_ok (W : World) (A : Option Addr) (n c : Nat) (l : List Int) (y : Int) (hy0 : 0 ≤ y) (hy1 : y ≤ 255) (hsrc : Src W (.slice A n c) n (bcells l)) (hl : l.length = n) (hn2 : n ≤ 64) :
    Calls Try.prog 8 #[.int .u8 y, .slice A n c] W fun e W' => e = .returned (.bool true) ∧ Below W.heap.size W W' := by
  obtain ⟨k, hand, hk⟩ := i8_and7 y hy0 hy1
  have hn4 : (n : Int) ≤ 64 := by omega
  have HL := Lib.hid hl
  have hcb := fun (w : World) (C : Array Value) (n c : Nat) => Lib.run_convert_bytes_const (P := Try.prog) w 27 5 C n c Try.underlying27 Try.underlying5
  clear hl
  refine calls_hide fun P HPost => ?_
  go_enter Try.func8, Try.ntmps8
  go_wp2_with (first
    | (go_at_call 9; (with_reducible refine (dk_new _ 8 8 rfl (by decide) (by decide)).mono ?_); rintro e W1 ⟨g, S, rfl, D1, hS1, hB1⟩))
  refine (dk_failAfter D1 k (by omega)).mono ?_
  rintro e W2 ⟨rfl, S2, D2, hS2, hE2⟩
  have z1 := hB1.size
  have z2 := hE2.size
  have B2 : Below W.heap.size W W2 := below_ext hB1 (by omega) hE2 hS1
  have o2 := own_from hS2 hS1 z1
  obtain ⟨s0, hs0⟩ : ∃ s0, s0 = ({ DSt.new 8 with ar := decide (0 ≤ (k : Int)), lf := max (k : Int) 0 } : DSt) := ⟨_, rfl⟩
  have hF0 := fails_start k hk s0 hs0
  rw [← hs0] at D2
  have L0 : ∃ s Sw, Dk W2 Sw g s ∧ FInv k 0 s ∧ (∀ j, Sw j → W.heap.size ≤ j) ∧ Below W.heap.size W W2 := ⟨s0, S2, D2, hF0, o2, B2⟩
  clear hs0 hF0 D2 D1 hE2 hB1 B2 hS1 hS2 o2
  go_wp2_with fail
  go_loopw [8] (fun i wr => ∃ j : Nat, j ≤ k ∧ i = .int .i64 j ∧ ∃ s Sw, Dk wr Sw g s ∧ FInv k j s ∧ (∀ j, Sw j → W.heap.size ≤ j) ∧ Below W.heap.size W wr) (fun i _ => k - (intOf i).toNat)
  case atStart => exact ⟨0, Nat.zero_le _, rfl, L0⟩
  case round =>
    obtain ⟨j, hj, rfl, s, Sw, hD, hF, hSw, hB⟩ := hrel
    clear L0
    by_cases hlt : j < k
    · have hst := hF.step hlt hk l (by rw [HL.out]; exact hn2)
      rw [HL.out] at hst
      have hsw : Src wr (.slice A n c) n (bcells l) := hsrc.ext (Ext.of_below hB) (fun _ i _ h1 h2 => by omega)
      have hdis : ∀ (T : Nat → Prop), (∀ i, T i → W.heap.size ≤ i) → 0 < l.length → ∀ i, (Value.slice A n c).ownBlock = some i → ¬ T i := fun T hT => src_dis hsrc hT
      have hw1 := dk_write hD j (.slice A n c) n l hsw HL.out (hdis _ hSw) (by omega) (by rw [hF.pend]; omega)
      rw [hst.1, hst.2.1] at hw1
      have zk := hB.size
      have HST := Lib.hid hst
      have HDIS := Lib.hid hdis
      clear hst hdis
      go_wp2_with (go_at_call 14; (with_reducible refine hw1.mono ?_); rintro e W5 ⟨rfl, S5, D5, hS5, hE5⟩)
      have o5 := own_from hS5 hSw zk
      have B5 := below_ext hB (by omega) hE5 hSw
      have hF5 := HST.out.2.2
      have hw2 := dk_write D5 99 (.slice A n c) n l (hsw.ext hE5 (fun hp i hi _ => HDIS.out _ hSw (by rw [bcells_len] at hp; exact hp) i hi)) HL.out (HDIS.out _ o5) (by omega) (by rw [hF5.pend]; omega)
      rw [(hF5.range l n).1, (hF5.range l n).2] at hw2
      (with_reducible refine hw2.mono ?_)
      rintro e W6 ⟨rfl, S6, D6, hS6, hE6⟩
      have z5 := hE5.size
      have o6 := own_from hS6 o5 (by omega)
      have B6 := below_ext B5 (by omega) hE6 o5
      clear hw1 hw2
      go_wp2_with fail
      go_roundw
      case rel => exact ⟨j + 1, by omega, by go_num, _, S6, D6, hF5, o6, B6⟩
      case measure => simp [intOf]; omega
    · obtain rfl : j = k := by omega
      clear hlt hj
      have zk := hB.size
      have hstr := hF.strike klost (by decide)
      have hplost : s.pend.length < 1000000 := by rw [hF.pend]; omega
      have HSTR := Lib.hid hstr
      clear hstr
      go_wp2_with fail
      refine (dk_write_new hD 7 klost 4 (4, 5) _ rfl rfl 10 HSTR.out.2 (by decide) hplost).mono ?_
      rintro e W3 ⟨rfl, S3, D3, hS3, hE3⟩
      rw [HSTR.out.1] at D3
      have z3 := hE3.size
      have o3 := own_from hS3 hSw zk
      have B3 := below_ext hB zk hE3 hSw
      have ho3 := dk_online D3
      rw [show s.off.on = false from rfl] at ho3
      have hp3 := dk_pending D3
      rw [show s.off.pend.length = j from hF.pend] at hp3
      have hf3 := dk_flush D3 (by show s.pend.length < 1000000; rw [hF.pend]; omega)
      rw [show s.off.flErr = 10 from by simp [DSt.flErr, DSt.off], show s.off.fl = s.off from by simp [DSt.fl, DSt.off]] at hf3
      have FB3 := Lib.hid B3
      clear hplost B3 hB
      go_wp2_with (first
        | (go_at_call 24; (with_reducible refine ho3.mono ?_); rintro e w' ⟨rfl, rfl⟩)
        | (go_at_call 19; (with_reducible refine hp3.mono ?_); rintro e w' ⟨rfl, rfl⟩)
        | (go_at_call 16; (with_reducible refine hf3.mono ?_); rintro e W4 ⟨rfl, S4, D4, hS4, hE4⟩))
      refine (dk_powerOn D4).mono ?_
      rintro e W5 ⟨rfl, S5, D5, hS5, hE5⟩
      obtain ⟨x, hx⟩ : ∃ x, x = ({ s.off with on := true, ar := false } : DSt) := ⟨_, rfl⟩
      rw [← hx] at D5
      have hbk := hF.back x hx
      have hlast := hF.last x hx l (by rw [HL.out]; exact hn2)
      rw [HL.out] at hlast
      clear hx ho3 hp3 hf3
      have HLAST := Lib.hid hlast
      have hr5 := dk_read D5 7
      rw [hbk.1, hbk.2.1] at hr5
      have HBK := Lib.hid hbk
      clear hlast hbk
      go_wp2_with fail
      (with_reducible refine hr5.mono ?_)
      rintro e W8 ⟨v8, rfl, how8, hB8⟩
      rw [List.length_replicate] at how8
      obtain ⟨q8, cap8, rfl, hq81, hq82, hq83, hq84⟩ := own_form' how8 (by decide)
      have z4 := hE4.size
      have z5 := hE5.size
      have z8 := hB8.size
      have o4 := own_from hS4 o3 (by omega)
      have o5 := own_from hS5 o4 (by omega)
      have B8 : Below W.heap.size W W8 := (below_ext (below_ext FB3.out (by omega) hE4 o3) (by omega) hE5 o4).trans (hB8.mono (by omega))
      have hs8 : Src W8 (.slice (some ⟨q8, 0, none⟩) 64 cap8) 64 (bcells zL) := own_src how8
      have D8 := ((D5.below hB8).drew).below (below_new W8.drew (.cells z64A 5))
      have hq8S : ¬ S5 q8 := fun h => by have := D5.lt _ h; omega
      obtain ⟨z, hz⟩ : ∃ z : Int, z = j := ⟨_, rfl⟩
      have hp8 := dk_pending D8
      rw [HBK.out.2.2.1, ← hz] at hp8
      have hzb : (z == (j : Int)) = true := by rw [hz]; simp
      clear hz
      have hsl : Src (W8.drew.alloc (.cells z64A 5)) (.slice A n c) n (bcells l) := (hsrc.ext (S := fun k => W.heap.size ≤ k) (w' := W8.drew) (Ext.of_below B8.drew) (fun _ k _ h1 h2 => by omega)).fresh (below_new _ _)
      have hw8 := dk_write D8 7 (.slice A n c) n l hsl HL.out (src_dis hsrc o5) (by omega) (by rw [HBK.out.2.2.1]; omega)
      rw [HLAST.out.1] at hw8
      have hcv := conv_z
      have FB8 := Lib.hid B8
      clear B8 hr5 how8 hB8
      go_wp2_with fail
      refine reg_start (fun w' => Src w' (.slice (some ⟨q8, 0, none⟩) 64 cap8) 64 (bcells zL)) (by kernel_rfl) ?_
      have hS : Src W8.drew (.slice (some ⟨q8, 0, none⟩) 64 cap8) 64 (bcells zL) := hs8
      refine reg_take 0 (v := ?_) rfl (by kernel_rfl) (by rfl) ?_ hS ?_; rotate_left; focus (intro w hw; go_simp; try with_reducible rfl)
      simp only [Act.put, List.setIfInBounds_toArray, List.set_cons_zero, List.set_cons_succ]
      refine reg_take 1 (v := ?_) rfl (by kernel_rfl) (by rfl) ?_ hS ?_; rotate_left; focus (intro w hw; go_simp; try with_reducible rfl)
      simp only [Act.put, List.setIfInBounds_toArray, List.set_cons_zero, List.set_cons_succ]
      refine reg_take 2 (v := ?_) rfl (by kernel_rfl) (by rfl) ?_ hS ?_; rotate_left; focus (intro w hw; go_simp; try with_reducible rfl)
      simp only [Act.put, List.setIfInBounds_toArray, List.set_cons_zero, List.set_cons_succ]
      refine reg_take 3 (v := ?_) rfl (by kernel_rfl) (by rfl) ?_ hS ?_; rotate_left; focus (intro w hw; go_simp; try with_reducible rfl)
      simp only [Act.put, List.setIfInBounds_toArray, List.set_cons_zero, List.set_cons_succ]
      refine reg_take 4 (v := ?_) rfl (by kernel_rfl) (by rfl) ?_ hS ?_; rotate_left; focus (intro w hw; go_simp; try with_reducible rfl)
      simp only [Act.put, List.setIfInBounds_toArray, List.set_cons_zero, List.set_cons_succ]
      refine reg_run 5 (by kernel_rfl) rfl (by rfl) (run_make64 (by rfl) (by rfl) (by rfl)) (hS.fresh (below_new _ _)) ?_
      replace hS := hS.fresh (below_new _ (.cells z64A 5))
      simp only [Act.put, List.setIfInBounds_toArray, List.set_cons_zero, List.set_cons_succ]
      refine reg_run 6 (by kernel_rfl) rfl (by rfl) (run_conv64 (w0 := W8.drew) (by rfl) (by rfl) rfl) hS ?_
      simp only [Act.put, List.setIfInBounds_toArray, List.set_cons_zero, List.set_cons_succ]
      refine reg_take 7 (v := ?_) rfl (by kernel_rfl) (by rfl) ?_ hS ?_; rotate_left; focus (intro w hw; go_simp; try with_reducible rfl)
      simp only [Act.put, List.setIfInBounds_toArray, List.set_cons_zero, List.set_cons_succ]
      refine reg_take 8 (v := ?_) rfl (by kernel_rfl) (by rfl) ?_ hS ?_; rotate_left; focus (intro w hw; go_simp; try with_reducible rfl)
      simp only [Act.put, List.setIfInBounds_toArray, List.set_cons_zero, List.set_cons_succ]
      refine reg_take 9 (v := ?_) rfl (by kernel_rfl) (by rfl) ?_ hS ?_; rotate_left; focus (intro w hw; go_simp; try with_reducible rfl)
      simp only [Act.put, List.setIfInBounds_toArray, List.set_cons_zero, List.set_cons_succ]
      refine reg_take 10 (v := ?_) rfl (by kernel_rfl) (by rfl) ?_ hS ?_; rotate_left; focus (intro w hw; go_simp; try with_reducible rfl)
      simp only [Act.put, List.setIfInBounds_toArray, List.set_cons_zero, List.set_cons_succ]
      refine reg_take 12 (v := ?_) rfl (by kernel_rfl) (by rfl) ?_ hS ?_; rotate_left; focus (intro w hw; go_simp; try with_reducible rfl)
      simp only [Act.put, List.setIfInBounds_toArray, List.set_cons_zero, List.set_cons_succ]
      refine reg_call 11 (by kernel_rfl) rfl (by rfl) ?_ (hp8.mono ?_); focus go_simp
      rintro e w' ⟨rfl, rfl⟩
      refine ⟨_, rfl, hS, ?_⟩
      simp only [Act.put, List.setIfInBounds_toArray, List.set_cons_zero, List.set_cons_succ]
      refine reg_take 13 (v := ?_) rfl (by kernel_rfl) (by rfl) ?_ hS ?_; rotate_left; focus (intro w hw; go_simp; try with_reducible rfl)
      simp only [Act.put, List.setIfInBounds_toArray, List.set_cons_zero, List.set_cons_succ]
      refine reg_take 14 (v := ?_) rfl (by kernel_rfl) (by rfl) ?_ hS ?_; rotate_left; focus (intro w hw; go_simp; try with_reducible rfl)
      simp only [Act.put, List.setIfInBounds_toArray, List.set_cons_zero, List.set_cons_succ]
      refine reg_take 15 (v := ?_) rfl (by kernel_rfl) (by rfl) ?_ hS ?_; rotate_left; focus (intro w hw; go_simp; try with_reducible rfl)
      simp only [Act.put, List.setIfInBounds_toArray, List.set_cons_zero, List.set_cons_succ]
      refine reg_take 16 (v := ?_) rfl (by kernel_rfl) (by rfl) ?_ hS ?_; rotate_left; focus (intro w hw; go_simp; try with_reducible rfl)
      simp only [Act.put, List.setIfInBounds_toArray, List.set_cons_zero, List.set_cons_succ]
      refine reg_take 17 (v := ?_) rfl (by kernel_rfl) (by rfl) ?_ hS ?_; rotate_left; focus (intro w hw; go_simp; try with_reducible rfl)
      simp only [Act.put, List.setIfInBounds_toArray, List.set_cons_zero, List.set_cons_succ]
      refine reg_call 18 (by kernel_rfl) rfl (by rfl) ?_ (hw8.mono ?_); focus go_simp
      rintro e W10 ⟨rfl, S10, D10, hS10, hE10⟩
      refine ⟨_, rfl, (hS.ext hE10 (fun _ k hk _ => own_ne hq8S k hk)), ?_⟩
      replace hS := hS.ext hE10 (fun _ k hk _ => own_ne hq8S k hk)
      have hf10 := dk_flush D10 (by have := HLAST.out.2.1; omega)
      rw [HLAST.out.2.2] at hf10
      have hq8U : ¬ S10 q8 := fun h => (hS10 q8 h).elim hq8S (fun h => Nat.lt_irrefl _ (Nat.lt_of_lt_of_le (Nat.lt_of_lt_of_le hq84 (below_new W8.drew (.cells z64A 5)).size) h))
      simp only [Act.put, List.setIfInBounds_toArray, List.set_cons_zero, List.set_cons_succ]
      refine reg_take 19 (v := ?_) rfl (by kernel_rfl) (by rfl) ?_ hS ?_; rotate_left; focus (intro w hw; go_simp; try with_reducible rfl)
      simp only [Act.put, List.setIfInBounds_toArray, List.set_cons_zero, List.set_cons_succ]
      refine reg_take 20 (v := ?_) rfl (by kernel_rfl) (by rfl) ?_ hS ?_; rotate_left; focus (intro w hw; go_simp; try with_reducible rfl)
      simp only [Act.put, List.setIfInBounds_toArray, List.set_cons_zero, List.set_cons_succ]
      refine reg_take 21 (v := ?_) rfl (by kernel_rfl) (by rfl) ?_ hS ?_; rotate_left; focus (intro w hw; go_simp; try with_reducible rfl)
      simp only [Act.put, List.setIfInBounds_toArray, List.set_cons_zero, List.set_cons_succ]
      refine reg_take 22 (v := ?_) rfl (by kernel_rfl) (by rfl) ?_ hS ?_; rotate_left; focus (intro w hw; go_simp; try with_reducible rfl)
      simp only [Act.put, List.setIfInBounds_toArray, List.set_cons_zero, List.set_cons_succ]
      refine reg_call 23 (by kernel_rfl) rfl (by rfl) ?_ (hf10.mono ?_); focus go_simp
      rintro e W11 ⟨rfl, S11, D11, hS11, hE11⟩
      refine ⟨_, rfl, (hS.ext hE11 (fun _ k hk _ => own_ne hq8U k hk)), ?_⟩
      replace hS := hS.ext hE11 (fun _ k hk _ => own_ne hq8U k hk)
      simp only [Act.put, List.setIfInBounds_toArray, List.set_cons_zero, List.set_cons_succ]
      refine reg_take 24 (v := ?_) rfl (by kernel_rfl) (by rfl) ?_ hS ?_; rotate_left; focus (intro w hw; go_simp; try with_reducible rfl)
      simp only [Act.put, List.setIfInBounds_toArray, List.set_cons_zero, List.set_cons_succ]
      refine reg_take 25 (v := ?_) rfl (by kernel_rfl) (by rfl) ?_ hS ?_; rotate_left; focus (intro w hw; go_simp; try with_reducible rfl)
      simp only [Act.put, List.setIfInBounds_toArray, List.set_cons_zero, List.set_cons_succ]
      refine reg_take 26 (v := ?_) rfl (by kernel_rfl) (by rfl) ?_ hS ?_; rotate_left; focus (intro w hw; go_simp; try with_reducible rfl)
      simp only [Act.put, List.setIfInBounds_toArray, List.set_cons_zero, List.set_cons_succ]
      refine reg_call 27 (by kernel_rfl) rfl (by rfl) ?_ ((known_calls _).mono ?_); focus go_simp
      rintro e W12 ⟨rfl, hB12⟩
      refine ⟨_, rfl, (hS.fresh hB12), ?_⟩
      replace hS := hS.fresh hB12
      simp only [Act.put, List.setIfInBounds_toArray, List.set_cons_zero, List.set_cons_succ]
      refine reg_take 28 (v := ?_) rfl (by kernel_rfl) (by rfl) ?_ hS ?_; rotate_left; focus (intro w hw; go_simp; try with_reducible rfl)
      simp only [Act.put, List.setIfInBounds_toArray, List.set_cons_zero, List.set_cons_succ]
      refine reg_take 29 (v := ?_) rfl (by kernel_rfl) (by rfl) ?_ hS ?_; rotate_left; focus (intro w hw; go_simp; try with_reducible rfl)
      simp only [Act.put, List.setIfInBounds_toArray, List.set_cons_zero, List.set_cons_succ]
      refine reg_done (by kernel_rfl) ?_
      go_wp2_with fail
      refine HPost.out _ _ ⟨rfl, ?_⟩
      have y1 : (W8.drew.alloc (.cells z64A 5)).heap.size = W8.heap.size + 1 := by rw [World.size_alloc]; rfl
      have y2 := hE10.size
      have y3 := hE11.size
      exact (below_ext (below_ext (FB8.out.drew.trans ((below_new W8.drew (.cells z64A 5)).mono (by show W.heap.size ≤ W8.heap.size; omega))) (by omega) hE10 o5) (by omega) hE11 (own_from hS10 o5 (by omega))).trans (hB12.mono (by omega))
set_option maxHeartbeats 400000 in
theorem fails_walk (W : World) (A : Option Addr) (n c : Nat) (l : List Int) (y : Int) (hy0 : 0 ≤ y) (hy1 : y ≤ 255) (hsrc : Src W (.slice A n c) n (bcells l)) (hl : l.length = n) (hm : n ≤ maxLen) :
    Calls Try.prog 8 #[.int .u8 y, .slice A n c] W fun e W' => e = .returned (.bool true) ∧ Below W.heap.size W W' := by
  by_cases h : n ≤ 64
  · exact fails_ok W A n c l y hy0 hy1 hsrc hl h
  · unfold maxLen at hm
    have h2 : decide ((64 : Int) < (n : Int)) = true := by simp; omega
    clear h hl
    refine calls_hide fun P HPost => ?_
    go_enter Try.func8, Try.ntmps8
    go_wp2_with fail
    exact HPost.out _ _ ⟨rfl, Below.refl _ _⟩
end Go.Proofs.Ytfnkbmjpiiabkaa
