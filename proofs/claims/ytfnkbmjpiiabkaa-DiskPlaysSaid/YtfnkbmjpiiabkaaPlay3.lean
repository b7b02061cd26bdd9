/- agree. -/
import Derived.Test.YtfnkbmjpiiabkaaPlay2
set_option linter.unusedVariables false
set_option linter.unusedSimpArgs false
namespace Go.Proofs.Ytfnkbmjpiiabkaa
open Go.RowKit
attribute [local go_sem ↓] Go.wp_at_zero Go.wp_at_succ
structure RegG (m : Nat) (A B : Option Addr) (c cb np : Nat) (on : Bool) (w : World) : Prop where
  r0 : w.cell? ⟨m, 0, none⟩ = some (.slice A 4 c)
  r1 : w.cell? ⟨m, 1, none⟩ = some (.slice B np cb)
  r2 : w.cell? ⟨m, 2, none⟩ = some (.bool (!on))
theorem RegG.drew {m : Nat} {A B : Option Addr} {c cb np : Nat} {on : Bool} {w : World} (h : RegG m A B c cb np on w) : RegG m A B c cb np on w.drew := ⟨h.r0, h.r1, h.r2⟩
theorem P2.regG {W wr : World} {g m i : Nat} {s : DSt} {Sd Sm : Nat → Prop} (h : P2 W g m i s Sd Sm wr) : ∃ A B c cb, RegG m A B c cb s.pend.length s.on wr := by
  obtain ⟨⟨vd, vp, hr⟩, _⟩ := h.rr
  obtain ⟨A, c, hv⟩ := own_any hr.dur
  obtain ⟨B, cb, hv2⟩ := own_any hr.pend
  rw [h.n4] at hv
  exact ⟨A, B, c, cb, ⟨hv ▸ hr.blk.c0, hv2 ▸ hr.blk.c1, hr.blk.c2⟩⟩
def AgreePost (W : World) (g m i : Nat) (s : DSt) (Sd Sm : Nat → Prop) (e : Ending) (W' : World) : Prop := e = .returned (.bool true) ∧ P2 W g m i s Sd Sm W'
set_option maxHeartbeats 2000000 in
theorem agree_calls (W wr : World) (g m i : Nat) (s : DSt) (Sd Sm : Nat → Prop) (h : P2 W g m i s Sd Sm wr) (hi : i ≤ 1000) :
    Calls Try.prog 22 #[.pointer (some ⟨g, 0, none⟩), .pointer (some ⟨m, 0, none⟩)] wr (AgreePost W g m i s Sd Sm) := by
  have hpl := h.pl
  obtain ⟨A, B, c, cb, hG⟩ := h.regG
  have hz1 := dk_size h.dd.drew
  rw [h.n4, show ((4 : Nat) : Int) = 4 from rfl] at hz1
  have hz2 := dk_online h.dd.drew
  have hz3 := dk_pending h.dd.drew
  have HG := Lib.hid hG
  have L0 := h.drew
  refine calls_hide fun P HPost => ?_
  have hS := hG.drew
  obtain ⟨on, hon⟩ : ∃ on, s.on = on := ⟨_, rfl⟩
  obtain ⟨np, hnp⟩ : ∃ np, s.pend.length = np := ⟨_, rfl⟩
  rw [hon] at hz2 hS
  rw [hnp] at hz3 hS hpl
  clear hG h
  go_enter Try.func22, Try.ntmps22
  go_wp2_with fail
  · refine reg_start (RegG m A B c cb np on) (by kernel_rfl) ?_
    clear hon hnp
    refine reg_take 0 (v := ?_) rfl (by kernel_rfl) (by rfl) ?_ hS ?_; rotate_left; focus (intro w hw; obtain ⟨r0, r1, r2⟩ := hw; go_simp; try with_reducible rfl)
    simp only [Act.put, List.setIfInBounds_toArray, List.set_cons_zero, List.set_cons_succ]
    refine reg_take 2 (v := ?_) rfl (by kernel_rfl) (by rfl) ?_ hS ?_; rotate_left; focus (intro w hw; obtain ⟨r0, r1, r2⟩ := hw; go_simp; try with_reducible rfl)
    simp only [Act.put, List.setIfInBounds_toArray, List.set_cons_zero, List.set_cons_succ]
    refine reg_take 3 (v := ?_) rfl (by kernel_rfl) (by rfl) ?_ hS ?_; rotate_left; focus (intro w hw; obtain ⟨r0, r1, r2⟩ := hw; go_simp; try with_reducible rfl)
    simp only [Act.put, List.setIfInBounds_toArray, List.set_cons_zero, List.set_cons_succ]
    refine reg_take 4 (v := ?_) rfl (by kernel_rfl) (by rfl) ?_ hS ?_; rotate_left; focus (intro w hw; obtain ⟨r0, r1, r2⟩ := hw; go_simp; try with_reducible rfl)
    simp only [Act.put, List.setIfInBounds_toArray, List.set_cons_zero, List.set_cons_succ]
    refine reg_take 5 (v := ?_) rfl (by kernel_rfl) (by rfl) ?_ hS ?_; rotate_left; focus (intro w hw; obtain ⟨r0, r1, r2⟩ := hw; go_simp; try with_reducible rfl)
    simp only [Act.put, List.setIfInBounds_toArray, List.set_cons_zero, List.set_cons_succ]
    refine reg_take 6 (v := ?_) rfl (by kernel_rfl) (by rfl) ?_ hS ?_; rotate_left; focus (intro w hw; obtain ⟨r0, r1, r2⟩ := hw; go_simp; try with_reducible rfl)
    simp only [Act.put, List.setIfInBounds_toArray, List.set_cons_zero, List.set_cons_succ]
    refine reg_call 1 (by kernel_rfl) rfl (by rfl) ?_ (hz1.mono ?_); focus go_simp
    rintro e w' ⟨rfl, rfl⟩
    refine ⟨_, rfl, hS, ?_⟩
    simp only [Act.put, List.setIfInBounds_toArray, List.set_cons_zero, List.set_cons_succ]
    refine reg_take 7 (v := ?_) rfl (by kernel_rfl) (by rfl) ?_ hS ?_; rotate_left; focus (intro w hw; obtain ⟨r0, r1, r2⟩ := hw; go_simp; try with_reducible rfl)
    simp only [Act.put, List.setIfInBounds_toArray, List.set_cons_zero, List.set_cons_succ]
    refine reg_take 8 (v := ?_) rfl (by kernel_rfl) (by rfl) ?_ hS ?_; rotate_left; focus (intro w hw; obtain ⟨r0, r1, r2⟩ := hw; go_simp; try with_reducible rfl)
    simp only [Act.put, List.setIfInBounds_toArray, List.set_cons_zero, List.set_cons_succ]
    refine reg_take 9 (v := ?_) rfl (by kernel_rfl) (by rfl) ?_ hS ?_; rotate_left; focus (intro w hw; obtain ⟨r0, r1, r2⟩ := hw; go_simp; try with_reducible rfl)
    simp only [Act.put, List.setIfInBounds_toArray, List.set_cons_zero, List.set_cons_succ]
    refine reg_take 11 (v := ?_) rfl (by kernel_rfl) (by rfl) ?_ hS ?_; rotate_left; focus (intro w hw; obtain ⟨r0, r1, r2⟩ := hw; go_simp; try with_reducible rfl)
    simp only [Act.put, List.setIfInBounds_toArray, List.set_cons_zero, List.set_cons_succ]
    refine reg_take 12 (v := ?_) rfl (by kernel_rfl) (by rfl) ?_ hS ?_; rotate_left; focus (intro w hw; obtain ⟨r0, r1, r2⟩ := hw; go_simp; try with_reducible rfl)
    simp only [Act.put, List.setIfInBounds_toArray, List.set_cons_zero, List.set_cons_succ]
    refine reg_take 13 (v := ?_) rfl (by kernel_rfl) (by rfl) ?_ hS ?_; rotate_left; focus (intro w hw; obtain ⟨r0, r1, r2⟩ := hw; go_simp; try with_reducible rfl)
    simp only [Act.put, List.setIfInBounds_toArray, List.set_cons_zero, List.set_cons_succ]
    refine reg_take 14 (v := ?_) rfl (by kernel_rfl) (by rfl) ?_ hS ?_; rotate_left; focus (intro w hw; obtain ⟨r0, r1, r2⟩ := hw; go_simp; try with_reducible rfl)
    simp only [Act.put, List.setIfInBounds_toArray, List.set_cons_zero, List.set_cons_succ]
    refine reg_call 10 (by kernel_rfl) rfl (by rfl) ?_ (hz2.mono ?_); focus go_simp
    rintro e w' ⟨rfl, rfl⟩
    refine ⟨_, rfl, hS, ?_⟩
    simp only [Act.put, List.setIfInBounds_toArray, List.set_cons_zero, List.set_cons_succ]
    refine reg_take 15 (v := .bool false) rfl (by kernel_rfl) (by rfl) ?_ hS ?_; focus (intro w hw; cases on <;> (go_simp; try with_reducible rfl))
    simp only [Act.put, List.setIfInBounds_toArray, List.set_cons_zero, List.set_cons_succ]
    refine reg_take 16 (v := ?_) rfl (by kernel_rfl) (by rfl) ?_ hS ?_; rotate_left; focus (intro w hw; obtain ⟨r0, r1, r2⟩ := hw; go_simp; try with_reducible rfl)
    simp only [Act.put, List.setIfInBounds_toArray, List.set_cons_zero, List.set_cons_succ]
    refine reg_take 17 (v := ?_) rfl (by kernel_rfl) (by rfl) ?_ hS ?_; rotate_left; focus (intro w hw; obtain ⟨r0, r1, r2⟩ := hw; go_simp; try with_reducible rfl)
    simp only [Act.put, List.setIfInBounds_toArray, List.set_cons_zero, List.set_cons_succ]
    refine reg_take 18 (v := ?_) rfl (by kernel_rfl) (by rfl) ?_ hS ?_; rotate_left; focus (intro w hw; obtain ⟨r0, r1, r2⟩ := hw; go_simp; try with_reducible rfl)
    simp only [Act.put, List.setIfInBounds_toArray, List.set_cons_zero, List.set_cons_succ]
    refine reg_take 20 (v := ?_) rfl (by kernel_rfl) (by rfl) ?_ hS ?_; rotate_left; focus (intro w hw; obtain ⟨r0, r1, r2⟩ := hw; go_simp; try with_reducible rfl)
    simp only [Act.put, List.setIfInBounds_toArray, List.set_cons_zero, List.set_cons_succ]
    refine reg_take 21 (v := ?_) rfl (by kernel_rfl) (by rfl) ?_ hS ?_; rotate_left; focus (intro w hw; obtain ⟨r0, r1, r2⟩ := hw; go_simp; try with_reducible rfl)
    simp only [Act.put, List.setIfInBounds_toArray, List.set_cons_zero, List.set_cons_succ]
    refine reg_take 22 (v := ?_) rfl (by kernel_rfl) (by rfl) ?_ hS ?_; rotate_left; focus (intro w hw; obtain ⟨r0, r1, r2⟩ := hw; go_simp; try with_reducible rfl)
    simp only [Act.put, List.setIfInBounds_toArray, List.set_cons_zero, List.set_cons_succ]
    refine reg_take 23 (v := ?_) rfl (by kernel_rfl) (by rfl) ?_ hS ?_; rotate_left; focus (intro w hw; obtain ⟨r0, r1, r2⟩ := hw; go_simp; try with_reducible rfl)
    simp only [Act.put, List.setIfInBounds_toArray, List.set_cons_zero, List.set_cons_succ]
    refine reg_take 24 (v := ?_) rfl (by kernel_rfl) (by rfl) ?_ hS ?_; rotate_left; focus (intro w hw; obtain ⟨r0, r1, r2⟩ := hw; go_simp; try with_reducible rfl)
    simp only [Act.put, List.setIfInBounds_toArray, List.set_cons_zero, List.set_cons_succ]
    refine reg_call 19 (by kernel_rfl) rfl (by rfl) ?_ (hz3.mono ?_); focus go_simp
    rintro e w' ⟨rfl, rfl⟩
    refine ⟨_, rfl, hS, ?_⟩
    simp only [Act.put, List.setIfInBounds_toArray, List.set_cons_zero, List.set_cons_succ]
    refine reg_take 25 (v := ?_) rfl (by kernel_rfl) (by rfl) ?_ hS ?_; rotate_left; focus (intro w hw; obtain ⟨r0, r1, r2⟩ := hw; go_simp; try with_reducible rfl)
    simp only [Act.put, List.setIfInBounds_toArray, List.set_cons_zero, List.set_cons_succ]
    refine reg_take 26 (v := ?_) rfl (by kernel_rfl) (by rfl) ?_ hS ?_; rotate_left; focus (intro w hw; obtain ⟨r0, r1, r2⟩ := hw; go_simp; try with_reducible rfl)
    simp only [Act.put, List.setIfInBounds_toArray, List.set_cons_zero, List.set_cons_succ]
    refine reg_done (by kernel_rfl) ?_
    clear hS hz1 hz2 hz3
    go_wp2_with fail
    go_loopw [5, 6, 7, 8, 9] (fun i u1 u2 u3 u4 wr => ∃ z : Int, -1 ≤ z ∧ z ≤ 5 ∧ i = .int .i64 z ∧ P2 W g m _ s Sd Sm wr) (fun i _ _ _ _ _ => (5 - intOf i).toNat)
    case atStart => exact ⟨-1, by omega, by omega, rfl, L0⟩
    case round =>
      clear L0
      obtain ⟨z, hz0, hz5, rfl, hP⟩ := hrel
      obtain ⟨A, B, c, cb, hG⟩ := hP.regG
      have r0 := hG.r0
      by_cases hlt : z ≤ 4
      · have h1 := dk_read hP.dd z
        go_wp2_with fail
        (with_reducible refine h1.mono ?_)
        rintro e W2 ⟨v1, rfl, how1, hb1⟩
        have hP2 := hP.fresh hb1
        have h2 := rf_read W2 Sm m s hP2.rr hP2.same (by have := hP2.pl; omega) z
        clear h1
        go_wp2_with fail
        (with_reducible refine h2.mono ?_)
        rintro e W3 ⟨v2, rfl, how2, hb2⟩
        have hP3 := hP2.fresh hb2
        have e1 : (convert 27 9 v1).run Try.prog W3 = .ok (.string (strOfNums (s.rd z))) W3 := conv_src ((own_src how1).fresh hb2) rfl _ _ _ Try.underlying27 Try.underlying5 Try.underlying9
        have e2 : (convert 27 9 v2).run Try.prog W3 = .ok (.string (strOfNums (s.rd z))) W3 := conv_src (own_src how2) rfl _ _ _ Try.underlying27 Try.underlying5 Try.underlying9
        obtain ⟨str, hstr⟩ : ∃ t, strOfNums (s.rd z) = t := ⟨_, rfl⟩
        obtain ⟨er, her⟩ : ∃ t, s.rdErr z = t := ⟨_, rfl⟩
        rw [hstr] at e1 e2
        rw [her]
        clear h2 how1 how2 hstr her hb1 hb2 hP hP2 r0 hG
        go_wp2_with fail
        go_roundw
        case rel => exact ⟨z + 1, by omega, by omega, by go_num, hP3⟩
        case measure => simp [intOf]; omega
      · go_wp2_with fail
        exact HPost.out _ _ ⟨rfl, hP⟩
end Go.Proofs.Ytfnkbmjpiiabkaa
