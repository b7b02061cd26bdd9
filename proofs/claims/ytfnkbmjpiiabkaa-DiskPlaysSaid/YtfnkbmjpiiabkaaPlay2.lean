/- act. -/
import Derived.Test.YtfnkbmjpiiabkaaPlay1
set_option linter.unusedVariables false
set_option linter.unusedSimpArgs false
namespace Go.Proofs.Ytfnkbmjpiiabkaa
open Go.RowKit
attribute [local go_sem ↓] Go.wp_at_zero Go.wp_at_succ
def ActPost (W : World) (g m i : Nat) (e : Ending) (W' : World) : Prop := e = .returned (.bool true) ∧ ∃ s' Sd' Sm', P2 W g m (i + 1) s' Sd' Sm' W'
def opCells (d : OpD) : Array Value := #[.int .u8 d.kd, .int .i64 d.at_, .int .i64 d.n, .int .u64 d.kp, d.x]
set_option maxHeartbeats 2000000 in
theorem act_calls (W wr : World) (g m i : Nat) (s : DSt) (Sd Sm : Nat → Prop) (h : P2 W g m i s Sd Sm wr) (hi : i ≤ 1000) {b o : Nat} {d : OpD} (ho : OpAt W b o d) (hm : d.m ≤ 80) :
    Calls Try.prog 21 #[.pointer (some ⟨g, 0, none⟩), .pointer (some ⟨m, 0, none⟩), .agg #[.int .u8 d.kd, .int .i64 d.at_, .int .i64 d.n, .int .u64 d.kp, d.x]] wr (ActPost W g m i) := by
  obtain ⟨k, hand, hk⟩ := i8_and7 d.kd ho.k0.1 ho.k0.2
  have P1 := h.fresh (below_new wr (.cells #[.int .u8 d.kd, .int .i64 d.at_, .int .i64 d.n, .int .u64 d.kp, d.x] 38))
  have hpl := h.pl
  have HO := Lib.hid ho
  obtain ⟨kd, at_, n, kp, x, mm, data⟩ := d
  simp only at hand P1 hm ⊢
  by_cases k4 : k = 4
  · have e4 : ((k : Int) == 4) = true := by simp [k4]
    have hf1 := dk_flush P1.dd (by omega)
    clear k4 ho
    refine calls_hide fun P HPost => ?_
    go_enter Try.func21, Try.ntmps21
    go_wp2_with fail
    (with_reducible refine hf1.mono ?_)
    rintro e W2 ⟨rfl, hp2⟩
    obtain ⟨S2, Q2⟩ := P1.stepD hp2
    have hf2 := rf_flush W2 Sm m s Q2.rr (by omega)
    go_wp2_with fail
    (with_reducible refine hf2.mono ?_)
    rintro e W3 ⟨rfl, hp3⟩
    obtain ⟨S3, Q3⟩ := Q2.stepM (j := i + 1) hp3 P1.same.flAny ((fl_n s).1.trans P1.n4) (by have := (fl_n s).2; omega)
    clear hf1 hf2 hp2 hp3
    go_wp2_with fail
    refine HPost.out _ _ ⟨?_, _, _, _, Q3⟩
    simp
  · have e4 : ((k : Int) == 4) = false := by simp; omega
    by_cases k7 : k = 7
    · have e5 : ((k : Int) == 5) = false := by simp; omega
      have e6 : ((k : Int) == 6) = false := by simp; omega
      have e7 : ((k : Int) == 7) = true := by simp [k7]
      have hf1 := dk_powerOn P1.dd
      clear k4 k7 ho
      refine calls_hide fun P HPost => ?_
      go_enter Try.func21, Try.ntmps21
      go_wp2_with fail
      (with_reducible refine hf1.mono ?_)
      rintro e W2 ⟨rfl, hp2⟩
      obtain ⟨S2, Q2⟩ := P1.stepD hp2
      have hf2 := rf_powerOn Q2.rr
      go_wp2_with fail
      (with_reducible refine hf2.mono ?_)
      rintro e W3 ⟨rfl, hp3⟩
      obtain ⟨S3, Q3⟩ := Q2.stepM (j := i + 1) hp3 P1.same P1.n4 (by show s.pend.length ≤ _; omega)
      clear hf1 hf2 hp2 hp3
      go_wp2_with fail
      exact HPost.out _ _ ⟨rfl, _, _, _, Q3⟩
    · have e7 : ((k : Int) == 7) = false := by simp; omega
      by_cases k6 : k = 6
      · have e5 : ((k : Int) == 5) = false := by simp; omega
        have e6 : ((k : Int) == 6) = true := by simp [k6]
        have hsm := small_calls n 80 (by decide) (by decide)
        have hz : -9223372036854775808 ≤ smallZ n 80 ∧ smallZ n 80 ≤ 9223372036854775807 := by
          have h1 : -9223372036854775808 ≤ n := HO.out.n0.1
          have h2 : n ≤ 9223372036854775807 := HO.out.n0.2
          unfold smallZ; split <;> omega
        obtain ⟨t, ht⟩ : ∃ t, smallZ n 80 = t := ⟨_, rfl⟩
        rw [ht] at hsm hz
        have hk0 : 0 ≤ kp := HO.out.p0.1
        have hk1 : kp ≤ 18446744073709551615 := HO.out.p0.2
        have hf1 := dk_crash P1.dd kp t hk0 hk1 hz.1 hz.2 (by omega)
        have hbx : ¬ Sd wr.heap.size := fun hh => Nat.lt_irrefl _ (h.dd.lt _ hh)
        have cx := cell_of_blk (heap_alloc_new wr (.cells #[.int .u8 kd, .int .i64 at_, .int .i64 n, .int .u64 kp, x] 38)) 3 (.int .u64 kp) rfl
        clear k4 k7 k6 ho ht
        refine calls_hide fun P HPost => ?_
        go_enter Try.func21, Try.ntmps21
        go_wp2_with (go_at_call 15; (with_reducible refine (hsm _).mono ?_); rintro e w' ⟨rfl, rfl⟩)
        (with_reducible refine hf1.mono ?_)
        rintro e W2 ⟨rfl, hp2⟩
        have cy : W2.cell? ⟨wr.heap.size, 3, none⟩ = some (.int .u64 kp) := by
          obtain ⟨_, _, _, he⟩ := hp2
          rw [World.cell?_of_block (he.block wr.heap.size (World.block_lt_of_cell? _ _ cx) hbx)]; exact cx
        obtain ⟨S2, Q2⟩ := P1.stepD hp2
        have hf2 := rf_crash W2 Sm m s Q2.rr kp t hk0 hk1 hz.1 hz.2 (by omega)
        go_wp2_with fail
        (with_reducible refine hf2.mono ?_)
        rintro e W3 ⟨rfl, hp3⟩
        obtain ⟨S3, Q3⟩ := Q2.stepM (j := i + 1) hp3 (Same.crAny s kp t) P1.n4 (by simp [DSt.cr])
        clear hf1 hf2 hp2 hp3 cx cy
        go_wp2_with fail
        exact HPost.out _ _ ⟨rfl, _, _, _, Q3⟩
      · have e6 : ((k : Int) == 6) = false := by simp; omega
        by_cases k5 : k = 5
        · have e5 : ((k : Int) == 5) = true := by simp [k5]
          have hsm := small_calls n 5 (by decide) (by decide)
          have h15 := i64_and15 n
          have h1 : -9223372036854775808 ≤ n := HO.out.n0.1
          have h2 : n ≤ 9223372036854775807 := HO.out.n0.2
          unfold smallZ at hsm
          by_cases hn : n % 16 = 15
          · simp only [if_pos hn] at hsm
            rw [hn] at h15
            have h3 : -9223372036854775807 ≤ n := by omega
            clear hn
            have hf1 := dk_failAfter P1.dd (n) (by omega)
            clear k4 k7 k6 k5 ho
            refine calls_hide fun P HPost => ?_
            go_enter Try.func21, Try.ntmps21
            go_wp2_with (go_at_call 15; (with_reducible refine (hsm _).mono ?_); rintro e w' ⟨rfl, rfl⟩)
            (with_reducible refine hf1.mono ?_)
            rintro e W2 ⟨rfl, hp2⟩
            obtain ⟨S2, Q2⟩ := P1.stepD hp2
            have hf2 := rf_failAfter Q2.rr (n) (by omega)
            go_wp2_with fail
            (with_reducible refine hf2.mono ?_)
            rintro e W3 ⟨rfl, hp3⟩
            obtain ⟨S3, Q3⟩ := Q2.stepM (j := i + 1) hp3 P1.same P1.n4 (by show s.pend.length ≤ _; omega)
            clear hf1 hf2 hp2 hp3
            go_wp2_with fail
            exact HPost.out _ _ ⟨rfl, _, _, _, Q3⟩
          · simp only [if_neg hn] at hsm
            obtain ⟨c, hc⟩ : ∃ c, n % 65536 % 5 = c := ⟨_, rfl⟩
            obtain ⟨a, ha⟩ : ∃ a, n % 16 = a := ⟨_, rfl⟩
            have hc0 : 0 ≤ c := by omega
            have hc1 : c < 5 := by omega
            rw [hc] at hsm
            rw [ha] at h15 hn
            have hab : (a == 15) = false := by simpa using hn
            clear hn hc ha
            have hf1 := dk_failAfter P1.dd (c - 1) (by omega)
            clear k4 k7 k6 k5 ho
            refine calls_hide fun P HPost => ?_
            go_enter Try.func21, Try.ntmps21
            go_wp2_with (go_at_call 15; (with_reducible refine (hsm _).mono ?_); rintro e w' ⟨rfl, rfl⟩)
            (with_reducible refine hf1.mono ?_)
            rintro e W2 ⟨rfl, hp2⟩
            obtain ⟨S2, Q2⟩ := P1.stepD hp2
            have hf2 := rf_failAfter Q2.rr (c - 1) (by omega)
            go_wp2_with fail
            (with_reducible refine hf2.mono ?_)
            rintro e W3 ⟨rfl, hp3⟩
            obtain ⟨S3, Q3⟩ := Q2.stepM (j := i + 1) hp3 P1.same P1.n4 (by show s.pend.length ≤ _; omega)
            clear hf1 hf2 hp2 hp3
            go_wp2_with fail
            exact HPost.out _ _ ⟨rfl, _, _, _, Q3⟩
        · have e5 : ((k : Int) == 5) = false := by simp; omega
          have hsm := small_calls at_ 5 (by decide) (by decide)
          obtain ⟨t, ht⟩ : ∃ t, smallZ at_ 5 = t := ⟨_, rfl⟩
          rw [ht] at hsm
          have hsrc : Src W x mm (bcells data) := HO.out.src
          have hlen : data.length = mm := HO.out.len
          have hsw : Src (wr.alloc (.cells #[.int .u8 kd, .int .i64 at_, .int .i64 n, .int .u64 kp, x] 38)).drew x mm (bcells data) := hsrc.ext (Ext.of_below P1.be.drew) (fun _ i _ h1 h2 => by omega)
          have hf1 := dk_write P1.drew.dd t x mm data hsw hlen (src_dis hsrc h.sd) (by omega) (by omega)
          have hbx : ¬ Sd wr.heap.size := fun hh => Nat.lt_irrefl _ (h.dd.lt _ hh)
          have hbm : ¬ Sm wr.heap.size := fun hh => Nat.lt_irrefl _ (h.rr.lt _ hh)
          have cx := cell_of_blk (heap_alloc_new wr (.cells #[.int .u8 kd, .int .i64 at_, .int .i64 n, .int .u64 kp, x] 38)) 4 x rfl
          have HLEN := Lib.hid hlen
          clear k4 k7 k6 k5 ho ht hlen
          refine calls_hide fun P HPost => ?_
          go_enter Try.func21, Try.ntmps21
          go_wp2_with (go_at_call 15; (with_reducible refine (hsm _).mono ?_); rintro e w' ⟨rfl, rfl⟩)
          refine reg_start (fun w => w.cell? ⟨wr.heap.size, 4, none⟩ = some x) (by kernel_rfl) ?_
          have hS : (wr.alloc (.cells #[.int .u8 kd, .int .i64 at_, .int .i64 n, .int .u64 kp, x] 38)).drew.cell? ⟨wr.heap.size, 4, none⟩ = some x := cx
          refine reg_take 0 (v := ?_) rfl (by kernel_rfl) (by rfl) ?_ hS ?_; rotate_left; focus (intro w hw; go_simp; try with_reducible rfl)
          simp only [Act.put, List.setIfInBounds_toArray, List.set_cons_zero, List.set_cons_succ]
          refine reg_take 1 (v := ?_) rfl (by kernel_rfl) (by rfl) ?_ hS ?_; rotate_left; focus (intro w hw; go_simp; try with_reducible rfl)
          simp only [Act.put, List.setIfInBounds_toArray, List.set_cons_zero, List.set_cons_succ]
          refine reg_take 2 (v := ?_) rfl (by kernel_rfl) (by rfl) ?_ hS ?_; rotate_left; focus (intro w hw; go_simp; try with_reducible rfl)
          simp only [Act.put, List.setIfInBounds_toArray, List.set_cons_zero, List.set_cons_succ]
          refine reg_take 3 (v := ?_) rfl (by kernel_rfl) (by rfl) ?_ hS ?_; rotate_left; focus (intro w hw; go_simp; try with_reducible rfl)
          simp only [Act.put, List.setIfInBounds_toArray, List.set_cons_zero, List.set_cons_succ]
          refine reg_take 5 (v := ?_) rfl (by kernel_rfl) (by rfl) ?_ hS ?_; rotate_left; focus (intro w hw; go_simp; try with_reducible rfl)
          simp only [Act.put, List.setIfInBounds_toArray, List.set_cons_zero, List.set_cons_succ]
          refine reg_take 6 (v := ?_) rfl (by kernel_rfl) (by rfl) ?_ hS ?_; rotate_left; focus (intro w hw; go_simp; try with_reducible rfl)
          simp only [Act.put, List.setIfInBounds_toArray, List.set_cons_zero, List.set_cons_succ]
          refine reg_take 7 (v := ?_) rfl (by kernel_rfl) (by rfl) ?_ hS ?_; rotate_left; focus (intro w hw; go_simp; try with_reducible rfl)
          simp only [Act.put, List.setIfInBounds_toArray, List.set_cons_zero, List.set_cons_succ]
          refine reg_take 8 (v := ?_) rfl (by kernel_rfl) (by rfl) ?_ hS ?_; rotate_left; focus (intro w hw; go_simp; try with_reducible rfl)
          simp only [Act.put, List.setIfInBounds_toArray, List.set_cons_zero, List.set_cons_succ]
          refine reg_call 4 (by kernel_rfl) rfl (by rfl) ?_ (hf1.mono ?_); focus go_simp
          rintro e W2 ⟨rfl, hp2⟩
          have hS2 : W2.cell? ⟨wr.heap.size, 4, none⟩ = some x := by
            obtain ⟨_, _, _, he⟩ := hp2
            rw [World.cell?_of_block (he.block wr.heap.size (World.block_lt_of_cell? _ _ hS) hbx)]; exact hS
          refine ⟨_, rfl, hS2, ?_⟩
          simp only [Act.put, List.setIfInBounds_toArray, List.set_cons_zero, List.set_cons_succ]
          obtain ⟨S2, Q2⟩ := P1.drew.stepD hp2
          have hf2 := rf_write W2 Sm m s Q2.rr t x mm data (hsrc.ext (Ext.of_below Q2.be) (fun _ i _ h1 h2 => by omega)) HLEN.out (src_dis hsrc h.sm) (by omega) (by omega)
          refine reg_call 9 (by kernel_rfl) rfl (by rfl) ?_ (hf2.mono ?_); focus go_simp
          rintro e W3 ⟨rfl, hp3⟩
          have hS3 : W3.cell? ⟨wr.heap.size, 4, none⟩ = some x := by
            obtain ⟨_, _, _, he⟩ := hp3
            rw [World.cell?_of_block (he.block wr.heap.size (World.block_lt_of_cell? _ _ hS2) hbm)]; exact hS2
          refine ⟨_, rfl, hS3, ?_⟩
          simp only [Act.put, List.setIfInBounds_toArray, List.set_cons_zero, List.set_cons_succ]
          obtain ⟨S3, Q3⟩ := Q2.stepM (j := i + 1) hp3 (P1.same.wrAny t data) ((wr_n s t data).1.trans P1.n4) (by have := (wr_n s t data).2; omega)
          refine reg_take 10 (v := .bool true) rfl (by kernel_rfl) (by rfl) ?_ hS3 ?_; focus (intro w hw; go_simp; try simp)
          simp only [Act.put, List.setIfInBounds_toArray, List.set_cons_zero, List.set_cons_succ]
          refine reg_take 11 (v := ?_) rfl (by kernel_rfl) (by rfl) ?_ hS3 ?_; rotate_left; focus (intro w hw; go_simp; try with_reducible rfl)
          simp only [Act.put, List.setIfInBounds_toArray, List.set_cons_zero, List.set_cons_succ]
          refine reg_done (by kernel_rfl) ?_
          clear hS hS2 hS3 cx hf1 hf2 hp2 hp3
          go_wp2_with fail
          exact HPost.out _ _ ⟨rfl, _, _, _, Q3⟩
end Go.Proofs.Ytfnkbmjpiiabkaa
