/- DiskDurable, the walk. -/
import Derived.Test.YtfnkbmjpiiabkaaVec
set_option linter.unusedVariables false
set_option linter.unusedSimpArgs false
namespace Go.Proofs.Ytfnkbmjpiiabkaa
open Go.RowKit
/-- The disk in the first loop. -/
def DurA (W : World) (g j : Nat) (wr : World) : Prop := ∃ s Sw, Dk wr Sw g s ∧ Calm 4 j s ∧ Same s ∧ (∀ k, Sw k → W.heap.size ≤ k) ∧ Below W.heap.size W wr
theorem DurA.write {W wr : World} {g j : Nat} (h : DurA W g j wr) {b o : Nat} {d : OpD} (ho : OpAt W b o d) (hm : d.m ≤ 80) (hj : j ≤ 100) (at_ : Int) :
    Calls Try.prog 14 #[.pointer (some ⟨g, 0, none⟩), .int .i64 at_, d.x] wr fun e W' => ∃ er, e = .returned (.int .i64 er) ∧ DurA W g (j + 1) W' := by
  obtain ⟨s, Sw, hD, hC, hS, hSw, hB⟩ := h
  have hsw : Src wr d.x d.m (bcells d.data) := ho.src.ext (Ext.of_below hB) (fun _ i _ h1 h2 => by omega)
  refine (dk_write hD at_ d.x d.m d.data hsw ho.len (src_dis ho.src hSw) (by omega) (by have := hC.pl; omega)).mono ?_
  rintro e W5 ⟨rfl, S5, D5, hS5, hE5⟩
  have zk := hB.size
  exact ⟨_, rfl, _, S5, D5, hC.wr at_ d.data, hS.wr hC at_ d.data, own_from hS5 hSw zk, below_ext hB (by omega) hE5 hSw⟩
theorem DurA.drew {W wr : World} {g j : Nat} (h : DurA W g j wr) : DurA W g j wr.drew := by
  obtain ⟨s, Sw, hD, hC, hS, hSw, hB⟩ := h
  exact ⟨s, Sw, hD.drew, hC, hS, hSw, hB.drew⟩
/-- What the region of a write reads. -/
structure OpCells (b o : Nat) (d : OpD) (w : World) : Prop where
  c1 : w.cell? ⟨b, o + 1, none⟩ = some (.int .i64 d.at_)
  c4 : w.cell? ⟨b, o + 4, none⟩ = some d.x
theorem OpCells.drew {b o : Nat} {d : OpD} {w : World} (h : OpCells b o d w) : OpCells b o d w.drew := ⟨h.c1, h.c4⟩
theorem OpAt.cells {W wr : World} {b o : Nat} {d : OpD} (h : OpAt W b o d) (hB : Below W.heap.size W wr) : OpCells b o d wr :=
  let h' := h.fresh hB
  ⟨h'.c1, h'.c4⟩
/-- The locals' blocks and the disk's. -/
def durM (Sw : Nat → Prop) (bw bm : Nat) : Nat → Prop := fun k => Sw k ∨ k = bw ∨ k = bm
/-- Disk and locals: the disk in state s, j sectors of cu kept, the marks ws. -/
structure DurR (W : World) (g bw bm : Nat) (s : DSt) (cu : List Int) (ws : List Bool) (vs : List Value) (j : Nat) (Sw : Nat → Prop) (wr : World) : Prop where
  dk : Dk wr Sw g s
  sw : ∀ k, Sw k → W.heap.size ≤ k
  be : Below W.heap.size W wr
  ve : Vec (durM Sw bw bm) bw vs j cu wr
  mks : Mks bm ws wr
  nw : ¬ Sw bw
  nm : ¬ Sw bm
  ne : bw ≠ bm
  w0 : W.heap.size ≤ bw
  m0 : W.heap.size ≤ bm
section
variable {W wr W' : World} {g bw bm : Nat} {s s' : DSt} {cu : List Int} {ws : List Bool} {vs : List Value} {j : Nat} {Sw : Nat → Prop}
theorem DurR.step (h : DurR W g bw bm s cu ws vs j Sw wr) (hp : DkPost wr Sw g s' W') : ∃ S', DurR W g bw bm s' cu ws vs j S' W' := by
  obtain ⟨S', hD, hS, he⟩ := hp
  have z := h.be.size
  have hw := blk_lt h.ve.bv
  have hm := blk_lt h.mks
  refine ⟨S', hD, own_from hS h.sw z, below_ext h.be z he h.sw, h.ve.step he h.nw (fun k hk => .inl hk) ?_, h.mks.ext he h.nm, fun hk => (hS _ hk).elim h.nw (fun h => by omega), fun hk => (hS _ hk).elim h.nm (fun h => by omega), h.ne, h.w0, h.m0⟩
  rintro k (hk | hk)
  · exact (hS k hk).imp (fun h => .inl h) id
  · exact .inl (.inr hk)
theorem DurR.fresh (h : DurR W g bw bm s cu ws vs j Sw wr) (hb : Below wr.heap.size wr W') : DurR W g bw bm s cu ws vs j Sw W' :=
  ⟨h.dk.below hb, h.sw, h.be.trans (hb.mono h.be.size), h.ve.fresh hb, h.mks.ext (Ext.of_fresh (S := fun _ => False) hb) (fun h => h), h.nw, h.nm, h.ne, h.w0, h.m0⟩
theorem DurR.drew (h : DurR W g bw bm s cu ws vs j Sw wr) : DurR W g bw bm s cu ws vs j Sw wr.drew := ⟨h.dk.drew, h.sw, h.be.drew, h.ve.drew, h.mks, h.nw, h.nm, h.ne, h.w0, h.m0⟩
theorem DurR.mark (h : DurR W g bw bm s cu ws vs j Sw wr) (k : Nat) : DurR W g bw bm s cu (ws.set k true) vs j Sw (wr.setCell ⟨bm, k, none⟩ (.bool true)) := by
  have he : Ext (· = bm) wr (wr.setCell ⟨bm, k, none⟩ (.bool true)) := Ext.setCell (S := (· = bm)) _ _ _ rfl
  exact ⟨h.dk.ext he (fun i hi e => h.nm (e ▸ hi)), h.sw, below_ext h.be h.be.size he (fun i e => e ▸ h.m0), h.ve.step he h.ne (fun i e => .inr (.inr e)) (fun i hi => .inl hi), h.mks.put k, h.nw, h.nm, h.ne, h.w0, h.m0⟩
theorem DurR.put (h : DurR W g bw bm s cu ws vs j Sw wr) (hj : j < 4) (v : Value) (hs : Src wr v 64 (bcells (sec cu j))) (ho : ∀ k, v.ownBlock = some k → ¬ durM Sw bw bm k ∧ k < wr.heap.size) : DurR W g bw bm s cu ws (vs.set j v) (j + 1) Sw (wr.setCell ⟨bw, j, none⟩ v) := by
  have he : Ext (· = bw) wr (wr.setCell ⟨bw, j, none⟩ v) := Ext.setCell (S := (· = bw)) _ _ _ rfl
  exact ⟨h.dk.ext he (fun i hi e => h.nw (e ▸ hi)), h.sw, below_ext h.be h.be.size he (fun i e => e ▸ h.w0), h.ve.put hj (.inr (.inl rfl)) v hs ho, h.mks.ext he (fun e => h.ne e.symm), h.nw, h.nm, h.ne, h.w0, h.m0⟩
/-- A read: its value lies apart. -/
theorem DurR.read (h : DurR W g bw bm s cu ws vs j Sw wr) {i : Nat} (hC : Calm 4 i s) (k : Nat) (hk : k < 4) : Calls Try.prog 11 #[.pointer (some ⟨g, 0, none⟩), .int .i64 k] wr fun e W' => ∃ q cap, e = .returned (.tuple #[.slice (some ⟨q, 0, none⟩) 64 cap, .int .i64 0]) ∧ DurR W g bw bm s cu ws vs j Sw W' ∧ Src W' (.slice (some ⟨q, 0, none⟩) 64 cap) 64 (bcells (sec s.cur k)) ∧ ∀ k, (Value.slice (some ⟨q, 0, none⟩) 64 cap).ownBlock = some k → ¬ durM Sw bw bm k ∧ k < W'.heap.size := by
  have hr := dk_read h.dk k
  rw [(hC.rd k hk).1, (hC.rd k hk).2] at hr
  refine hr.mono ?_
  rintro e W' ⟨v, rfl, how, hb⟩
  have hl : (sec s.cur k).length = 64 := sec_len _ 4 k (by rw [hC.ok.cur, hC.n]) hk
  rw [hl] at how
  obtain ⟨q, cap, rfl, _, _, hq, hq2⟩ := own_form' how (by decide)
  refine ⟨q, cap, rfl, h.fresh hb, own_src how, fun i hi => ?_⟩
  have e : q = i := by simpa [Value.ownBlock] using hi
  subst e
  refine ⟨?_, hq2⟩
  have hw := blk_lt h.ve.bv
  have hm := blk_lt h.mks
  rintro (hk | rfl | rfl)
  · have := h.dk.lt _ hk; omega
  · omega
  · omega
/-- The locals are laid. -/
theorem DurR.start {S : Nat → Prop} {W2 : World} (hD : Dk W2 S g s) (hS : ∀ k, S k → W.heap.size ≤ k) (hB : Below W.heap.size W W2) : DurR W g W2.heap.size (W2.heap.size + 1) s cu [false, false, false, false] [.slice none 0 0, .slice none 0 0, .slice none 0 0, .slice none 0 0] 0 S ((W2.alloc (.cells #[.slice none 0 0, .slice none 0 0, .slice none 0 0, .slice none 0 0] 40)).alloc (.cells #[.bool false, .bool false, .bool false, .bool false] 41)) := by
  have z := hB.size
  have b1 := below_new W2 (.cells #[.slice none 0 0, .slice none 0 0, .slice none 0 0, .slice none 0 0] 40)
  have e1 : (W2.alloc (.cells #[.slice none 0 0, .slice none 0 0, .slice none 0 0, .slice none 0 0] 40)).heap.size = W2.heap.size + 1 := World.size_alloc _ _
  have b2 := below_new (W2.alloc (.cells #[.slice none 0 0, .slice none 0 0, .slice none 0 0, .slice none 0 0] 40)) (.cells #[.bool false, .bool false, .bool false, .bool false] 41)
  refine ⟨(hD.below b1).below b2, hS, (hB.trans (b1.mono z)).trans (b2.mono (by omega)), ⟨rfl, ?_, fun i hi => by omega⟩, e1 ▸ heap_alloc_new _ _, fun h => Nat.lt_irrefl _ (hD.lt _ h), fun h => by have := hD.lt _ h; omega, by omega, z, by omega⟩
  have := (Ext.of_fresh (S := fun _ => False) b2).block W2.heap.size (by omega) (fun h => h)
  rw [this]
  exact heap_alloc_new W2 _
end
/-- Disk and locals in the third loop. -/
def DurB (W : World) (g bw bm : Nat) (cu : List Int) (vs : List Value) (j : Nat) (wr : World) : Prop := ∃ s Sw ws, DurR W g bw bm s cu ws vs 4 Sw wr ∧ Calm 4 j s ∧ Marked cu ws s
theorem DurB.write {W wr : World} {g bw bm j : Nat} {cu : List Int} {vs : List Value} (h : DurB W g bw bm cu vs j wr) {b o : Nat} {d : OpD} (ho : OpAt W b o d) (hm : d.m ≤ 80) (hj : j ≤ 100) (at_ : Int) :
    Calls Try.prog 14 #[.pointer (some ⟨g, 0, none⟩), .int .i64 at_, d.x] wr fun e W' => (∃ er, e = .returned (.int .i64 er) ∧ (er == 0) = false ∧ DurB W g bw bm cu vs (j + 1) W') ∨ (e = .returned (.int .i64 0) ∧ ∃ k : Nat, at_ = k ∧ k < 4 ∧ DurB W g bw bm cu vs (j + 1) (W'.setCell ⟨bm, k, none⟩ (.bool true)) ∧ (∃ b, W'.cell? ⟨bm, k, none⟩ = some (.bool b)) ∧ W'.frozen? ⟨bm, k, none⟩ = false) := by
  obtain ⟨s, Sw, ws, hR, hC, hM⟩ := h
  have hsw : Src wr d.x d.m (bcells d.data) := ho.src.ext (Ext.of_below hR.be) (fun _ i _ h1 h2 => by omega)
  refine (dk_write hR.dk at_ d.x d.m d.data hsw ho.len (src_dis ho.src hR.sw) (by omega) (by have := hC.pl; omega)).mono ?_
  rintro e W5 ⟨rfl, hp⟩
  obtain ⟨S5, hR5⟩ := hR.step hp
  by_cases he : s.wrErr at_ d.m = 0
  · rw [he]
    rw [← ho.len] at he
    obtain ⟨k, hk, hk4, hM5⟩ := hM.yes hC at_ d.data he
    refine .inr ⟨rfl, k, hk, hk4, ⟨_, _, _, hR5.mark k, hC.wr at_ d.data, hM5⟩, ⟨ws[k]'(by rw [hM.len]; exact hk4), hR5.mks.cell k _ (List.getElem?_eq_getElem (by rw [hM.len]; exact hk4))⟩, frozen_of_blk hR5.mks k⟩
  · refine .inl ⟨_, rfl, by simpa using he, _, _, _, hR5, hC.wr at_ d.data, hM.no hC at_ d.data (by rw [ho.len]; exact he)⟩
/-- What the region of the last loop reads. -/
structure RegC (bw bm k : Nat) (b : Bool) (v v0 : Value) (l l0 : ByteArray) (w : World) : Prop where
  cm : w.cell? ⟨bm, k, none⟩ = some (.bool b)
  cv : w.cell? ⟨bw, k, none⟩ = some v0
  sv : (convert 27 9 v).run Try.prog w = .ok (.string l) w
  s0 : (convert 27 9 v0).run Try.prog w = .ok (.string l0) w
theorem conv_sec {w : World} {v : Value} {D : List Int} {k N : Nat} (h : Src w v 64 (bcells (sec D k))) (hD : D.length = N * 64) (hk : k < N) : (convert 27 9 v).run Try.prog w = .ok (.string (strOfNums (sec D k))) w :=
  conv_src h (sec_len D N k hD hk) _ _ _ Try.underlying27 Try.underlying5 Try.underlying9
attribute [local go_sem ↓] Go.wp_at_zero Go.wp_at_succ


set_option maxHeartbeats 2000000 in
theorem durable_ok (W : World) (A B : Option Addr) (na ca nb cb : Nat) (fa fb : Nat → OpD) (ha : OpsV W A na fa) (hb : OpsV W B nb fb) (keep torn : Int) (hk0 : 0 ≤ keep) (hk1 : keep ≤ 18446744073709551615) (ht0 : -9223372036854775808 ≤ torn) (ht1 : torn ≤ 9223372036854775807) :
    Calls Try.prog 4 #[.slice A na ca, .slice B nb cb, .int .u64 keep, .int .i64 torn] W fun e W' => e = .returned (.bool true) ∧ Below W.heap.size W W' := by
  refine calls_hide fun P HPost => ?_
  go_enter Try.func4, Try.ntmps4
  go_wp2_with fail
  (with_reducible refine (fits_calls _ A na ca fa ha 20).mono ?_)
  rintro e w' ⟨b1, rfl, rfl, hfa⟩
  cases b1 with
  | false =>
    clear hfa
    go_wp2_with fail
    exact HPost.out _ _ ⟨rfl, Below.refl _ _⟩
  | true =>
  have hfa := hfa rfl
  have hfaH := Lib.hid hfa
  clear hfa
  go_wp2_with fail
  (with_reducible refine (fits_calls _ B nb cb fb hb 20).mono ?_)
  rintro e w' ⟨b2, rfl, rfl, hfb⟩
  cases b2 with
  | false =>
    clear hfb
    go_wp2_with fail
    exact HPost.out _ _ ⟨rfl, Below.refl _ _⟩
  | true =>
  have hfb := hfb rfl
  have hfbH := Lib.hid hfb
  clear hfb
  go_wp2_with fail
  (with_reducible refine (dk_new _ 4 4 rfl (by decide) (by decide)).mono ?_)
  rintro e W1 ⟨g, S, rfl, D1, hS1, hB1⟩
  have L0 : DurA W g 0 W1 := ⟨_, S, D1, (Calm.new 4 (by decide) (by decide)).1, (Calm.new 4 (by decide) (by decide)).2, hS1, hB1⟩
  clear D1 hS1 hB1
  have hna : na ≤ 20 := by have := hfaH.out.1; omega
  have hnb : nb ≤ 20 := by have := hfbH.out.1; omega
  go_wp2_with fail
  go_loopw [11] (fun i wr => ∃ j : Nat, j ≤ na ∧ i = .int .i64 j ∧ DurA W g j wr) (fun i _ => na - (intOf i).toNat)
  case atStart => exact ⟨0, Nat.zero_le _, rfl, L0⟩
  case round =>
    obtain ⟨j, hj, rfl, hA⟩ := hrel
    clear L0
    by_cases hlt : j < na
    · obtain ⟨b, off, rfl, hf⟩ := ha.2 (by omega)
      have hop := hf j hlt
      have hoc := hop.cells (wr := wr) (by obtain ⟨_, _, _, _, _, _, h⟩ := hA; exact h)
      have hm80 := hfaH.out.2 j hlt
      have hsm := small_calls (fa j).at_ 4 (by decide) (by decide)
      have hA' := hA.drew
      have hw1 := hA'.write hop hm80 (by omega) (smallZ (fa j).at_ 4)
      have HOP := Lib.hid hop
      clear hf hop
      go_wp2_with fail
      refine reg_start (OpCells b (off + j * 5) (fa j)) (by kernel_rfl) ?_
      have hS := hoc.drew
      refine reg_take 0 (v := ?_) rfl (by kernel_rfl) (by rfl) ?_ hS ?_; rotate_left; focus (rintro w ⟨c1, c4⟩; go_simp; try with_reducible rfl)
      simp only [Act.put, List.setIfInBounds_toArray, List.set_cons_zero, List.set_cons_succ]
      refine reg_take 1 (v := ?_) rfl (by kernel_rfl) (by rfl) ?_ hS ?_; rotate_left; focus (rintro w ⟨c1, c4⟩; go_simp; try with_reducible rfl)
      simp only [Act.put, List.setIfInBounds_toArray, List.set_cons_zero, List.set_cons_succ]
      refine reg_take 2 (v := ?_) rfl (by kernel_rfl) (by rfl) ?_ hS ?_; rotate_left; focus (rintro w ⟨c1, c4⟩; go_simp; try with_reducible rfl)
      simp only [Act.put, List.setIfInBounds_toArray, List.set_cons_zero, List.set_cons_succ]
      refine reg_take 3 (v := ?_) rfl (by kernel_rfl) (by rfl) ?_ hS ?_; rotate_left; focus (rintro w ⟨c1, c4⟩; go_simp; try with_reducible rfl)
      simp only [Act.put, List.setIfInBounds_toArray, List.set_cons_zero, List.set_cons_succ]
      refine reg_take 4 (v := ?_) rfl (by kernel_rfl) (by rfl) ?_ hS ?_; rotate_left; focus (rintro w ⟨c1, c4⟩; go_simp; try with_reducible rfl)
      simp only [Act.put, List.setIfInBounds_toArray, List.set_cons_zero, List.set_cons_succ]
      refine reg_take 5 (v := ?_) rfl (by kernel_rfl) (by rfl) ?_ hS ?_; rotate_left; focus (rintro w ⟨c1, c4⟩; go_simp; try with_reducible rfl)
      simp only [Act.put, List.setIfInBounds_toArray, List.set_cons_zero, List.set_cons_succ]
      refine reg_take 7 (v := ?_) rfl (by kernel_rfl) (by rfl) ?_ hS ?_; rotate_left; focus (rintro w ⟨c1, c4⟩; go_simp; try with_reducible rfl)
      simp only [Act.put, List.setIfInBounds_toArray, List.set_cons_zero, List.set_cons_succ]
      refine reg_take 8 (v := ?_) rfl (by kernel_rfl) (by rfl) ?_ hS ?_; rotate_left; focus (rintro w ⟨c1, c4⟩; go_simp; try with_reducible rfl)
      simp only [Act.put, List.setIfInBounds_toArray, List.set_cons_zero, List.set_cons_succ]
      refine reg_take 9 (v := ?_) rfl (by kernel_rfl) (by rfl) ?_ hS ?_; rotate_left; focus (rintro w ⟨c1, c4⟩; go_simp; try with_reducible rfl)
      simp only [Act.put, List.setIfInBounds_toArray, List.set_cons_zero, List.set_cons_succ]
      refine reg_take 10 (v := ?_) rfl (by kernel_rfl) (by rfl) ?_ hS ?_; rotate_left; focus (rintro w ⟨c1, c4⟩; go_simp; try with_reducible rfl)
      simp only [Act.put, List.setIfInBounds_toArray, List.set_cons_zero, List.set_cons_succ]
      refine reg_take 11 (v := ?_) rfl (by kernel_rfl) (by rfl) ?_ hS ?_; rotate_left; focus (rintro w ⟨c1, c4⟩; go_simp; try with_reducible rfl)
      simp only [Act.put, List.setIfInBounds_toArray, List.set_cons_zero, List.set_cons_succ]
      refine reg_call 6 (by kernel_rfl) rfl (by rfl) ?_ ((hsm _).mono ?_); focus go_simp
      rintro e w' ⟨rfl, rfl⟩
      refine ⟨_, rfl, hS, ?_⟩
      simp only [Act.put, List.setIfInBounds_toArray, List.set_cons_zero, List.set_cons_succ]
      refine reg_call 12 (by kernel_rfl) rfl (by rfl) ?_ (hw1.mono ?_); focus go_simp
      rintro e W5 ⟨er, rfl, hA5⟩
      refine ⟨_, rfl, HOP.out.cells (by obtain ⟨_, _, _, _, _, _, h⟩ := hA5; exact h), ?_⟩
      simp only [Act.put, List.setIfInBounds_toArray, List.set_cons_zero, List.set_cons_succ]
      refine reg_done (by kernel_rfl) ?_
      clear hS hoc hw1 hA' hA
      go_wp2_with fail
      go_roundw
      case rel => exact ⟨j + 1, by omega, by go_num, hA5⟩
      case measure => simp [intOf]; omega
    · obtain rfl : j = na := by omega
      clear hlt hj
      obtain ⟨s, Sw, hD, hC, hSm, hSw, hB⟩ := hA
      have hfl := dk_flush hD (by have := hC.pl; omega)
      rw [hC.flErr] at hfl
      have hflc := hC.fl hSm
      have zk := hB.size
      go_wp2_with (go_at_call 16; (with_reducible refine hfl.mono ?_); rintro e W2 ⟨rfl, S2, D2, hS2, hE2⟩)
      obtain ⟨x0, hx0⟩ : ∃ x0, x0 = s.fl := ⟨_, rfl⟩
      rw [← hx0] at D2 hflc
      have L1 := DurR.start (cu := x0.cur) D2 (own_from hS2 hSw zk) (below_ext hB zk hE2 hSw)
      obtain ⟨h1, h2, hC2, h4⟩ := hflc
      have hdur : x0.dur = x0.cur := by rw [h1, h2]
      have M2 := Marked.start hdur h4
      clear hfl h1 h2 h4 hdur hx0 hS2 hE2 D2 hSw zk hB hSm hC hD
      generalize W2.heap.size = bw at *
      go_loopw [14] (fun i wr => ∃ k : Nat, k ≤ 4 ∧ i = .int .i64 k ∧ ∃ vs, DurR W g bw (bw + 1) x0 x0.cur [false, false, false, false] vs k S2 wr) (fun i _ => 4 - (intOf i).toNat)
      case atStart => exact ⟨0, by omega, rfl, _, L1⟩
      case round =>
        clear L1
        obtain ⟨k, hk, rfl, vs, hR⟩ := hrel
        by_cases hlt : k < 4
        · have hrd := hR.read hC2 k hlt
          go_wp2_with fail
          (with_reducible refine hrd.mono ?_)
          rintro e W5 ⟨q, cap, rfl, hR5, hv5, ho5⟩
          obtain ⟨u5, c5⟩ := hR5.ve.cell k hlt
          have z5 := frozen_of_blk hR5.ve.bv k
          go_wp2_with fail
          go_roundw
          case rel => exact ⟨k + 1, by omega, by go_num, _, hR5.put hlt _ hv5 ho5⟩
          case measure => simp [intOf]; omega
        · have hk4 : k = 4 := by omega
          have L3 : DurB W g bw (bw + 1) x0.cur vs 0 wr := ⟨_, _, _, hk4 ▸ hR, hC2, M2⟩
          have h0l : x0.cur.length = 4 * 64 := by rw [hC2.ok.cur, hC2.n]
          have HL0 := Lib.hid h0l
          clear hk4 hR hC2 M2 h0l
          go_wp2_with fail
          go_loopw [15, 16] (fun i u wr => ∃ j : Nat, j ≤ nb ∧ i = .int .i64 j ∧ DurB W g bw (bw + 1) x0.cur vs j wr) (fun i _ _ => nb - (intOf i).toNat)
          case atStart => exact ⟨0, Nat.zero_le _, rfl, L3⟩
          case round =>
            clear L3
            obtain ⟨i, hi, rfl, hA⟩ := hrel
            by_cases hlt : i < nb
            · obtain ⟨b, off, rfl, hf⟩ := hb.2 (by omega)
              have hop := hf i hlt
              have hoc := hop.cells (wr := wr) (by obtain ⟨_, _, _, h, _, _⟩ := hA; exact h.be)
              have c1 := hoc.c1
              have c4 := hoc.c4
              have hsm := small_calls (fb i).at_ 4 (by decide) (by decide)
              obtain ⟨a, ha⟩ : ∃ a, smallZ (fb i).at_ 4 = a := ⟨_, rfl⟩
              rw [ha] at hsm
              have hw1 := hA.write hop (hfbH.out.2 i hlt) (by omega) a
              clear ha hop hf hoc
              go_wp2_with (first
                | (go_at_call 15; (with_reducible refine (hsm _).mono ?_); rintro e w' ⟨rfl, rfl⟩)
                | (go_at_call 14; (with_reducible refine hw1.mono ?_)))
              rintro e W5 (⟨er, rfl, her, hA5⟩ | ⟨rfl, k, rfl, hk4, hA5, ⟨bb, hcc⟩, hzz⟩)
              · clear hw1 hsm
                go_wp2_with fail
                go_roundw
                case rel =>
                  exact ⟨i + 1, by omega, by go_num, hA5⟩
                case measure => simp [intOf]; omega
              · clear hw1 hsm
                go_wp2_with fail
                go_roundw
                case rel => exact ⟨i + 1, by omega, by go_num, hA5⟩
                case measure => simp [intOf]; omega
            · obtain rfl : i = nb := by omega
              clear hlt hi
              obtain ⟨s3, S3, ws, hR, hC, hM⟩ := hA
              have hcr := dk_crash hR.dk keep torn hk0 hk1 ht0 ht1 (by have := hC.pl; omega)
              obtain ⟨x, hx⟩ : ∃ x, x = ({ s3.cr keep torn with on := true, ar := false } : DSt) := ⟨_, rfl⟩
              have hCx := hC.cr keep torn x hx
              have hSv := fun k hk hw => hM.survive hC keep torn x hx k hk hw
              have HSV := Lib.hid hSv
              have HX := Lib.hid hx
              have hwl := hM.len
              clear hSv hx
              go_wp2_with (go_at_call 17; (with_reducible refine hcr.mono ?_); rintro e W4 ⟨rfl, hp4⟩)
              obtain ⟨S4, hR4⟩ := hR.step hp4
              (with_reducible refine (dk_powerOn hR4.dk).mono ?_)
              rintro e W5 ⟨rfl, hp5⟩
              rw [← HX.out] at hp5
              obtain ⟨S5, hR5⟩ := hR4.step hp5
              obtain ⟨hCx1, hCx2, _⟩ := hCx
              have HP2 := Lib.hid hCx2
              clear hp4 hp5 hR hR4 hM hC hcr hCx2
              go_wp2_with fail
              go_loopw [17, 18, 19] (fun i u1 u2 wr => ∃ k : Nat, k ≤ 4 ∧ i = .int .i64 k ∧ DurR W g bw (bw + 1) x x0.cur ws vs 4 S5 wr) (fun i _ _ _ => 4 - (intOf i).toNat)
              case atStart => exact ⟨0, by omega, rfl, hR5⟩
              case round =>
                clear hR5
                obtain ⟨m, hm, rfl, hR⟩ := hrel
                by_cases hlt : m < 4
                · have hrd := hR.read hCx1 m hlt
                  go_wp2_with fail
                  (with_reducible refine hrd.mono ?_)
                  rintro e W6 ⟨q, cap, rfl, hR6, hv6, ho6⟩
                  clear hrd
                  obtain ⟨v0, hv0, hs0, ho0⟩ := hR6.ve.val m hlt
                  have c0 := cell_of_blk hR6.ve.bv m v0 (by rw [List.getElem?_toArray]; exact hv0)
                  have e0 := conv_sec hs0.drew HL0.out hlt
                  have e1 := conv_sec hv6.drew (show x.cur.length = 4 * 64 by rw [hCx1.ok.cur, hCx1.n]) hlt
                  have hxs := fun h => HSV.out m hlt h
                  obtain ⟨wb, hwk⟩ : ∃ wb, ws[m]? = some wb := ⟨_, List.getElem?_eq_getElem (by rw [hwl]; exact hlt)⟩
                  rw [hwk] at hxs
                  have cm := hR6.mks.cell m _ hwk
                  clear hv6 ho6 hs0 ho0 hv0 hwk
                  obtain ⟨t0, ht0⟩ : ∃ t, strOfNums (sec x0.cur m) = t := ⟨_, rfl⟩
                  cases wb with
                  | true =>
                    obtain ⟨t1, ht1⟩ : ∃ t, strOfNums (sec x.cur m) = t := ⟨_, rfl⟩
                    rw [ht0] at e0
                    rw [ht1] at e1
                    clear ht0 ht1 hxs
                    go_wp2_with fail
                    have hS : RegC bw (bw + 1) m true (.slice (some ⟨q, 0, none⟩) 64 cap) v0 t1 t0 W6.drew := ⟨cm, c0, e1, e0⟩
                    refine reg_start (RegC bw (bw + 1) m true (.slice (some ⟨q, 0, none⟩) 64 cap) v0 t1 t0) (by kernel_rfl) ?_
                    clear cm c0 e1 e0
                    refine reg_take 0 (v := ?_) rfl (by kernel_rfl) (by rfl) ?_ hS ?_; rotate_left; focus (rintro w ⟨cm, cv, sv, s0⟩; go_simp; try with_reducible rfl)
                    simp only [Act.put, List.setIfInBounds_toArray, List.set_cons_zero, List.set_cons_succ]
                    refine reg_take 1 (v := ?_) rfl (by kernel_rfl) (by rfl) ?_ hS ?_; rotate_left; focus (rintro w ⟨cm, cv, sv, s0⟩; go_simp; try with_reducible rfl)
                    simp only [Act.put, List.setIfInBounds_toArray, List.set_cons_zero, List.set_cons_succ]
                    refine reg_take 2 (v := ?_) rfl (by kernel_rfl) (by rfl) ?_ hS ?_; rotate_left; focus (rintro w ⟨cm, cv, sv, s0⟩; go_simp; try with_reducible rfl)
                    simp only [Act.put, List.setIfInBounds_toArray, List.set_cons_zero, List.set_cons_succ]
                    refine reg_take 3 (v := ?_) rfl (by kernel_rfl) (by rfl) ?_ hS ?_; rotate_left; focus (rintro w ⟨cm, cv, sv, s0⟩; go_simp; try with_reducible rfl)
                    simp only [Act.put, List.setIfInBounds_toArray, List.set_cons_zero, List.set_cons_succ]
                    refine reg_take 4 (v := ?_) rfl (by kernel_rfl) (by rfl) ?_ hS ?_; rotate_left; focus (rintro w ⟨cm, cv, sv, s0⟩; go_simp; try with_reducible rfl)
                    simp only [Act.put, List.setIfInBounds_toArray, List.set_cons_zero, List.set_cons_succ]
                    refine reg_take 5 (v := ?_) rfl (by kernel_rfl) (by rfl) ?_ hS ?_; rotate_left; focus (rintro w ⟨cm, cv, sv, s0⟩; go_simp; try with_reducible rfl)
                    simp only [Act.put, List.setIfInBounds_toArray, List.set_cons_zero, List.set_cons_succ]
                    refine reg_take 6 (v := ?_) rfl (by kernel_rfl) (by rfl) ?_ hS ?_; rotate_left; focus (rintro w ⟨cm, cv, sv, s0⟩; go_simp; try with_reducible rfl)
                    simp only [Act.put, List.setIfInBounds_toArray, List.set_cons_zero, List.set_cons_succ]
                    refine reg_take 7 (v := ?_) rfl (by kernel_rfl) (by rfl) ?_ hS ?_; rotate_left; focus (rintro w ⟨cm, cv, sv, s0⟩; go_simp; try with_reducible rfl)
                    simp only [Act.put, List.setIfInBounds_toArray, List.set_cons_zero, List.set_cons_succ]
                    refine reg_pass 8 rfl (by kernel_rfl) (by rfl) hS ?_
                    simp only [Act.put, List.setIfInBounds_toArray, List.set_cons_zero, List.set_cons_succ]
                    refine reg_pass 9 rfl (by kernel_rfl) (by rfl) hS ?_
                    simp only [Act.put, List.setIfInBounds_toArray, List.set_cons_zero, List.set_cons_succ]
                    refine reg_pass 10 rfl (by kernel_rfl) (by rfl) hS ?_
                    simp only [Act.put, List.setIfInBounds_toArray, List.set_cons_zero, List.set_cons_succ]
                    refine reg_pass 11 rfl (by kernel_rfl) (by rfl) hS ?_
                    simp only [Act.put, List.setIfInBounds_toArray, List.set_cons_zero, List.set_cons_succ]
                    refine reg_pass 12 rfl (by kernel_rfl) (by rfl) hS ?_
                    simp only [Act.put, List.setIfInBounds_toArray, List.set_cons_zero, List.set_cons_succ]
                    refine reg_pass 13 rfl (by kernel_rfl) (by rfl) hS ?_
                    simp only [Act.put, List.setIfInBounds_toArray, List.set_cons_zero, List.set_cons_succ]
                    refine reg_pass 14 rfl (by kernel_rfl) (by rfl) hS ?_
                    simp only [Act.put, List.setIfInBounds_toArray, List.set_cons_zero, List.set_cons_succ]
                    refine reg_take 15 (v := ?_) rfl (by kernel_rfl) (by rfl) ?_ hS ?_; rotate_left; focus (rintro w ⟨cm, cv, sv, s0⟩; go_simp; try with_reducible rfl)
                    simp only [Act.put, List.setIfInBounds_toArray, List.set_cons_zero, List.set_cons_succ]
                    refine reg_take 16 (v := ?_) rfl (by kernel_rfl) (by rfl) ?_ hS ?_; rotate_left; focus (rintro w ⟨cm, cv, sv, s0⟩; go_simp; try with_reducible rfl)
                    simp only [Act.put, List.setIfInBounds_toArray, List.set_cons_zero, List.set_cons_succ]
                    refine reg_done (by kernel_rfl) ?_
                    clear hS
                    go_wp2_with fail
                    go_roundw
                    case rel => exact ⟨m + 1, by omega, by go_num, hR6.drew⟩
                    case measure => simp [intOf]; omega
                  | false =>
                    rw [hxs rfl, ht0] at e1
                    rw [ht0] at e0
                    clear ht0 hxs
                    go_wp2_with fail
                    have hS : RegC bw (bw + 1) m false (.slice (some ⟨q, 0, none⟩) 64 cap) v0 t0 t0 W6.drew := ⟨cm, c0, e1, e0⟩
                    refine reg_start (RegC bw (bw + 1) m false (.slice (some ⟨q, 0, none⟩) 64 cap) v0 t0 t0) (by kernel_rfl) ?_
                    clear cm c0 e1 e0
                    refine reg_take 0 (v := ?_) rfl (by kernel_rfl) (by rfl) ?_ hS ?_; rotate_left; focus (rintro w ⟨cm, cv, sv, s0⟩; go_simp; try with_reducible rfl)
                    simp only [Act.put, List.setIfInBounds_toArray, List.set_cons_zero, List.set_cons_succ]
                    refine reg_take 1 (v := ?_) rfl (by kernel_rfl) (by rfl) ?_ hS ?_; rotate_left; focus (rintro w ⟨cm, cv, sv, s0⟩; go_simp; try with_reducible rfl)
                    simp only [Act.put, List.setIfInBounds_toArray, List.set_cons_zero, List.set_cons_succ]
                    refine reg_take 2 (v := ?_) rfl (by kernel_rfl) (by rfl) ?_ hS ?_; rotate_left; focus (rintro w ⟨cm, cv, sv, s0⟩; go_simp; try with_reducible rfl)
                    simp only [Act.put, List.setIfInBounds_toArray, List.set_cons_zero, List.set_cons_succ]
                    refine reg_take 3 (v := ?_) rfl (by kernel_rfl) (by rfl) ?_ hS ?_; rotate_left; focus (rintro w ⟨cm, cv, sv, s0⟩; go_simp; try with_reducible rfl)
                    simp only [Act.put, List.setIfInBounds_toArray, List.set_cons_zero, List.set_cons_succ]
                    refine reg_take 4 (v := ?_) rfl (by kernel_rfl) (by rfl) ?_ hS ?_; rotate_left; focus (rintro w ⟨cm, cv, sv, s0⟩; go_simp; try with_reducible rfl)
                    simp only [Act.put, List.setIfInBounds_toArray, List.set_cons_zero, List.set_cons_succ]
                    refine reg_take 5 (v := ?_) rfl (by kernel_rfl) (by rfl) ?_ hS ?_; rotate_left; focus (rintro w ⟨cm, cv, sv, s0⟩; go_simp; try with_reducible rfl)
                    simp only [Act.put, List.setIfInBounds_toArray, List.set_cons_zero, List.set_cons_succ]
                    refine reg_take 6 (v := ?_) rfl (by kernel_rfl) (by rfl) ?_ hS ?_; rotate_left; focus (rintro w ⟨cm, cv, sv, s0⟩; go_simp; try with_reducible rfl)
                    simp only [Act.put, List.setIfInBounds_toArray, List.set_cons_zero, List.set_cons_succ]
                    refine reg_take 7 (v := ?_) rfl (by kernel_rfl) (by rfl) ?_ hS ?_; rotate_left; focus (rintro w ⟨cm, cv, sv, s0⟩; go_simp; try with_reducible rfl)
                    simp only [Act.put, List.setIfInBounds_toArray, List.set_cons_zero, List.set_cons_succ]
                    refine reg_take 8 (v := ?_) rfl (by kernel_rfl) (by rfl) ?_ hS ?_; rotate_left; focus (rintro w ⟨cm, cv, sv, s0⟩; go_simp; try with_reducible rfl)
                    simp only [Act.put, List.setIfInBounds_toArray, List.set_cons_zero, List.set_cons_succ]
                    refine reg_take 9 (v := ?_) rfl (by kernel_rfl) (by rfl) ?_ hS ?_; rotate_left; focus (rintro w ⟨cm, cv, sv, s0⟩; go_simp; try with_reducible rfl)
                    simp only [Act.put, List.setIfInBounds_toArray, List.set_cons_zero, List.set_cons_succ]
                    refine reg_take 10 (v := ?_) rfl (by kernel_rfl) (by rfl) ?_ hS ?_; rotate_left; focus (rintro w ⟨cm, cv, sv, s0⟩; go_simp; try with_reducible rfl)
                    simp only [Act.put, List.setIfInBounds_toArray, List.set_cons_zero, List.set_cons_succ]
                    refine reg_take 11 (v := ?_) rfl (by kernel_rfl) (by rfl) ?_ hS ?_; rotate_left; focus (rintro w ⟨cm, cv, sv, s0⟩; go_simp; try with_reducible rfl)
                    simp only [Act.put, List.setIfInBounds_toArray, List.set_cons_zero, List.set_cons_succ]
                    refine reg_take 12 (v := ?_) rfl (by kernel_rfl) (by rfl) ?_ hS ?_; rotate_left; focus (rintro w ⟨cm, cv, sv, s0⟩; go_simp; try with_reducible rfl)
                    simp only [Act.put, List.setIfInBounds_toArray, List.set_cons_zero, List.set_cons_succ]
                    refine reg_take 13 (v := ?_) rfl (by kernel_rfl) (by rfl) ?_ hS ?_; rotate_left; focus (rintro w ⟨cm, cv, sv, s0⟩; go_simp; try with_reducible rfl)
                    simp only [Act.put, List.setIfInBounds_toArray, List.set_cons_zero, List.set_cons_succ]
                    refine reg_take 14 (v := ?_) rfl (by kernel_rfl) (by rfl) ?_ hS ?_; rotate_left; focus (rintro w ⟨cm, cv, sv, s0⟩; go_simp; try with_reducible rfl)
                    simp only [Act.put, List.setIfInBounds_toArray, List.set_cons_zero, List.set_cons_succ]
                    refine reg_take 15 (v := ?_) rfl (by kernel_rfl) (by rfl) ?_ hS ?_; rotate_left; focus (rintro w ⟨cm, cv, sv, s0⟩; go_simp; try with_reducible rfl)
                    simp only [Act.put, List.setIfInBounds_toArray, List.set_cons_zero, List.set_cons_succ]
                    refine reg_take 16 (v := ?_) rfl (by kernel_rfl) (by rfl) ?_ hS ?_; rotate_left; focus (rintro w ⟨cm, cv, sv, s0⟩; go_simp; try with_reducible rfl)
                    simp only [Act.put, List.setIfInBounds_toArray, List.set_cons_zero, List.set_cons_succ]
                    refine reg_done (by kernel_rfl) ?_
                    clear hS
                    go_wp2_with fail
                    go_roundw
                    case rel => exact ⟨m + 1, by omega, by go_num, hR6.drew⟩
                    case measure => simp [intOf]; omega
                · have hpn := dk_pending hR.dk
                  rw [HP2.out] at hpn
                  go_wp2_with (first
                    | (go_at_call 19; (with_reducible refine hpn.mono ?_); rintro e w' ⟨rfl, rfl⟩)
                    | (go_at_call 12; (with_reducible refine (known_calls _).mono ?_); rintro e W9 ⟨rfl, hB9⟩))
                  exact HPost.out _ _ ⟨rfl, hR.be.trans (hB9.mono hR.be.size)⟩
end Go.Proofs.Ytfnkbmjpiiabkaa
