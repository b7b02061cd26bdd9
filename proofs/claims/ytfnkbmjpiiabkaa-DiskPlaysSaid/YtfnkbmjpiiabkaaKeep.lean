/- DiskKeeps, the walk. -/
import Derived.Test.YtfnkbmjpiiabkaaDur
set_option linter.unusedVariables false
set_option linter.unusedSimpArgs false
namespace Go.Proofs.Ytfnkbmjpiiabkaa
open Go.RowKit
/-- Two disks, apart. -/
structure K1 (W : World) (gd gc : Nat) (s t : DSt) (Sd Sc : Nat → Prop) (wr : World) : Prop where
  dd : Dk wr Sd gd s
  dc : Dk wr Sc gc t
  dis : ∀ i, Sd i → ¬ Sc i
  sd : ∀ k, Sd k → W.heap.size ≤ k
  sc : ∀ k, Sc k → W.heap.size ≤ k
  be : Below W.heap.size W wr
def keepM (Sd Sc : Nat → Prop) (bw bn : Nat) : Nat → Prop := fun k => Sd k ∨ Sc k ∨ k = bw ∨ k = bn
structure K2 (W : World) (gd gc bw bn : Nat) (s t : DSt) (cu cn : List Int) (vs ns : List Value) (j k : Nat) (Sd Sc : Nat → Prop) (wr : World) : Prop where
  k1 : K1 W gd gc s t Sd Sc wr
  vw : Vec (keepM Sd Sc bw bn) bw vs j cu wr
  vn : Vec (keepM Sd Sc bw bn) bn ns k cn wr
  wd : ¬ Sd bw
  wc : ¬ Sc bw
  nd : ¬ Sd bn
  nc : ¬ Sc bn
  ne : bw ≠ bn
  w0 : W.heap.size ≤ bw
  n0 : W.heap.size ≤ bn
section
variable {W wr W' : World} {gd gc bw bn : Nat} {s t s' : DSt} {cu cn : List Int} {vs ns : List Value} {j k : Nat} {Sd Sc : Nat → Prop}
theorem K1.stepD (h : K1 W gd gc s t Sd Sc wr) (hp : DkPost wr Sd gd s' W') : ∃ S', K1 W gd gc s' t S' Sc W' ∧ (∀ k, S' k → Sd k ∨ wr.heap.size ≤ k) ∧ Ext Sd wr W' := by
  obtain ⟨S', hD, hS, he⟩ := hp
  have z := h.be.size
  refine ⟨S', ⟨hD, h.dc.ext he (fun i hi hd => h.dis i hd hi), fun i hi hc => (hS i hi).elim (fun hd => h.dis i hd hc) (fun hw => by have := h.dc.lt i hc; omega), own_from hS h.sd z, h.sc, below_ext h.be z he h.sd⟩, hS, he⟩
theorem K1.stepC (h : K1 W gd gc s t Sd Sc wr) (hp : DkPost wr Sc gc s' W') : ∃ S', K1 W gd gc s s' Sd S' W' ∧ (∀ k, S' k → Sc k ∨ wr.heap.size ≤ k) ∧ Ext Sc wr W' := by
  obtain ⟨S', hD, hS, he⟩ := hp
  have z := h.be.size
  refine ⟨S', ⟨h.dd.ext he (fun i hi hd => h.dis i hi hd), hD, fun i hi hc => (hS i hc).elim (fun hd => h.dis i hi hd) (fun hw => by have := h.dd.lt i hi; omega), h.sd, own_from hS h.sc z, below_ext h.be z he h.sc⟩, hS, he⟩
theorem K1.drew (h : K1 W gd gc s t Sd Sc wr) : K1 W gd gc s t Sd Sc wr.drew := ⟨h.dd.drew, h.dc.drew, h.dis, h.sd, h.sc, h.be.drew⟩
theorem K1.fresh (h : K1 W gd gc s t Sd Sc wr) (hb : Below wr.heap.size wr W') : K1 W gd gc s t Sd Sc W' := ⟨h.dd.below hb, h.dc.below hb, h.dis, h.sd, h.sc, h.be.trans (hb.mono h.be.size)⟩
theorem K1.wrD (h : K1 W gd gc s t Sd Sc wr) {b o : Nat} {d : OpD} (ho : OpAt W b o d) (hm : d.m ≤ 80) {i : Nat} (hC : Calm 4 i s) (hi : i ≤ 100) (at_ : Int) :
    Calls Try.prog 14 #[.pointer (some ⟨gd, 0, none⟩), .int .i64 at_, d.x] wr fun e W' => e = .returned (.int .i64 (s.wrErr at_ d.m)) ∧ DkPost wr Sd gd (s.wr at_ d.data) W' :=
  dk_write h.dd at_ d.x d.m d.data (ho.src.ext (Ext.of_below h.be) (fun _ i _ h1 h2 => by omega)) ho.len (src_dis ho.src h.sd) (by omega) (by have := hC.pl; omega)
theorem K1.wrC (h : K1 W gd gc s t Sd Sc wr) {b o : Nat} {d : OpD} (ho : OpAt W b o d) (hm : d.m ≤ 80) {i : Nat} (hC : Calm 4 i t) (hi : i ≤ 100) (at_ : Int) :
    Calls Try.prog 14 #[.pointer (some ⟨gc, 0, none⟩), .int .i64 at_, d.x] wr fun e W' => e = .returned (.int .i64 (t.wrErr at_ d.m)) ∧ DkPost wr Sc gc (t.wr at_ d.data) W' :=
  dk_write h.dc at_ d.x d.m d.data (ho.src.ext (Ext.of_below h.be) (fun _ i _ h1 h2 => by omega)) ho.len (src_dis ho.src h.sc) (by omega) (by have := hC.pl; omega)
theorem K2.stepD (h : K2 W gd gc bw bn s t cu cn vs ns j k Sd Sc wr) (hp : DkPost wr Sd gd s' W') : ∃ S', K2 W gd gc bw bn s' t cu cn vs ns j k S' Sc W' := by
  obtain ⟨S', h1, hS, he⟩ := h.k1.stepD hp
  have hw := blk_lt h.vw.bv
  have hn := blk_lt h.vn.bv
  have hM : ∀ k, keepM S' Sc bw bn k → keepM Sd Sc bw bn k ∨ wr.heap.size ≤ k := by
    rintro k (hk | hk)
    · exact (hS k hk).imp (fun h => .inl h) id
    · exact .inl (.inr hk)
  exact ⟨S', h1, h.vw.step he h.wd (fun k hk => .inl hk) hM, h.vn.step he h.nd (fun k hk => .inl hk) hM, fun hk => (hS _ hk).elim h.wd (fun h => by omega), h.wc, fun hk => (hS _ hk).elim h.nd (fun h => by omega), h.nc, h.ne, h.w0, h.n0⟩
theorem K2.stepC (h : K2 W gd gc bw bn s t cu cn vs ns j k Sd Sc wr) (hp : DkPost wr Sc gc s' W') : ∃ S', K2 W gd gc bw bn s s' cu cn vs ns j k Sd S' W' := by
  obtain ⟨S', h1, hS, he⟩ := h.k1.stepC hp
  have hw := blk_lt h.vw.bv
  have hn := blk_lt h.vn.bv
  have hM : ∀ k, keepM Sd S' bw bn k → keepM Sd Sc bw bn k ∨ wr.heap.size ≤ k := by
    rintro k (hk | hk | hk)
    · exact .inl (.inl hk)
    · exact (hS k hk).imp (fun h => .inr (.inl h)) id
    · exact .inl (.inr (.inr hk))
  exact ⟨S', h1, h.vw.step he h.wc (fun k hk => .inr (.inl hk)) hM, h.vn.step he h.nc (fun k hk => .inr (.inl hk)) hM, h.wd, fun hk => (hS _ hk).elim h.wc (fun h => by omega), h.nd, fun hk => (hS _ hk).elim h.nc (fun h => by omega), h.ne, h.w0, h.n0⟩
theorem K2.drew (h : K2 W gd gc bw bn s t cu cn vs ns j k Sd Sc wr) : K2 W gd gc bw bn s t cu cn vs ns j k Sd Sc wr.drew := ⟨h.k1.drew, h.vw.drew, h.vn.drew, h.wd, h.wc, h.nd, h.nc, h.ne, h.w0, h.n0⟩
theorem K2.fresh (h : K2 W gd gc bw bn s t cu cn vs ns j k Sd Sc wr) (hb : Below wr.heap.size wr W') : K2 W gd gc bw bn s t cu cn vs ns j k Sd Sc W' := ⟨h.k1.fresh hb, h.vw.fresh hb, h.vn.fresh hb, h.wd, h.wc, h.nd, h.nc, h.ne, h.w0, h.n0⟩
theorem K2.putW (h : K2 W gd gc bw bn s t cu cn vs ns j k Sd Sc wr) (hj : j < 4) (v : Value) (hs : Src wr v 64 (bcells (sec cu j))) (ho : ∀ k, v.ownBlock = some k → ¬ keepM Sd Sc bw bn k ∧ k < wr.heap.size) : K2 W gd gc bw bn s t cu cn (vs.set j v) ns (j + 1) k Sd Sc (wr.setCell ⟨bw, j, none⟩ v) := by
  have he : Ext (· = bw) wr (wr.setCell ⟨bw, j, none⟩ v) := Ext.setCell (S := (· = bw)) _ _ _ rfl
  exact ⟨⟨h.k1.dd.ext he (fun i hi e => h.wd (e ▸ hi)), h.k1.dc.ext he (fun i hi e => h.wc (e ▸ hi)), h.k1.dis, h.k1.sd, h.k1.sc, below_ext h.k1.be h.k1.be.size he (fun i e => e ▸ h.w0)⟩, h.vw.put hj (.inr (.inr (.inl rfl))) v hs ho, h.vn.step he (fun e => h.ne e.symm) (fun i e => .inr (.inr (.inl e))) (fun i hi => .inl hi), h.wd, h.wc, h.nd, h.nc, h.ne, h.w0, h.n0⟩
theorem K2.putN (h : K2 W gd gc bw bn s t cu cn vs ns j k Sd Sc wr) (hk : k < 4) (v : Value) (hs : Src wr v 64 (bcells (sec cn k))) (ho : ∀ k, v.ownBlock = some k → ¬ keepM Sd Sc bw bn k ∧ k < wr.heap.size) : K2 W gd gc bw bn s t cu cn vs (ns.set k v) j (k + 1) Sd Sc (wr.setCell ⟨bn, k, none⟩ v) := by
  have he : Ext (· = bn) wr (wr.setCell ⟨bn, k, none⟩ v) := Ext.setCell (S := (· = bn)) _ _ _ rfl
  exact ⟨⟨h.k1.dd.ext he (fun i hi e => h.nd (e ▸ hi)), h.k1.dc.ext he (fun i hi e => h.nc (e ▸ hi)), h.k1.dis, h.k1.sd, h.k1.sc, below_ext h.k1.be h.k1.be.size he (fun i e => e ▸ h.n0)⟩, h.vw.step he h.ne (fun i e => .inr (.inr (.inr e))) (fun i hi => .inl hi), h.vn.put hk (.inr (.inr (.inr rfl))) v hs ho, h.wd, h.wc, h.nd, h.nc, h.ne, h.w0, h.n0⟩
/-- What a read gives. -/
def KRead (W : World) (gd gc bw bn : Nat) (s t : DSt) (cu cn : List Int) (vs ns : List Value) (j k : Nat) (Sd Sc : Nat → Prop) (l : List Int) (wr : World) (e : Ending) (W' : World) : Prop :=
  ∃ q cap, e = .returned (.tuple #[.slice (some ⟨q, 0, none⟩) 64 cap, .int .i64 0]) ∧ K2 W gd gc bw bn s t cu cn vs ns j k Sd Sc W' ∧ Src W' (.slice (some ⟨q, 0, none⟩) 64 cap) 64 (bcells l) ∧ (∀ k, (Value.slice (some ⟨q, 0, none⟩) 64 cap).ownBlock = some k → ¬ keepM Sd Sc bw bn k ∧ k < W'.heap.size) ∧ Below wr.heap.size wr W'
theorem K2.ofRead (h : K2 W gd gc bw bn s t cu cn vs ns j k Sd Sc wr) {l : List Int} (hl : l.length = 64) {e : Ending} (hr : ReadPost wr l 0 e W') : KRead W gd gc bw bn s t cu cn vs ns j k Sd Sc l wr e W' := by
  obtain ⟨v, rfl, how, hb⟩ := hr
  rw [hl] at how
  obtain ⟨q, cap, rfl, _, _, hq, hq2⟩ := own_form' how (by decide)
  refine ⟨q, cap, rfl, h.fresh hb, own_src how, fun i hi => ?_, hb⟩
  have e : q = i := by simpa [Value.ownBlock] using hi
  subst e
  refine ⟨?_, hq2⟩
  have hw := blk_lt h.vw.bv
  have hm := blk_lt h.vn.bv
  rintro (hk | hk | rfl | rfl)
  · have := h.k1.dd.lt _ hk; omega
  · have := h.k1.dc.lt _ hk; omega
  · omega
  · omega
theorem K2.readD (h : K2 W gd gc bw bn s t cu cn vs ns j k Sd Sc wr) {i : Nat} (hC : Calm 4 i s) (m : Nat) (hm : m < 4) : Calls Try.prog 11 #[.pointer (some ⟨gd, 0, none⟩), .int .i64 m] wr (KRead W gd gc bw bn s t cu cn vs ns j k Sd Sc (sec s.cur m) wr) := by
  have hr := dk_read h.k1.dd m
  rw [(hC.rd m hm).1, (hC.rd m hm).2] at hr
  exact hr.mono fun e W' hp => h.ofRead (sec_len _ 4 m (by rw [hC.ok.cur, hC.n]) hm) hp
theorem K2.readC (h : K2 W gd gc bw bn s t cu cn vs ns j k Sd Sc wr) {i : Nat} (hC : Calm 4 i t) (m : Nat) (hm : m < 4) : Calls Try.prog 11 #[.pointer (some ⟨gc, 0, none⟩), .int .i64 m] wr (KRead W gd gc bw bn s t cu cn vs ns j k Sd Sc (sec t.cur m) wr) := by
  have hr := dk_read h.k1.dc m
  rw [(hC.rd m hm).1, (hC.rd m hm).2] at hr
  exact hr.mono fun e W' hp => h.ofRead (sec_len _ 4 m (by rw [hC.ok.cur, hC.n]) hm) hp
theorem K2.start (h : K1 W gd gc s t Sd Sc wr) : K2 W gd gc wr.heap.size (wr.heap.size + 1) s t cu cn [.slice none 0 0, .slice none 0 0, .slice none 0 0, .slice none 0 0] [.slice none 0 0, .slice none 0 0, .slice none 0 0, .slice none 0 0] 0 0 Sd Sc ((wr.alloc (.cells #[.slice none 0 0, .slice none 0 0, .slice none 0 0, .slice none 0 0] 40)).alloc (.cells #[.slice none 0 0, .slice none 0 0, .slice none 0 0, .slice none 0 0] 40)) := by
  have z := h.be.size
  have b1 := below_new wr (.cells #[.slice none 0 0, .slice none 0 0, .slice none 0 0, .slice none 0 0] 40)
  have e1 : (wr.alloc (.cells #[.slice none 0 0, .slice none 0 0, .slice none 0 0, .slice none 0 0] 40)).heap.size = wr.heap.size + 1 := World.size_alloc _ _
  have b2 := below_new (wr.alloc (.cells #[.slice none 0 0, .slice none 0 0, .slice none 0 0, .slice none 0 0] 40)) (.cells #[.slice none 0 0, .slice none 0 0, .slice none 0 0, .slice none 0 0] 40)
  refine ⟨(h.fresh b1).fresh b2, ⟨rfl, ?_, fun i hi => by omega⟩, ⟨rfl, e1 ▸ heap_alloc_new _ _, fun i hi => by omega⟩, fun hk => Nat.lt_irrefl _ (h.dd.lt _ hk), fun hk => Nat.lt_irrefl _ (h.dc.lt _ hk), fun hk => by have := h.dd.lt _ hk; omega, fun hk => by have := h.dc.lt _ hk; omega, by omega, z, by omega⟩
  have := (Ext.of_fresh (S := fun _ => False) b2).block wr.heap.size (by omega) (fun h => h)
  rw [this]
  exact heap_alloc_new wr _
theorem K2.re (h : K2 W gd gc bw bn s t cu cn vs ns j 0 Sd Sc wr) (cn' : List Int) : K2 W gd gc bw bn s t cu cn' vs ns j 0 Sd Sc wr := ⟨h.k1, h.vw, ⟨h.vn.vl, h.vn.bv, fun i hi => by omega⟩, h.wd, h.wc, h.nd, h.nc, h.ne, h.w0, h.n0⟩
end
theorem Calm.wrDur {N i : Nat} {s : DSt} (h : Calm N i s) (at_ : Int) (b : List Int) : (s.wr at_ b).dur = s.dur := by
  rcases h.cases at_ b with ⟨e, _⟩ | ⟨k, _, hk, hb, e, _⟩ <;> rw [e]
  rfl
/-- What the last region reads. -/
structure RegK (bw bn k : Nat) (v u v0 u0 : Value) (l m : ByteArray) (w : World) : Prop where
  cw : w.cell? ⟨bw, k, none⟩ = some v0
  cn : w.cell? ⟨bn, k, none⟩ = some u0
  sv : (convert 27 9 v).run Try.prog w = .ok (.string l) w
  su : (convert 27 9 u).run Try.prog w = .ok (.string m) w
  s0 : (convert 27 9 v0).run Try.prog w = .ok (.string m) w
  t0 : (convert 27 9 u0).run Try.prog w = .ok (.string l) w
attribute [local go_sem ↓] Go.wp_at_zero Go.wp_at_succ
set_option maxRecDepth 4000 in
set_option maxHeartbeats 4000000 in
theorem keeps_ok (W : World) (A B : Option Addr) (na ca nb cb : Nat) (fa fb : Nat → OpD) (ha : OpsV W A na fa) (hb : OpsV W B nb fb) :
    Calls Try.prog 5 #[.slice A na ca, .slice B nb cb] W fun e W' => e = .returned (.bool true) ∧ Below W.heap.size W W' := by
  refine calls_hide fun P HPost => ?_
  go_enter Try.func5, Try.ntmps5
  go_wp2_with fail
  (with_reducible refine (fits_calls _ A na ca fa ha 10).mono ?_)
  rintro e w' ⟨b1, rfl, rfl, hfa⟩
  cases b1 with
  | false =>
    clear hfa
    go_wp2_with fail
    exact HPost.out _ _ ⟨rfl, Below.refl _ _⟩
  | true =>
  have hfaH := Lib.hid (hfa rfl)
  clear hfa
  go_wp2_with fail
  (with_reducible refine (fits_calls _ B nb cb fb hb 60).mono ?_)
  rintro e w' ⟨b2, rfl, rfl, hfb⟩
  cases b2 with
  | false =>
    clear hfb
    go_wp2_with fail
    exact HPost.out _ _ ⟨rfl, Below.refl _ _⟩
  | true =>
  have hfbH := Lib.hid (hfb rfl)
  clear hfb
  go_wp2_with fail
  (with_reducible refine (dk_new _ 4 4 rfl (by decide) (by decide)).mono ?_)
  rintro e W1 ⟨gd, S1, rfl, D1, hS1, hB1⟩
  go_wp2_with fail
  (with_reducible refine (dk_new _ 4 4 rfl (by decide) (by decide)).mono ?_)
  rintro e W2 ⟨gc, S2, rfl, D2, hS2, hB2⟩
  have L0 : K1 W gd gc (DSt.new 4) (DSt.new 4) S1 S2 W2 := ⟨D1.below hB2, D2, fun i h1 h2 => by have := D1.lt i h1; have := hS2 i h2; omega, hS1, fun i hi => Nat.le_trans hB1.size (hS2 i hi), hB1.trans (hB2.mono hB1.size)⟩
  have hna : na ≤ 10 := by have := hfaH.out.1; omega
  have hnb : nb ≤ 60 := by have := hfbH.out.1; omega
  clear D1 D2 hS1 hS2 hB1 hB2
  go_wp2_with fail
  go_loopw [9] (fun i wr => ∃ j : Nat, j ≤ na ∧ i = .int .i64 j ∧ ∃ s Sd Sc, K1 W gd gc s s Sd Sc wr ∧ Calm 4 j s ∧ Same s) (fun i _ => na - (intOf i).toNat)
  case atStart => exact ⟨0, Nat.zero_le _, rfl, _, _, _, L0, (Calm.new 4 (by decide) (by decide)).1, (Calm.new 4 (by decide) (by decide)).2⟩
  case round =>
    obtain ⟨j, hj, rfl, s, Sd, Sc, hK, hC, hSm⟩ := hrel
    clear L0
    by_cases hlt : j < na
    · obtain ⟨b, off, rfl, hf⟩ := ha.2 (by omega)
      have hop := hf j hlt
      have hm80 := hfaH.out.2 j hlt
      have hoc := hop.cells hK.be
      have hsm := small_calls (fa j).at_ 4 (by decide) (by decide)
      have hw1 := hK.drew.wrD hop hm80 hC (by omega) (smallZ (fa j).at_ 4)
      have HOP := Lib.hid hop
      have HSM := Lib.hid hSm
      clear hf hop hSm
      go_wp2_with fail
      refine reg_start (OpCells b (off + j * 5) (fa j)) (by kernel_rfl) ?_
      have hS := hoc.drew
      refine reg_take 0 (v := ?_) rfl (by kernel_rfl) (by rfl) ?_ hS ?_; rotate_left; focus (rintro w ⟨c1, c4⟩; go_simp; try with_reducible rfl)
      simp only [Act.put, List.setIfInBounds_toArray, List.set_cons_zero, List.set_cons_succ]
      refine reg_take 1 (v := ?_) rfl (by kernel_rfl) (by rfl) ?_ hS ?_; rotate_left; focus (rintro w ⟨c1, c4⟩; go_simp; try with_reducible rfl)
      simp only [Act.put, List.setIfInBounds_toArray, List.set_cons_zero, List.set_cons_succ]
      refine reg_take 2 (v := ?_) rfl (by kernel_rfl) (by rfl) ?_ hS ?_; rotate_left; focus (rintro w ⟨c1, c4⟩; go_simp; try with_reducible rfl)
      simp only [Act.put, List.setIfInBounds_toArray, List.set_cons_zero, List.set_cons_succ]
      refine reg_take 3 (v := ?_) rfl (by kernel_rfl) (by rfl) ?_ hS ?_; rotate_left; focus (rintro w ⟨c1, c4⟩; go_simp; try with_reducible rfl)
      simp only [Act.put, List.setIfInBounds_toArray, List.set_cons_zero, List.set_cons_succ]
      refine reg_take 4 (v := ?_) rfl (by kernel_rfl) (by rfl) ?_ hS ?_; rotate_left; focus (rintro w ⟨c1, c4⟩; go_simp; try with_reducible rfl)
      simp only [Act.put, List.setIfInBounds_toArray, List.set_cons_zero, List.set_cons_succ]
      refine reg_take 5 (v := ?_) rfl (by kernel_rfl) (by rfl) ?_ hS ?_; rotate_left; focus (rintro w ⟨c1, c4⟩; go_simp; try with_reducible rfl)
      simp only [Act.put, List.setIfInBounds_toArray, List.set_cons_zero, List.set_cons_succ]
      refine reg_take 7 (v := ?_) rfl (by kernel_rfl) (by rfl) ?_ hS ?_; rotate_left; focus (rintro w ⟨c1, c4⟩; go_simp; try with_reducible rfl)
      simp only [Act.put, List.setIfInBounds_toArray, List.set_cons_zero, List.set_cons_succ]
      refine reg_take 8 (v := ?_) rfl (by kernel_rfl) (by rfl) ?_ hS ?_; rotate_left; focus (rintro w ⟨c1, c4⟩; go_simp; try with_reducible rfl)
      simp only [Act.put, List.setIfInBounds_toArray, List.set_cons_zero, List.set_cons_succ]
      refine reg_take 9 (v := ?_) rfl (by kernel_rfl) (by rfl) ?_ hS ?_; rotate_left; focus (rintro w ⟨c1, c4⟩; go_simp; try with_reducible rfl)
      simp only [Act.put, List.setIfInBounds_toArray, List.set_cons_zero, List.set_cons_succ]
      refine reg_take 10 (v := ?_) rfl (by kernel_rfl) (by rfl) ?_ hS ?_; rotate_left; focus (rintro w ⟨c1, c4⟩; go_simp; try with_reducible rfl)
      simp only [Act.put, List.setIfInBounds_toArray, List.set_cons_zero, List.set_cons_succ]
      refine reg_take 11 (v := ?_) rfl (by kernel_rfl) (by rfl) ?_ hS ?_; rotate_left; focus (rintro w ⟨c1, c4⟩; go_simp; try with_reducible rfl)
      simp only [Act.put, List.setIfInBounds_toArray, List.set_cons_zero, List.set_cons_succ]
      refine reg_call 6 (by kernel_rfl) rfl (by rfl) ?_ ((hsm _).mono ?_); focus go_simp
      rintro e w' ⟨rfl, rfl⟩
      refine ⟨_, rfl, hS, ?_⟩
      simp only [Act.put, List.setIfInBounds_toArray, List.set_cons_zero, List.set_cons_succ]
      refine reg_call 12 (by kernel_rfl) rfl (by rfl) ?_ (hw1.mono ?_); focus go_simp
      rintro e W5 ⟨rfl, hp⟩
      obtain ⟨S5, hK5, _, _⟩ := hK.drew.stepD hp
      refine ⟨_, rfl, HOP.out.cells hK5.be, ?_⟩
      simp only [Act.put, List.setIfInBounds_toArray, List.set_cons_zero, List.set_cons_succ]
      refine reg_done (by kernel_rfl) ?_
      have hoc := HOP.out.cells hK5.be
      have hw2 := hK5.drew.wrC HOP.out hm80 hC (by omega) (smallZ (fa j).at_ 4)
      clear hS hw1 hp hK
      go_wp2_with fail
      refine reg_start (OpCells b (off + j * 5) (fa j)) (by kernel_rfl) ?_
      have hS := hoc.drew
      refine reg_take 0 (v := ?_) rfl (by kernel_rfl) (by rfl) ?_ hS ?_; rotate_left; focus (rintro w ⟨c1, c4⟩; go_simp; try with_reducible rfl)
      simp only [Act.put, List.setIfInBounds_toArray, List.set_cons_zero, List.set_cons_succ]
      refine reg_take 1 (v := ?_) rfl (by kernel_rfl) (by rfl) ?_ hS ?_; rotate_left; focus (rintro w ⟨c1, c4⟩; go_simp; try with_reducible rfl)
      simp only [Act.put, List.setIfInBounds_toArray, List.set_cons_zero, List.set_cons_succ]
      refine reg_take 2 (v := ?_) rfl (by kernel_rfl) (by rfl) ?_ hS ?_; rotate_left; focus (rintro w ⟨c1, c4⟩; go_simp; try with_reducible rfl)
      simp only [Act.put, List.setIfInBounds_toArray, List.set_cons_zero, List.set_cons_succ]
      refine reg_take 3 (v := ?_) rfl (by kernel_rfl) (by rfl) ?_ hS ?_; rotate_left; focus (rintro w ⟨c1, c4⟩; go_simp; try with_reducible rfl)
      simp only [Act.put, List.setIfInBounds_toArray, List.set_cons_zero, List.set_cons_succ]
      refine reg_take 4 (v := ?_) rfl (by kernel_rfl) (by rfl) ?_ hS ?_; rotate_left; focus (rintro w ⟨c1, c4⟩; go_simp; try with_reducible rfl)
      simp only [Act.put, List.setIfInBounds_toArray, List.set_cons_zero, List.set_cons_succ]
      refine reg_take 5 (v := ?_) rfl (by kernel_rfl) (by rfl) ?_ hS ?_; rotate_left; focus (rintro w ⟨c1, c4⟩; go_simp; try with_reducible rfl)
      simp only [Act.put, List.setIfInBounds_toArray, List.set_cons_zero, List.set_cons_succ]
      refine reg_take 7 (v := ?_) rfl (by kernel_rfl) (by rfl) ?_ hS ?_; rotate_left; focus (rintro w ⟨c1, c4⟩; go_simp; try with_reducible rfl)
      simp only [Act.put, List.setIfInBounds_toArray, List.set_cons_zero, List.set_cons_succ]
      refine reg_take 8 (v := ?_) rfl (by kernel_rfl) (by rfl) ?_ hS ?_; rotate_left; focus (rintro w ⟨c1, c4⟩; go_simp; try with_reducible rfl)
      simp only [Act.put, List.setIfInBounds_toArray, List.set_cons_zero, List.set_cons_succ]
      refine reg_take 9 (v := ?_) rfl (by kernel_rfl) (by rfl) ?_ hS ?_; rotate_left; focus (rintro w ⟨c1, c4⟩; go_simp; try with_reducible rfl)
      simp only [Act.put, List.setIfInBounds_toArray, List.set_cons_zero, List.set_cons_succ]
      refine reg_take 10 (v := ?_) rfl (by kernel_rfl) (by rfl) ?_ hS ?_; rotate_left; focus (rintro w ⟨c1, c4⟩; go_simp; try with_reducible rfl)
      simp only [Act.put, List.setIfInBounds_toArray, List.set_cons_zero, List.set_cons_succ]
      refine reg_take 11 (v := ?_) rfl (by kernel_rfl) (by rfl) ?_ hS ?_; rotate_left; focus (rintro w ⟨c1, c4⟩; go_simp; try with_reducible rfl)
      simp only [Act.put, List.setIfInBounds_toArray, List.set_cons_zero, List.set_cons_succ]
      refine reg_call 6 (by kernel_rfl) rfl (by rfl) ?_ ((hsm _).mono ?_); focus go_simp
      rintro e w' ⟨rfl, rfl⟩
      refine ⟨_, rfl, hS, ?_⟩
      simp only [Act.put, List.setIfInBounds_toArray, List.set_cons_zero, List.set_cons_succ]
      refine reg_call 12 (by kernel_rfl) rfl (by rfl) ?_ (hw2.mono ?_); focus go_simp
      rintro e W5 ⟨rfl, hp⟩
      obtain ⟨S6, hK6, _, _⟩ := hK5.drew.stepC hp
      refine ⟨_, rfl, HOP.out.cells hK6.be, ?_⟩
      simp only [Act.put, List.setIfInBounds_toArray, List.set_cons_zero, List.set_cons_succ]
      refine reg_done (by kernel_rfl) ?_
      clear hS hw2 hp hK5 hoc
      go_wp2_with fail
      go_roundw
      case rel => exact ⟨j + 1, by omega, by go_num, _, _, _, hK6, hC.wr _ _, HSM.out.wr hC _ _⟩
      case measure => simp [intOf]; omega
    · obtain rfl : j = na := by omega
      clear hlt hj
      have hfl := dk_flush hK.dd (by have := hC.pl; omega)
      rw [hC.flErr] at hfl
      have hflc := hC.fl hSm
      go_wp2_with (go_at_call 16; (with_reducible refine hfl.mono ?_); rintro e W3 ⟨rfl, hp3⟩)
      obtain ⟨S3, hK3, _, _⟩ := hK.stepD hp3
      have hfl2 := dk_flush hK3.dc (by have := hC.pl; omega)
      rw [hC.flErr] at hfl2
      (with_reducible refine hfl2.mono ?_)
      rintro e W4 ⟨rfl, hp4⟩
      obtain ⟨S4, hK4, _, _⟩ := hK3.stepC hp4
      obtain ⟨x0, hx0⟩ : ∃ x0, x0 = s.fl := ⟨_, rfl⟩
      rw [← hx0] at hK4 hflc
      have L1 := K2.start (cu := x0.cur) (cn := x0.cur) hK4
      obtain ⟨h1, h2, hC2, h4⟩ := hflc
      have hdur : x0.dur = x0.cur := by rw [h1, h2]
      have hS0 : Same x0 := by unfold Same; rw [hdur, h4]; rfl
      have h0l : x0.cur.length = 4 * 64 := by rw [hC2.ok.cur, hC2.n]
      have HL0 := Lib.hid h0l
      have HDUR := Lib.hid hdur
      have HS0 := Lib.hid hS0
      clear h0l hfl hfl2 h1 h2 h4 hdur hx0 hS0 hp3 hp4 hK hK3 hK4 hC hSm
      go_wp2_with fail
      generalize W4.heap.size = bw at *
      go_loopw [12] (fun i wr => ∃ k : Nat, k ≤ 4 ∧ i = .int .i64 k ∧ ∃ vs, K2 W gd gc bw (bw + 1) x0 x0 x0.cur x0.cur vs [.slice none 0 0, .slice none 0 0, .slice none 0 0, .slice none 0 0] k 0 S3 S4 wr) (fun i _ => 4 - (intOf i).toNat)
      case atStart => exact ⟨0, by omega, rfl, _, L1⟩
      case round =>
        clear L1
        obtain ⟨k, hk, rfl, vs, hR⟩ := hrel
        by_cases hlt : k < 4
        · have hrd := hR.readD hC2 k hlt
          go_wp2_with fail
          (with_reducible refine hrd.mono ?_)
          rintro e W5 ⟨q, cap, rfl, hR5, hv5, ho5, _⟩
          obtain ⟨u5, c5⟩ := hR5.vw.cell k hlt
          have z5 := frozen_of_blk hR5.vw.bv k
          go_wp2_with fail
          go_roundw
          case rel => exact ⟨k + 1, by omega, by go_num, _, hR5.putW hlt _ hv5 ho5⟩
          case measure => simp [intOf]; omega
        · have hk4 : k = 4 := by omega
          have L3 : K2 W gd gc bw (bw + 1) x0 x0 x0.cur x0.cur vs [.slice none 0 0, .slice none 0 0, .slice none 0 0, .slice none 0 0] 4 0 S3 S4 wr := hk4 ▸ hR
          clear hk4 hR
          go_wp2_with fail
          go_loopw [13] (fun i wr => ∃ j : Nat, j ≤ nb ∧ i = .int .i64 j ∧ ∃ s Sd Sc, K2 W gd gc bw (bw + 1) s s x0.cur x0.cur vs [.slice none 0 0, .slice none 0 0, .slice none 0 0, .slice none 0 0] 4 0 Sd Sc wr ∧ Calm 4 j s ∧ Same s ∧ Hid (s.dur = x0.cur)) (fun i _ => nb - (intOf i).toNat)
          case atStart => exact ⟨0, Nat.zero_le _, rfl, _, _, _, L3, hC2, HS0.out, HDUR⟩
          case round =>
            clear L3
            obtain ⟨i, hi, rfl, s, Sd, Sc, hK, hC, hSm, HD⟩ := hrel
            by_cases hlt : i < nb
            · obtain ⟨b, off, rfl, hf⟩ := hb.2 (by omega)
              have hop := hf i hlt
              have hm80 := hfbH.out.2 i hlt
              have hoc := hop.cells hK.k1.be
              have hsm := small_calls (fb i).at_ 4 (by decide) (by decide)
              have hw1 := hK.drew.k1.wrD hop hm80 hC (by omega) (smallZ (fb i).at_ 4)
              have HOP := Lib.hid hop
              have HSM := Lib.hid hSm
              clear hf hop hSm
              go_wp2_with fail
              refine reg_start (OpCells b (off + i * 5) (fb i)) (by kernel_rfl) ?_
              have hS := hoc.drew
              refine reg_take 0 (v := ?_) rfl (by kernel_rfl) (by rfl) ?_ hS ?_; rotate_left; focus (rintro w ⟨c1, c4⟩; go_simp; try with_reducible rfl)
              simp only [Act.put, List.setIfInBounds_toArray, List.set_cons_zero, List.set_cons_succ]
              refine reg_take 1 (v := ?_) rfl (by kernel_rfl) (by rfl) ?_ hS ?_; rotate_left; focus (rintro w ⟨c1, c4⟩; go_simp; try with_reducible rfl)
              simp only [Act.put, List.setIfInBounds_toArray, List.set_cons_zero, List.set_cons_succ]
              refine reg_take 2 (v := ?_) rfl (by kernel_rfl) (by rfl) ?_ hS ?_; rotate_left; focus (rintro w ⟨c1, c4⟩; go_simp; try with_reducible rfl)
              simp only [Act.put, List.setIfInBounds_toArray, List.set_cons_zero, List.set_cons_succ]
              refine reg_take 3 (v := ?_) rfl (by kernel_rfl) (by rfl) ?_ hS ?_; rotate_left; focus (rintro w ⟨c1, c4⟩; go_simp; try with_reducible rfl)
              simp only [Act.put, List.setIfInBounds_toArray, List.set_cons_zero, List.set_cons_succ]
              refine reg_take 4 (v := ?_) rfl (by kernel_rfl) (by rfl) ?_ hS ?_; rotate_left; focus (rintro w ⟨c1, c4⟩; go_simp; try with_reducible rfl)
              simp only [Act.put, List.setIfInBounds_toArray, List.set_cons_zero, List.set_cons_succ]
              refine reg_take 5 (v := ?_) rfl (by kernel_rfl) (by rfl) ?_ hS ?_; rotate_left; focus (rintro w ⟨c1, c4⟩; go_simp; try with_reducible rfl)
              simp only [Act.put, List.setIfInBounds_toArray, List.set_cons_zero, List.set_cons_succ]
              refine reg_take 7 (v := ?_) rfl (by kernel_rfl) (by rfl) ?_ hS ?_; rotate_left; focus (rintro w ⟨c1, c4⟩; go_simp; try with_reducible rfl)
              simp only [Act.put, List.setIfInBounds_toArray, List.set_cons_zero, List.set_cons_succ]
              refine reg_take 8 (v := ?_) rfl (by kernel_rfl) (by rfl) ?_ hS ?_; rotate_left; focus (rintro w ⟨c1, c4⟩; go_simp; try with_reducible rfl)
              simp only [Act.put, List.setIfInBounds_toArray, List.set_cons_zero, List.set_cons_succ]
              refine reg_take 9 (v := ?_) rfl (by kernel_rfl) (by rfl) ?_ hS ?_; rotate_left; focus (rintro w ⟨c1, c4⟩; go_simp; try with_reducible rfl)
              simp only [Act.put, List.setIfInBounds_toArray, List.set_cons_zero, List.set_cons_succ]
              refine reg_take 10 (v := ?_) rfl (by kernel_rfl) (by rfl) ?_ hS ?_; rotate_left; focus (rintro w ⟨c1, c4⟩; go_simp; try with_reducible rfl)
              simp only [Act.put, List.setIfInBounds_toArray, List.set_cons_zero, List.set_cons_succ]
              refine reg_take 11 (v := ?_) rfl (by kernel_rfl) (by rfl) ?_ hS ?_; rotate_left; focus (rintro w ⟨c1, c4⟩; go_simp; try with_reducible rfl)
              simp only [Act.put, List.setIfInBounds_toArray, List.set_cons_zero, List.set_cons_succ]
              refine reg_call 6 (by kernel_rfl) rfl (by rfl) ?_ ((hsm _).mono ?_); focus go_simp
              rintro e w' ⟨rfl, rfl⟩
              refine ⟨_, rfl, hS, ?_⟩
              simp only [Act.put, List.setIfInBounds_toArray, List.set_cons_zero, List.set_cons_succ]
              refine reg_call 12 (by kernel_rfl) rfl (by rfl) ?_ (hw1.mono ?_); focus go_simp
              rintro e W5 ⟨rfl, hp⟩
              obtain ⟨S5, hK5⟩ := hK.drew.stepD hp
              refine ⟨_, rfl, HOP.out.cells hK5.k1.be, ?_⟩
              simp only [Act.put, List.setIfInBounds_toArray, List.set_cons_zero, List.set_cons_succ]
              refine reg_done (by kernel_rfl) ?_
              have hoc := HOP.out.cells hK5.k1.be
              have hw2 := hK5.drew.k1.wrC HOP.out hm80 hC (by omega) (smallZ (fb i).at_ 4)
              clear hS hw1 hp hK
              go_wp2_with fail
              refine reg_start (OpCells b (off + i * 5) (fb i)) (by kernel_rfl) ?_
              have hS := hoc.drew
              refine reg_take 0 (v := ?_) rfl (by kernel_rfl) (by rfl) ?_ hS ?_; rotate_left; focus (rintro w ⟨c1, c4⟩; go_simp; try with_reducible rfl)
              simp only [Act.put, List.setIfInBounds_toArray, List.set_cons_zero, List.set_cons_succ]
              refine reg_take 1 (v := ?_) rfl (by kernel_rfl) (by rfl) ?_ hS ?_; rotate_left; focus (rintro w ⟨c1, c4⟩; go_simp; try with_reducible rfl)
              simp only [Act.put, List.setIfInBounds_toArray, List.set_cons_zero, List.set_cons_succ]
              refine reg_take 2 (v := ?_) rfl (by kernel_rfl) (by rfl) ?_ hS ?_; rotate_left; focus (rintro w ⟨c1, c4⟩; go_simp; try with_reducible rfl)
              simp only [Act.put, List.setIfInBounds_toArray, List.set_cons_zero, List.set_cons_succ]
              refine reg_take 3 (v := ?_) rfl (by kernel_rfl) (by rfl) ?_ hS ?_; rotate_left; focus (rintro w ⟨c1, c4⟩; go_simp; try with_reducible rfl)
              simp only [Act.put, List.setIfInBounds_toArray, List.set_cons_zero, List.set_cons_succ]
              refine reg_take 4 (v := ?_) rfl (by kernel_rfl) (by rfl) ?_ hS ?_; rotate_left; focus (rintro w ⟨c1, c4⟩; go_simp; try with_reducible rfl)
              simp only [Act.put, List.setIfInBounds_toArray, List.set_cons_zero, List.set_cons_succ]
              refine reg_take 5 (v := ?_) rfl (by kernel_rfl) (by rfl) ?_ hS ?_; rotate_left; focus (rintro w ⟨c1, c4⟩; go_simp; try with_reducible rfl)
              simp only [Act.put, List.setIfInBounds_toArray, List.set_cons_zero, List.set_cons_succ]
              refine reg_take 7 (v := ?_) rfl (by kernel_rfl) (by rfl) ?_ hS ?_; rotate_left; focus (rintro w ⟨c1, c4⟩; go_simp; try with_reducible rfl)
              simp only [Act.put, List.setIfInBounds_toArray, List.set_cons_zero, List.set_cons_succ]
              refine reg_take 8 (v := ?_) rfl (by kernel_rfl) (by rfl) ?_ hS ?_; rotate_left; focus (rintro w ⟨c1, c4⟩; go_simp; try with_reducible rfl)
              simp only [Act.put, List.setIfInBounds_toArray, List.set_cons_zero, List.set_cons_succ]
              refine reg_take 9 (v := ?_) rfl (by kernel_rfl) (by rfl) ?_ hS ?_; rotate_left; focus (rintro w ⟨c1, c4⟩; go_simp; try with_reducible rfl)
              simp only [Act.put, List.setIfInBounds_toArray, List.set_cons_zero, List.set_cons_succ]
              refine reg_take 10 (v := ?_) rfl (by kernel_rfl) (by rfl) ?_ hS ?_; rotate_left; focus (rintro w ⟨c1, c4⟩; go_simp; try with_reducible rfl)
              simp only [Act.put, List.setIfInBounds_toArray, List.set_cons_zero, List.set_cons_succ]
              refine reg_take 11 (v := ?_) rfl (by kernel_rfl) (by rfl) ?_ hS ?_; rotate_left; focus (rintro w ⟨c1, c4⟩; go_simp; try with_reducible rfl)
              simp only [Act.put, List.setIfInBounds_toArray, List.set_cons_zero, List.set_cons_succ]
              refine reg_call 6 (by kernel_rfl) rfl (by rfl) ?_ ((hsm _).mono ?_); focus go_simp
              rintro e w' ⟨rfl, rfl⟩
              refine ⟨_, rfl, hS, ?_⟩
              simp only [Act.put, List.setIfInBounds_toArray, List.set_cons_zero, List.set_cons_succ]
              refine reg_call 12 (by kernel_rfl) rfl (by rfl) ?_ (hw2.mono ?_); focus go_simp
              rintro e W5 ⟨rfl, hp⟩
              obtain ⟨S6, hK6⟩ := hK5.drew.stepC hp
              refine ⟨_, rfl, HOP.out.cells hK6.k1.be, ?_⟩
              simp only [Act.put, List.setIfInBounds_toArray, List.set_cons_zero, List.set_cons_succ]
              refine reg_done (by kernel_rfl) ?_
              clear hS hw2 hp hK5 hoc
              go_wp2_with fail
              go_roundw
              case rel => exact ⟨i + 1, by omega, by go_num, _, _, _, hK6, hC.wr _ _, HSM.out.wr hC _ _, Lib.hid ((hC.wrDur _ _).trans HD.out)⟩
              case measure => simp [intOf]; omega
            · obtain rfl : i = nb := by omega
              clear hlt hi
              have L4 := hK.re s.cur
              have h1l : s.cur.length = 4 * 64 := by rw [hC.ok.cur, hC.n]
              have HL1 := Lib.hid h1l
              have HSM := Lib.hid hSm
              clear hK h1l hSm
              go_wp2_with fail
              go_loopw [14] (fun i wr => ∃ k : Nat, k ≤ 4 ∧ i = .int .i64 k ∧ ∃ ns, K2 W gd gc bw (bw + 1) s s x0.cur s.cur vs ns 4 k Sd Sc wr) (fun i _ => 4 - (intOf i).toNat)
              case atStart => exact ⟨0, by omega, rfl, _, L4⟩
              case round =>
                clear L4
                obtain ⟨l, hl, rfl, ns, hR⟩ := hrel
                by_cases hlt : l < 4
                · have hrd := hR.readD hC l hlt
                  go_wp2_with fail
                  (with_reducible refine hrd.mono ?_)
                  rintro e W5 ⟨q, cap, rfl, hR5, hv5, ho5, _⟩
                  obtain ⟨u5, c5⟩ := hR5.vn.cell l hlt
                  have z5 := frozen_of_blk hR5.vn.bv l
                  go_wp2_with fail
                  go_roundw
                  case rel => exact ⟨l + 1, by omega, by go_num, _, hR5.putN hlt _ hv5 ho5⟩
                  case measure => simp [intOf]; omega
                · have hl4 : l = 4 := by omega
                  have hR : K2 W gd gc bw (bw + 1) s s x0.cur s.cur vs ns 4 4 Sd Sc wr := hl4 ▸ hR
                  clear hl4
                  have hcr := dk_crash hR.k1.dd 18446744073709551615 (-1) (by decide) (by decide) (by decide) (by decide) (by have := hC.pl; omega)
                  obtain ⟨x, hx⟩ : ∃ x, x = ({ s.cr 18446744073709551615 (-1) with on := true, ar := false } : DSt) := ⟨_, rfl⟩
                  obtain ⟨y, hy⟩ : ∃ y, y = ({ s.cr 0 0 with on := true, ar := false } : DSt) := ⟨_, rfl⟩
                  obtain ⟨hCx, _, hx3⟩ := hC.cr _ _ x hx
                  obtain ⟨hCy, _, hy3⟩ := hC.cr _ _ y hy
                  rw [crTo_all _ _ _ (fun p hp => (hC.ok.pend p hp).2) _ (Nat.le_refl _), ← HSM.out] at hx3
                  rw [crTo_none, HD.out] at hy3
                  have HX := Lib.hid hx
                  have HY := Lib.hid hy
                  have HX3 := Lib.hid hx3
                  have HY3 := Lib.hid hy3
                  clear hx hy hx3 hy3
                  go_wp2_with (go_at_call 17; (with_reducible refine hcr.mono ?_); rintro e W4 ⟨rfl, hp4⟩)
                  obtain ⟨Sd4, hR4⟩ := hR.stepD hp4
                  have hcr2 := dk_crash hR4.k1.dc 0 0 (by decide) (by decide) (by decide) (by decide) (by have := hC.pl; omega)
                  clear hcr hp4 hR
                  (with_reducible refine hcr2.mono ?_)
                  rintro e W5 ⟨rfl, hp5⟩
                  obtain ⟨Sc5, hR5⟩ := hR4.stepC hp5
                  clear hcr2 hp5 hR4
                  go_wp2_with fail
                  (with_reducible refine (dk_powerOn hR5.k1.dd).mono ?_)
                  rintro e W6 ⟨rfl, hp6⟩
                  rw [← HX.out] at hp6
                  obtain ⟨Sd6, hR6⟩ := hR5.stepD hp6
                  clear hp6 hR5
                  go_wp2_with fail
                  (with_reducible refine (dk_powerOn hR6.k1.dc).mono ?_)
                  rintro e W7 ⟨rfl, hp7⟩
                  rw [← HY.out] at hp7
                  obtain ⟨Sc7, hR7⟩ := hR6.stepC hp7
                  clear hp7 hR6
                  go_wp2_with fail
                  go_loopw [15, 16, 17, 18, 19] (fun i u1 u2 u3 u4 wr => ∃ k : Nat, k ≤ 4 ∧ i = .int .i64 k ∧ K2 W gd gc bw (bw + 1) x y x0.cur s.cur vs ns 4 4 Sd6 Sc7 wr) (fun i _ _ _ _ _ => 4 - (intOf i).toNat)
                  case atStart => exact ⟨0, by omega, rfl, hR7⟩
                  case round =>
                    clear hR7
                    obtain ⟨m, hm, rfl, hR⟩ := hrel
                    by_cases hlt : m < 4
                    · have hrd := hR.readD hCx m hlt
                      rw [HX3.out] at hrd
                      go_wp2_with fail
                      (with_reducible refine hrd.mono ?_)
                      rintro e W8 ⟨q, cap, rfl, hR8, hv8, ho8, _⟩
                      clear hrd hR
                      have hrd := hR8.readC hCy m hlt
                      rw [HY3.out] at hrd
                      go_wp2_with fail
                      (with_reducible refine hrd.mono ?_)
                      rintro e W9 ⟨q2, cap2, rfl, hR9, hv9, ho9, hB9⟩
                      have hv8 := hv8.fresh hB9
                      clear hrd hR8 hB9 ho8 ho9
                      obtain ⟨v0, hv0, hs0, _⟩ := hR9.vw.val m hlt
                      obtain ⟨u0, hu0, hu1, _⟩ := hR9.vn.val m hlt
                      have cw := cell_of_blk hR9.vw.bv m v0 (by rw [List.getElem?_toArray]; exact hv0)
                      have cn := cell_of_blk hR9.vn.bv m u0 (by rw [List.getElem?_toArray]; exact hu0)
                      have e0 := conv_sec hs0.drew HL0.out hlt
                      have f0 := conv_sec hu1.drew HL1.out hlt
                      have e1 := conv_sec hv8.drew HL1.out hlt
                      have f1 := conv_sec hv9.drew HL0.out hlt
                      obtain ⟨t0, ht0⟩ : ∃ t, strOfNums (sec x0.cur m) = t := ⟨_, rfl⟩
                      obtain ⟨t1, ht1⟩ : ∃ t, strOfNums (sec s.cur m) = t := ⟨_, rfl⟩
                      rw [ht0] at e0 f1
                      rw [ht1] at e1 f0
                      clear hv8 hv9 hs0 hu1 hv0 hu0 ht0 ht1
                      go_wp2_with fail
                      have hS : RegK bw (bw + 1) m (.slice (some ⟨q, 0, none⟩) 64 cap) (.slice (some ⟨q2, 0, none⟩) 64 cap2) v0 u0 t1 t0 W9.drew := ⟨cw, cn, e1, f1, e0, f0⟩
                      refine reg_start (RegK bw (bw + 1) m (.slice (some ⟨q, 0, none⟩) 64 cap) (.slice (some ⟨q2, 0, none⟩) 64 cap2) v0 u0 t1 t0) (by kernel_rfl) ?_
                      clear cw cn e1 f1 e0 f0
                      refine reg_take 0 (v := ?_) rfl (by kernel_rfl) (by rfl) ?_ hS ?_; rotate_left; focus (rintro w ⟨cw, cn, sv, su, s0, t0⟩; go_simp; try with_reducible rfl)
                      simp only [Act.put, List.setIfInBounds_toArray, List.set_cons_zero, List.set_cons_succ]
                      refine reg_take 1 (v := ?_) rfl (by kernel_rfl) (by rfl) ?_ hS ?_; rotate_left; focus (rintro w ⟨cw, cn, sv, su, s0, t0⟩; go_simp; try with_reducible rfl)
                      simp only [Act.put, List.setIfInBounds_toArray, List.set_cons_zero, List.set_cons_succ]
                      refine reg_take 2 (v := ?_) rfl (by kernel_rfl) (by rfl) ?_ hS ?_; rotate_left; focus (rintro w ⟨cw, cn, sv, su, s0, t0⟩; go_simp; try with_reducible rfl)
                      simp only [Act.put, List.setIfInBounds_toArray, List.set_cons_zero, List.set_cons_succ]
                      refine reg_take 3 (v := ?_) rfl (by kernel_rfl) (by rfl) ?_ hS ?_; rotate_left; focus (rintro w ⟨cw, cn, sv, su, s0, t0⟩; go_simp; try with_reducible rfl)
                      simp only [Act.put, List.setIfInBounds_toArray, List.set_cons_zero, List.set_cons_succ]
                      refine reg_take 4 (v := ?_) rfl (by kernel_rfl) (by rfl) ?_ hS ?_; rotate_left; focus (rintro w ⟨cw, cn, sv, su, s0, t0⟩; go_simp; try with_reducible rfl)
                      simp only [Act.put, List.setIfInBounds_toArray, List.set_cons_zero, List.set_cons_succ]
                      refine reg_take 5 (v := ?_) rfl (by kernel_rfl) (by rfl) ?_ hS ?_; rotate_left; focus (rintro w ⟨cw, cn, sv, su, s0, t0⟩; go_simp; try with_reducible rfl)
                      simp only [Act.put, List.setIfInBounds_toArray, List.set_cons_zero, List.set_cons_succ]
                      refine reg_take 6 (v := ?_) rfl (by kernel_rfl) (by rfl) ?_ hS ?_; rotate_left; focus (rintro w ⟨cw, cn, sv, su, s0, t0⟩; go_simp; try with_reducible rfl)
                      simp only [Act.put, List.setIfInBounds_toArray, List.set_cons_zero, List.set_cons_succ]
                      refine reg_take 7 (v := ?_) rfl (by kernel_rfl) (by rfl) ?_ hS ?_; rotate_left; focus (rintro w ⟨cw, cn, sv, su, s0, t0⟩; go_simp; try with_reducible rfl)
                      simp only [Act.put, List.setIfInBounds_toArray, List.set_cons_zero, List.set_cons_succ]
                      refine reg_take 8 (v := ?_) rfl (by kernel_rfl) (by rfl) ?_ hS ?_; rotate_left; focus (rintro w ⟨cw, cn, sv, su, s0, t0⟩; go_simp; try with_reducible rfl)
                      simp only [Act.put, List.setIfInBounds_toArray, List.set_cons_zero, List.set_cons_succ]
                      refine reg_take 9 (v := ?_) rfl (by kernel_rfl) (by rfl) ?_ hS ?_; rotate_left; focus (rintro w ⟨cw, cn, sv, su, s0, t0⟩; go_simp; try with_reducible rfl)
                      simp only [Act.put, List.setIfInBounds_toArray, List.set_cons_zero, List.set_cons_succ]
                      refine reg_take 10 (v := ?_) rfl (by kernel_rfl) (by rfl) ?_ hS ?_; rotate_left; focus (rintro w ⟨cw, cn, sv, su, s0, t0⟩; go_simp; try with_reducible rfl)
                      simp only [Act.put, List.setIfInBounds_toArray, List.set_cons_zero, List.set_cons_succ]
                      refine reg_take 11 (v := ?_) rfl (by kernel_rfl) (by rfl) ?_ hS ?_; rotate_left; focus (rintro w ⟨cw, cn, sv, su, s0, t0⟩; go_simp; try with_reducible rfl)
                      simp only [Act.put, List.setIfInBounds_toArray, List.set_cons_zero, List.set_cons_succ]
                      refine reg_take 12 (v := ?_) rfl (by kernel_rfl) (by rfl) ?_ hS ?_; rotate_left; focus (rintro w ⟨cw, cn, sv, su, s0, t0⟩; go_simp; try with_reducible rfl)
                      simp only [Act.put, List.setIfInBounds_toArray, List.set_cons_zero, List.set_cons_succ]
                      refine reg_take 13 (v := ?_) rfl (by kernel_rfl) (by rfl) ?_ hS ?_; rotate_left; focus (rintro w ⟨cw, cn, sv, su, s0, t0⟩; go_simp; try with_reducible rfl)
                      simp only [Act.put, List.setIfInBounds_toArray, List.set_cons_zero, List.set_cons_succ]
                      refine reg_take 14 (v := ?_) rfl (by kernel_rfl) (by rfl) ?_ hS ?_; rotate_left; focus (rintro w ⟨cw, cn, sv, su, s0, t0⟩; go_simp; try with_reducible rfl)
                      simp only [Act.put, List.setIfInBounds_toArray, List.set_cons_zero, List.set_cons_succ]
                      refine reg_take 15 (v := ?_) rfl (by kernel_rfl) (by rfl) ?_ hS ?_; rotate_left; focus (rintro w ⟨cw, cn, sv, su, s0, t0⟩; go_simp; try with_reducible rfl)
                      simp only [Act.put, List.setIfInBounds_toArray, List.set_cons_zero, List.set_cons_succ]
                      refine reg_done (by kernel_rfl) ?_
                      clear hS
                      go_wp2_with fail
                      go_roundw
                      case rel => exact ⟨m + 1, by omega, by go_num, hR9.drew⟩
                      case measure => simp [intOf]; omega
                    · go_wp2_with fail
                      (with_reducible refine (known_calls _).mono ?_)
                      rintro e W9 ⟨rfl, hB9⟩
                      go_wp2_with fail
                      exact HPost.out _ _ ⟨rfl, hR.k1.be.trans (hB9.mono hR.k1.be.size)⟩
end Go.Proofs.Ytfnkbmjpiiabkaa
