/- The disk: its state as plain data; Read and Write. -/
import Derived.Test.YtfnkbmjpiiabkaaDisk2
import Derived.Test.YtfnkbmjpiiabkaaLaws
import Derived.Deep.RegionLaw
set_option linter.unusedVariables false
namespace Go.Proofs.Ytfnkbmjpiiabkaa
open Go.RowKit
structure DSt where
  n : Nat
  dur : List Int
  cur : List Int
  pend : List (Nat × List Int)
  on : Bool
  ar : Bool
  lf : Int
def pcell (p : Nat × List Int) : List Value := .int .i64 p.1 :: bcells p.2
def pcells (l : List (Nat × List Int)) : List Value := l.flatMap pcell
/-- What is always so of a disk's data. -/
structure DSt.Ok (s : DSt) : Prop where
  n0 : 1 ≤ s.n
  n1 : s.n ≤ 8192
  dur : s.dur.length = s.n * 64
  cur : s.cur.length = s.n * 64
  pend : ∀ p ∈ s.pend, p.1 < s.n ∧ p.2.length = 64
  l0 : 0 ≤ s.lf
  l1 : s.lf ≤ 9223372036854775807
/-- The disk at block g holds s; its blocks are all in S. -/
structure DiskAt (W : World) (S : Nat → Prop) (g bd bc : Nat) (vp : Value) (s : DSt) : Prop where
  ok : s.Ok
  blk : DBlk W g bd bc (s.n * 64) vp s.on s.ar s.lf
  dur : W.heap[bd]? = some (.cells (bcells s.dur).toArray 5 (0, 0))
  cur : W.heap[bc]? = some (.cells (bcells s.cur).toArray 5 (0, 0))
  pend : W.ownsRow 0 60 65 vp s.pend.length (pcells s.pend)
  ne : bd ≠ bc
  sg : S g
  sd : S bd
  sc : S bc
  sp : ∀ k, vp.ownBlock = some k → S k
def padB (b : List Int) : List Int := b ++ List.replicate (64 - b.length) 0

def zeros64 : List Int := List.replicate 64 0
theorem build_w (at_ : Nat) (w : World) : (Instr.build 60 #[(0, .int .i64 at_)]).run Try.prog w = .ok (.agg (pcell (at_, zeros64)).toArray) w := by kernel_rfl
theorem zero_w (w : World) : (zeroValue 60).run Try.prog w = .ok (.agg (pcell (0, zeros64)).toArray) w := by kernel_rfl
theorem size_w : (Try.prog.info? 60).map (·.size) = some 65 := by kernel_rfl
theorem info_w : (Try.prog.info? 60).map (fun i => (i.zero, i.size, i.bytes)) = some (some (.agg (pcell (0, zeros64)).toArray), 65, 72) := by kernel_rfl
theorem info_b : (Try.prog.info? 5).map (·.size) = some 1 := by kernel_rfl
theorem pcell_one (p : Nat × List Int) : ∀ v ∈ pcell p, v.oneCell' = true := by
  intro v hv; simp only [pcell, List.mem_cons] at hv
  rcases hv with rfl | hv
  · rfl
  · exact bcells_one _ v hv
theorem pcell_len (p : Nat × List Int) : (pcell p).length = p.2.length + 1 := by simp [pcell, bcells]
theorem pcells_len (l : List (Nat × List Int)) (h : ∀ p ∈ l, p.2.length = 64) : (pcells l).length = l.length * 65 := by
  induction l with
  | nil => rfl
  | cons p l ih =>
    have h1 := h p (by simp)
    have h2 := ih (fun q hq => h q (by simp [hq]))
    have e : pcells (p :: l) = pcell p ++ pcells l := by simp [pcells]
    rw [e, List.length_append, h2, pcell_len, h1, List.length_cons]; omega
section
variable {W W' : World} {S T : Nat → Prop} {g bd bc : Nat} {vp : Value} {s : DSt}
theorem DiskAt.ext (h : DiskAt W S g bd bc vp s) (he : Ext T W W') (ht : ∀ k, k < W.heap.size → S k → ¬ T k) : DiskAt W' S g bd bc vp s := by
  have hk : ∀ k o, W.heap[k]? = some o → S k → W'.heap[k]? = some o := fun k o hk hS => (he.block k (blk_lt hk) (ht k (blk_lt hk) hS)).trans hk
  refine ⟨h.ok, hk _ _ h.blk h.sg, hk _ _ h.dur h.sd, hk _ _ h.cur h.sc, ?_, h.ne, h.sg, h.sd, h.sc, h.sp⟩
  refine ⟨h.pend.1, ?_⟩
  rcases h.pend.2 with hn | ⟨q, cap, cu, hv, hb, hg, r⟩
  · exact .inl hn
  · exact .inr ⟨q, cap, cu, hv, hb, hk _ _ hg (h.sp q (by rw [hv]; rfl)), r⟩
theorem DiskAt.drew (h : DiskAt W S g bd bc vp s) : DiskAt W.drew S g bd bc vp s := ⟨h.ok, h.blk, h.dur, h.cur, h.pend, h.ne, h.sg, h.sd, h.sc, h.sp⟩
theorem DiskAt.mono (h : DiskAt W S g bd bc vp s) (ht : ∀ k, k < W.heap.size → S k → T k) : DiskAt W T g bd bc vp s :=
  ⟨h.ok, h.blk, h.dur, h.cur, h.pend, h.ne, ht _ (blk_lt h.blk) h.sg, ht _ (blk_lt h.dur) h.sd, ht _ (blk_lt h.cur) h.sc, fun k hk => ht _ (h.pend.lt k hk).2 (h.sp k hk)⟩
theorem DiskAt.bound (h : DiskAt W S g bd bc vp s) : DiskAt W (fun k => S k ∧ k < W.heap.size) g bd bc vp s := h.mono (fun k hk hs => ⟨hs, hk⟩)
theorem DiskAt.gd (h : DiskAt W S g bd bc vp s) : g ≠ bd := by
  intro e; subst e
  have h1 := h.dur; rw [show W.heap[g]? = _ from h.blk] at h1
  injection h1 with h1; injection h1 with _ h1; exact absurd h1 (by decide)
theorem DiskAt.gc (h : DiskAt W S g bd bc vp s) : g ≠ bc := by
  intro e; subst e
  have h1 := h.cur; rw [show W.heap[g]? = _ from h.blk] at h1
  injection h1 with h1; injection h1 with _ h1; exact absurd h1 (by decide)
theorem DiskAt.pn (h : DiskAt W S g bd bc vp s) : vp.ownBlock ≠ some g ∧ vp.ownBlock ≠ some bd ∧ vp.ownBlock ≠ some bc := by
  rcases h.pend.2 with ⟨hv, _⟩ | ⟨q, cap, cu, hv, _, hg, _⟩
  · subst hv; exact ⟨by simp [Value.ownBlock], by simp [Value.ownBlock], by simp [Value.ownBlock]⟩
  · subst hv
    refine ⟨?_, ?_, ?_⟩
    · intro e; have e : q = g := by simpa [Value.ownBlock] using e
      subst e; have h1 := h.blk; unfold DBlk at h1; rw [hg] at h1; injection h1 with h1; injection h1 with _ h1; exact absurd h1 (by decide)
    · intro e; have e : q = bd := by simpa [Value.ownBlock] using e
      subst e; have h1 := h.dur; rw [hg] at h1; injection h1 with h1; injection h1 with _ h1; exact absurd h1 (by decide)
    · intro e; have e : q = bc := by simpa [Value.ownBlock] using e
      subst e; have h1 := h.cur; rw [hg] at h1; injection h1 with h1; injection h1 with _ h1; exact absurd h1 (by decide)
/-- Only the disk's own cells have turned. -/
theorem DiskAt.blkStep (h : DiskAt W S g bd bc vp s) (he : Ext (· = g) W W') {on ar : Bool} {lf : Int} (hb : DBlk W' g bd bc (s.n * 64) vp on ar lf) (h0 : 0 ≤ lf) (h1 : lf ≤ 9223372036854775807) :
    DiskAt W' S g bd bc vp { s with on := on, ar := ar, lf := lf } := by
  have hk : ∀ k o, W.heap[k]? = some o → k ≠ g → W'.heap[k]? = some o := fun k o hk hne => (he.block k (blk_lt hk) hne).trans hk
  refine ⟨⟨h.ok.n0, h.ok.n1, h.ok.dur, h.ok.cur, h.ok.pend, h0, h1⟩, hb, hk _ _ h.dur h.gd.symm, hk _ _ h.cur h.gc.symm, ?_, h.ne, h.sg, h.sd, h.sc, h.sp⟩
  refine ⟨h.pend.1, ?_⟩
  rcases h.pend.2 with hn | ⟨q, cap, cu, hv, hb, hg, r⟩
  · exact .inl hn
  · exact .inr ⟨q, cap, cu, hv, hb, hk _ _ hg (fun e => h.pn.1 (by rw [hv, e]; rfl)), r⟩
theorem DiskAt.own (h : DiskAt W S g bd bc vp s) (b : Nat) (he : Ext (· = b) W W') (hb : vp.ownBlock ≠ some b) : W'.ownsRow 0 60 65 vp s.pend.length (pcells s.pend) := by
  refine ⟨h.pend.1, ?_⟩
  rcases h.pend.2 with hn | ⟨q, cap, cu, hv, hb', hg, r⟩
  · exact .inl hn
  · refine .inr ⟨q, cap, cu, hv, hb', (he.block q (blk_lt hg) (fun e => hb (by rw [hv, ← e]; rfl))).trans hg, r⟩
/-- Only the current contents have turned. -/
theorem DiskAt.curStep (h : DiskAt W S g bd bc vp s) (he : Ext (· = bc) W W') (cu : List Int) (hl : cu.length = s.n * 64) (hb : W'.heap[bc]? = some (.cells (bcells cu).toArray 5 (0, 0))) :
    DiskAt W' S g bd bc vp { s with cur := cu } := by
  have hk : ∀ k o, W.heap[k]? = some o → k ≠ bc → W'.heap[k]? = some o := fun k o hk hne => (he.block k (blk_lt hk) hne).trans hk
  exact ⟨⟨h.ok.n0, h.ok.n1, h.ok.dur, hl, h.ok.pend, h.ok.l0, h.ok.l1⟩, hk _ _ h.blk h.gc, hk _ _ h.dur h.ne, hb, h.own bc he h.pn.2.2, h.ne, h.sg, h.sd, h.sc, h.sp⟩
/-- Only the durable contents have turned. -/
theorem DiskAt.durStep (h : DiskAt W S g bd bc vp s) (he : Ext (· = bd) W W') (cu : List Int) (hl : cu.length = s.n * 64) (hb : W'.heap[bd]? = some (.cells (bcells cu).toArray 5 (0, 0))) :
    DiskAt W' S g bd bc vp { s with dur := cu } := by
  have hk : ∀ k o, W.heap[k]? = some o → k ≠ bd → W'.heap[k]? = some o := fun k o hk hne => (he.block k (blk_lt hk) hne).trans hk
  exact ⟨⟨h.ok.n0, h.ok.n1, hl, h.ok.cur, h.ok.pend, h.ok.l0, h.ok.l1⟩, hk _ _ h.blk h.gd, hb, hk _ _ h.cur h.ne.symm, h.own bd he h.pn.2.1, h.ne, h.sg, h.sd, h.sc, h.sp⟩
end
theorem splice_bcells (L : List Int) (off : Nat) (d : List Int) : splice (bcells L).toArray.toList off (bcells d) = bcells (splice L off d) := by
  simp [splice, bcells, List.map_take, List.map_drop]
/-- The fields behind powerFails. -/
def DSt.pw (s : DSt) : DSt := { s with on := pfOn s.on s.ar s.lf, ar := pfAr s.ar s.lf, lf := pfLf s.ar s.lf }
theorem pfLf_range {ar : Bool} {lf : Int} (h0 : 0 ≤ lf) (h1 : lf ≤ 9223372036854775807) : 0 ≤ pfLf ar lf ∧ pfLf ar lf ≤ 9223372036854775807 := by
  unfold pfLf; cases ar <;> simp
  · omega
  · split <;> omega
/-- What a call on the disk leaves: the new state; its blocks are old ones or new since; nothing else has turned. -/
def DiskPost (W : World) (S : Nat → Prop) (g bd bc : Nat) (s' : DSt) (W' : World) : Prop :=
  ∃ vp' S', DiskAt W' S' g bd bc vp' s' ∧ (∀ k, S' k → k < W'.heap.size ∧ (S k ∨ W.heap.size ≤ k)) ∧ Ext S W W'
theorem DiskPost.of {W W' : World} {S S' : Nat → Prop} {g bd bc : Nat} {vp' : Value} {s' : DSt} (h : DiskAt W' S' g bd bc vp' s') (hs : ∀ k, S' k → S k ∨ W.heap.size ≤ k) (he : Ext S W W') : DiskPost W S g bd bc s' W' :=
  ⟨vp', _, h.bound, fun k hk => ⟨hk.2, hs k hk.1⟩, he⟩
/-- A write that succeeds. -/
def DSt.wrote (s : DSt) (at_ : Nat) (b : List Int) : DSt := { s.pw with cur := splice s.cur (at_ * 64) (padB b), pend := s.pend ++ [(at_, padB b)] }
theorem write_done {W W4 W5 : World} {S : Nat → Prop} {g bd bc : Nat} {vp v5 : Value} {s : DSt} {at_ : Nat} {b : List Int} (hS : ∀ k, S k → k < W.heap.size) (hat : at_ < s.n) (hbl : (padB b).length = 64)
    (D4 : DiskAt W4 S g bd bc vp { s.pw with cur := splice s.cur (at_ * 64) (padB b) }) (he : Ext S W W4) {o : Obj} (hg : (W4.alloc o).drew.grownBy W5 vp.ownBlock)
    (hown : W5.ownsRow 0 60 65 v5 (s.pend.length + 1) (pcells s.pend ++ pcell (at_, padB b))) (hat5 : v5.ownBlock = vp.ownBlock ∨ v5.ownBlock = some (W4.alloc o).drew.heap.size) :
    DiskPost W S g bd bc (s.wrote at_ b) (W5.setCell ⟨g, 2, none⟩ v5) := by
  have Da := D4.drew.ext (Ext.alloc (fun _ => False) _ o) (fun _ _ _ h => h)
  have heq : ∀ k ob, W4.heap[k]? = some ob → vp.ownBlock ≠ some k → W5.heap[k]? = some ob := fun k ob hk hne => by
    have hlt := blk_lt hk
    have h1 : (W4.alloc o).drew.heap[k]? = some ob := (Below.heap_alloc _ _ _ hlt).trans hk
    exact (hg.block k (blk_lt h1) (fun e => hne e.symm)).trans h1
  have hsz : W4.heap.size < W5.heap.size := by have := hg.size; simp [World.drew] at this; omega
  have hb5 : DBlk W5 g bd bc (s.n * 64) vp s.pw.on s.pw.ar s.pw.lf := heq _ _ D4.blk D4.pn.1
  have hd5 := heq _ _ D4.dur D4.pn.2.1
  have hc5 := heq _ _ D4.cur D4.pn.2.2
  have hv5 : v5.ownBlock ≠ some g := by
    rcases hat5 with e | e
    · rw [e]; exact D4.pn.1
    · rw [e]; intro e; injection e with e; have := D4.sg; have := hS _ this; have := he.size; simp [World.drew] at e; omega
  have hv5' : ∀ k, v5.ownBlock = some k → S k ∨ W.heap.size ≤ k := by
    intro k hk
    rcases hat5 with e | e
    · exact .inl (D4.sp k (e ▸ hk))
    · refine .inr ?_; rw [e] at hk; injection hk with hk; have := he.size; simp [World.drew] at hk; omega
  refine DiskPost.of (S' := fun k => S k ∨ W.heap.size ≤ k) (vp' := v5) ⟨⟨D4.ok.n0, D4.ok.n1, D4.ok.dur, D4.ok.cur, ?_, D4.ok.l0, D4.ok.l1⟩, hb5.s2 v5, ?_, ?_, ?_, D4.ne, .inl D4.sg, .inl D4.sd, .inl D4.sc, hv5'⟩ (fun k hk => hk) ?_
  · intro p hp
    simp only [DSt.wrote, List.mem_append, List.mem_singleton] at hp
    rcases hp with hp | rfl
    · exact D4.ok.pend p hp
    · exact ⟨hat, hbl⟩
  · exact (Below.heap_setCell _ _ _ _ D4.gd.symm).trans hd5
  · exact (Below.heap_setCell _ _ _ _ D4.gc.symm).trans hc5
  · have e : pcells (s.wrote at_ b).pend = pcells s.pend ++ pcell (at_, padB b) := by simp [DSt.wrote, pcells]
    rw [e, show (s.wrote at_ b).pend.length = s.pend.length + 1 from by simp [DSt.wrote]]
    refine ⟨hown.1, ?_⟩
    rcases hown.2 with hn | ⟨q, cap, cu, hv, hb, hgg, r⟩
    · exact .inl hn
    · exact .inr ⟨q, cap, cu, hv, hb, (Below.heap_setCell _ _ _ _ (fun e => hv5 (by rw [hv]; show some q = some g; rw [show q = g from e]))).trans hgg, r⟩
  · refine (he.trans (T := S) ?_ (fun _ _ h => h))
    refine Ext.trans (w1 := W5) ⟨hg.os, hg.tape, hg.output, by omega, fun k hk hn => ?_⟩ (Ext.setCell (S := S) _ _ _ D4.sg) (fun _ _ h => h)
    exact (hg.block k (by simp [World.drew]; omega) (fun e => hn (D4.sp k e.symm))).trans (Below.heap_alloc _ _ _ hk)
theorem splice_pcell (at_ : Nat) (b : List Int) (h : b.length ≤ 64) : splice (pcell (at_, zeros64)).toArray.toList 1 (bcells b) = pcell (at_, padB b) := by
  have e : List.replicate 64 (Value.int .u8 0) = List.replicate b.length (Value.int .u8 0) ++ List.replicate (64 - b.length) (Value.int .u8 0) := by
    rw [List.replicate_append_replicate]; congr 1; omega
  simp only [splice, pcell, padB, zeros64, bcells, List.map_append, List.map_replicate, List.length_map, e, List.take_succ_cons, List.take_zero, List.cons_append, List.nil_append, Nat.add_comm 1, List.drop_succ_cons]
  congr 2
  rw [List.drop_append_of_le_length (by simp)]
  simp
theorem padB_len (b : List Int) (h : b.length ≤ 64) : (padB b).length = 64 := by simp [padB]; omega
/-- The load of a pending write, and '[]write{x}', as operations that the walk leaves whole. -/
noncomputable def ldN (v : Value) (w : World) : Result Next := (execOp (fun _ => v) ⟨none, .load 60 (.tmp 0), 0, "", #[], none⟩).run Try.prog w
theorem ldN_rule (ρ : Operand → Value) (d : Option Tmp) (x : Operand) (t : TypeId) (p : String) (af : Array Edge) (gd : Option (Nat × Bool)) (w : World) :
    (execOp ρ ⟨d, .load 60 x, t, p, af, gd⟩).run Try.prog w = ldN (ρ x) w := rfl
theorem ldN_eq (w : World) (b o : Nat) (p : Nat × List Int) (hp : p.2.length = 64) (h : w.rangeAt b o (pcell p)) : ldN (.pointer (some ⟨b, o, none⟩)) w = .ok (.value (.agg (pcell p).toArray)) w := by
  unfold ldN
  exact run_load_row (o := ⟨none, .load 60 (.tmp 0), 0, "", #[], none⟩) (a := ⟨#[.pointer (some ⟨b, o, none⟩)], []⟩) 60 (.tmp 0) rfl b o rfl (pcell p) _ h Try.underlying60 rfl (by rw [pcell_len, hp]; exact size_w)
noncomputable def bsN (v : Value) (w : World) : Result Next := (execOp (fun _ => v) ⟨none, .buildSlice 53 1 #[(0, .tmp 0)], 0, "", #[], none⟩).run Try.prog w
theorem bsN_rule (ρ : Operand → Value) (d : Option Tmp) (x : Operand) (t : TypeId) (p : String) (af : Array Edge) (gd : Option (Nat × Bool)) (w : World) :
    (execOp ρ ⟨d, .buildSlice 53 1 #[(0, x)], t, p, af, gd⟩).run Try.prog w = bsN (ρ x) w := by unfold bsN; simp only [execOp, List.map_toArray, List.map_cons, List.map_nil]
theorem bsN_eq (p : Nat × List Int) (hp : p.2.length = 64) (w : World) : bsN (.agg (pcell p).toArray) w = .ok (.value (.slice (some ⟨w.heap.size, 0, none⟩) 1 1)) (w.alloc (.cells (pcell p).toArray 60)) := by
  have hl : (pcell p).length = 65 := by rw [pcell_len, hp]
  have := run_buildSlice_one (P := Try.prog) w 53 60 (pcell p) (.agg (pcell (0, zeros64)).toArray) Try.underlying53 (by rw [hl]; kernel_rfl) (by rw [hl]; rfl) (by omega) (by omega)
  unfold bsN
  simp only [execOp]
  rw [show (#[((0 : Nat), Operand.tmp 0)].map fun (i, x) => (i, (fun _ : Operand => Value.agg (pcell p).toArray) x)) = #[(0, Value.agg (pcell p).toArray)] from by simp]
  rw [Sem.run_bind, this]; rfl
attribute [local go_sem ↓] Go.wp_at_zero Go.wp_at_succ ldN_rule bsN_rule

set_option maxHeartbeats 400000 in
theorem write_ok (W : World) (S : Nat → Prop) (g bd bc : Nat) (vp : Value) (s : DSt) (hS : ∀ k, S k → k < W.heap.size) (h : DiskAt W S g bd bc vp s) (at_ : Nat) (A : Option Addr) (n c : Nat) (b : List Int) (hb : Src W (.slice A n c) n (bcells b)) (hbn : b.length = n)
    (hbS : 0 < b.length → ∀ k, (Value.slice A n c).ownBlock = some k → ¬ S k) (hat : at_ < s.n) (hn : n ≤ 64) (hon : s.on = true) (hpf : pfB s.ar s.lf = false) (hpl : s.pend.length < 1000000) :
    Calls Try.prog 14 #[.pointer (some ⟨g, 0, none⟩), .int .i64 at_, .slice A n c] W fun e W' => e = .returned (.int .i64 0) ∧ DiskPost W S g bd bc (s.wrote at_ b) W' := by
  have hck := check_calls at_ s.n h.blk h.ok.n1
  rw [show dchk s.on at_ s.n = 0 from by unfold dchk; rw [hon]; simp; omega] at hck
  have hp := powerFails_calls h.blk h.ok.l0 h.ok.l1
  rw [hpf] at hp
  have a1 := h.ok.n1
  have lr := pfLf_range (ar := s.ar) h.ok.l0 h.ok.l1
  have HN := Lib.hid hbn
  have HBS := Lib.hid hbS
  clear hon hpf hbn hbS
  refine calls_hide fun P HPost => ?_
  go_enter Try.func14, Try.ntmps14
  go_wp2_with (first
    | (go_at_call 25; refine hck.mono ?_; rintro e w' ⟨rfl, rfl⟩)
    | (go_at_call 27; refine hp.mono ?_; rintro e W1 ⟨rfl, hb1, he1⟩; have D1 := h.blkStep he1 hb1 lr.1 lr.2)
    | (refine wpList_value (by rfl) (run_build_eq 60 _ (by rfl) _ (by rfl) _ (build_w at_)) ?_)
    | (refine wpList_value (by rfl) (run_alloc_blk 60 (by rfl) _ zero_w) ?_)
    | (refine wpList_store_blk (by rfl) 60 _ _ (by rfl) W1.heap.size (pcell (at_, zeros64)).toArray (by rfl) (by rfl) 60 (pcell (0, zeros64)).toArray (heap_alloc_new W1 _) size_w rfl (all_oneCell_toArray (pcell_one _)) ?_; intro W2 hb2 he2
       have he12 : Ext (· = W1.heap.size) W1 W2 := (Ext.alloc _ _ _).trans he2 (fun _ _ h => h)
       have hs2 := (hb.ext he1 (fun hp k hk _ e => HBS.out (by rw [bcells_len] at hp; exact hp) k hk (e ▸ h.sg))).ext he12 (fun _ k hk hlt e => by omega)
       have D2 := D1.ext he12 (fun k hk hT e => by have := hS _ hT; have := he1.size; omega))
    | (refine wpList_of_wp rfl ?_; refine (wp_copy _ _ 27 27 (by rfl) 5 Try.underlying27 info_b W1.heap.size 1 64 64 _ n (by rfl) (by rfl) (bcells b) hs2 (by rw [bcells_len, HN.out]; omega) (pcell (at_, zeros64)).toArray 60 hb2.out (by simp [bcells_len, HN.out, pcell_len, zeros64]; omega) (bcells_one b) ?_); intro W3 hb3 he3
       have D3 := D2.ext he3 (fun k hk hT e => by have := hS _ hT; have := he1.size; omega)))
  have hbl : b.length ≤ 64 := by rw [HN.out]; exact hn
  have pl := padB_len b hbl
  have hb3' := hb3.out
  rw [splice_pcell at_ b hbl] at hb3'
  have hsrc3 : Src W3 (.slice (some ⟨W1.heap.size, 1, none⟩) 64 64) 64 (bcells (padB b)) := Src.of_blk hb3' _ (by simp [pcell, bcells_len, pl, List.take_of_length_le])
  have hl3 : (bcells (padB b)).length = min 64 64 := by rw [bcells_len, pl]; rfl
  have hf3 : at_ * 64 + (bcells (padB b)).length ≤ (bcells s.cur).toArray.size := by have := h.ok.cur; simp [bcells_len, pl, this]; omega
  have sl : (splice s.cur (at_ * 64) (padB b)).length = s.n * 64 := by rw [spl_len _ _ _ (by rw [pl, h.ok.cur]; omega)]; exact h.ok.cur
  have SL := Lib.hid sl
  have PL := Lib.hid pl
  have HL3 := Lib.hid hl3
  have HB3 := Lib.hid hb3'
  clear sl pl hl3 hb3' hb3
  have c1 := D3.blk.c1
  go_region_held3 (fun w' => w'.cell? ⟨g, 1, none⟩ = some (.slice (some ⟨bc, 0, none⟩) (s.n * 64) (s.n * 64))) (go_keep)
    (first
    | (go_at_call 26; refine (sector_calls bc (s.n * 64) at_ (by omega) (by omega) _).mono ?_; rintro e w' ⟨rfl, rfl⟩)
    | (refine step_of rfl ?_; refine wp_copy _ _ 27 27 (by rfl) 5 Try.underlying27 info_b bc (at_ * 64) 64 (s.n * 64 - at_ * 64) _ 64 (by rfl) (by rfl) (bcells (padB b)) hsrc3 HL3.out (bcells s.cur).toArray 5 D3.cur hf3 (bcells_one _) ?_; intro W4 hb4 he4
       have D4 := D3.drew.curStep he4 (splice s.cur (at_ * 64) (padB b)) SL.out (by rw [← splice_bcells]; exact hb4.out)
       have c1' := D4.blk.c1))
  go_wp2_with fail
  have c2 := D4.blk.c2
  have f2 := D4.blk.fz 2
  have hqb : W1.heap.size < W3.heap.size := by have := blk_lt HB3.out; exact this
  have hqc : W1.heap.size ≠ bc := by have := hS _ D1.sc; have := he1.size; omega
  have hqg : W1.heap.size ≠ g := by have := hS _ D1.sg; have := he1.size; omega
  have hqv : vp.ownBlock ≠ some W1.heap.size := fun e => by have := hS _ (D1.sp _ e); have := he1.size; omega
  have hr4 : W4.rangeAt W1.heap.size 0 (pcell (at_, padB b)) := by
    have h1 : W4.heap[W1.heap.size]? = some (.cells (pcell (at_, padB b)).toArray 60 (0, 0)) := (he4.block _ hqb hqc).trans HB3.out
    intro j v hv
    rw [Nat.zero_add]
    exact cell_of_blk h1 j v (by simpa using hv)
  have hld : ∀ w : World, w.rangeAt W1.heap.size 0 (pcell (at_, padB b)) → ldN (.pointer (some ⟨W1.heap.size, 0, none⟩)) w = .ok (.value (.agg (pcell (at_, padB b)).toArray)) w := fun w hw => ldN_eq w _ _ _ PL.out hw
  have hbs := bsN_eq (at_, padB b) PL.out
  have hsrc4 : ∀ w : World, Src (w.alloc (.cells (pcell (at_, padB b)).toArray 60)) (.slice (some ⟨w.heap.size, 0, none⟩) 1 1) 1 (pcell (at_, padB b)) := fun w => Src.of_blk (heap_alloc_new w _) _ (by simp)
  have hl4 : (pcell (at_, padB b)).length = 1 * 65 := by rw [pcell_len, PL.out]
  have heW4 : Ext S W W4 := (((he1.mono (fun k _ e => e ▸ h.sg)).trans (he12.trans he3 (fun _ _ h => h)) (fun k hk e => by have := he1.size; omega)).trans (Ext.drew S W3) (fun _ _ h => h)).trans he4 (fun k _ e => e ▸ h.sc)
  have fin := fun (v5 : Value) (W5 : World) (o : Obj) => write_done (o := o) (v5 := v5) (W5 := W5) hS hat PL.out D4 heW4
  have FIN := Lib.hid fin
  have HSRC4 := Lib.hid hsrc4
  have HL4 := Lib.hid hl4
  have o4 := D4.pend
  clear hsrc4 hl4 fin
  have c2a : ∀ o, (W4.alloc o).cell? ⟨g, 2, none⟩ = some vp := fun o => (D4.ext (Ext.alloc (fun _ => False) _ o) (fun _ _ _ h => h)).blk.c2
  have hr4a : ∀ o, (W4.alloc o).rangeAt W1.heap.size 0 (pcell (at_, padB b)) := fun o => World.rangeAt_alloc hr4 o
  go_region_law
    (first
    | (refine step_of rfl ?_; refine wp_append 0 _ _ 53 (by rfl) 60 _ 65 72 Try.underlying53 info_w rfl (by decide) vp s.pend.length (pcells s.pend) (by rfl) (o4.alloc _) 1 (pcell (at_, padB b)) _ (by rfl) (HSRC4.out _) HL4.out (pcell_one _) (by unfold maxLen; omega) (by omega) (Nat.zero_le _) ?_; intro v5 W5 how5 hgr5 hat5
       have D4a := D4.drew.ext (Ext.alloc (fun _ => False) _ (.cells (pcell (at_, padB b)).toArray 60)) (fun _ _ _ h => h)
       have b5 : DBlk W5 g bd bc (s.n * 64) vp _ _ _ := (hgr5.block g (blk_lt D4a.blk) (fun e => D4.pn.1 e.symm)).trans D4a.blk
       have c5 := b5.c2
       have f5 := b5.fz 2
       obtain ⟨q5, cap5, rfl, hq5, hl5⟩ := how5.form (by omega)))
  all_goals
    go_wp2_with fail
    exact HPost.out _ _ ⟨rfl, FIN.out _ W5 _ hgr5 how5 hat5⟩

def DSt.wrErr (s : DSt) (at_ : Int) (n : Nat) : Int := if dchk s.on at_ s.n ≠ 0 then dchk s.on at_ s.n else if 64 < n then 4 else if pfB s.ar s.lf then 10 else 0
def DSt.wr (s : DSt) (at_ : Int) (b : List Int) : DSt := if dchk s.on at_ s.n ≠ 0 then s else if 64 < b.length then s else if pfB s.ar s.lf then s.pw else s.wrote at_.toNat b
theorem dchk_zero {on : Bool} {at_ : Int} {n : Nat} (h : dchk on at_ n = 0) : on = true ∧ 0 ≤ at_ ∧ at_ < n := by
  unfold dchk at h
  cases on
  · simp at h
  · rw [if_pos rfl] at h
    split at h
    · cases h
    · exact ⟨rfl, by omega, by omega⟩
set_option maxHeartbeats 400000 in
theorem write_calls (W : World) (S : Nat → Prop) (g bd bc : Nat) (vp : Value) (s : DSt) (hS : ∀ k, S k → k < W.heap.size) (h : DiskAt W S g bd bc vp s) (at_ : Int) (A : Option Addr) (n c : Nat) (b : List Int) (hb : Src W (.slice A n c) n (bcells b)) (hbn : b.length = n)
    (hbS : 0 < b.length → ∀ k, (Value.slice A n c).ownBlock = some k → ¬ S k) (hn : n ≤ 1000000) (hpl : s.pend.length < 1000000) :
    Calls Try.prog 14 #[.pointer (some ⟨g, 0, none⟩), .int .i64 at_, .slice A n c] W fun e W' => e = .returned (.int .i64 (s.wrErr at_ n)) ∧ DiskPost W S g bd bc (s.wr at_ b) W' := by
  unfold DSt.wrErr DSt.wr
  by_cases h0 : dchk s.on at_ s.n ≠ 0
  · rw [if_pos h0, if_pos h0]
    have hck := check_calls at_ s.n h.blk h.ok.n1
    have fin : DiskPost W S g bd bc s W := DiskPost.of h (fun k hk => .inl hk) (Ext.refl _ _)
    have hx : (dchk s.on at_ s.n != 0) = true := by simpa using h0
    generalize dchk s.on at_ s.n = x at *
    clear h0
    refine calls_hide fun P HPost => ?_
    go_enter Try.func14, Try.ntmps14
    go_wp2_with (go_at_call 25; refine hck.mono ?_; rintro e w' ⟨rfl, rfl⟩)
    exact HPost.out _ _ ⟨rfl, fin⟩
  · have h0' : dchk s.on at_ s.n = 0 := by simpa using h0
    rw [if_neg h0, if_neg h0]
    obtain ⟨hon, ha0, ha1⟩ := dchk_zero h0'
    obtain ⟨i, rfl⟩ := Int.eq_ofNat_of_zero_le ha0
    by_cases h1 : 64 < n
    · rw [if_pos h1, if_pos (show 64 < b.length by omega)]
      have hck := check_calls (i : Int) s.n h.blk h.ok.n1
      rw [h0'] at hck
      have fin : DiskPost W S g bd bc s W := DiskPost.of h (fun k hk => .inl hk) (Ext.refl _ _)
      have FIN := Lib.hid fin
      clear h0' h0 hon hbn fin
      refine calls_hide fun P HPost => ?_
      go_enter Try.func14, Try.ntmps14
      go_wp2_with (go_at_call 25; refine hck.mono ?_; rintro e w' ⟨rfl, rfl⟩)
      exact HPost.out _ _ ⟨rfl, FIN.out⟩
    · rw [if_neg h1, if_neg (show ¬ 64 < b.length by omega)]
      by_cases hp : pfB s.ar s.lf = true
      · rw [if_pos hp, if_pos hp]
        have hck := check_calls (i : Int) s.n h.blk h.ok.n1
        rw [h0'] at hck
        have hpf := powerFails_calls h.blk h.ok.l0 h.ok.l1
        rw [hp] at hpf
        have lr := pfLf_range (ar := s.ar) h.ok.l0 h.ok.l1
        clear h0' h0 hon hbn hp
        refine calls_hide fun P HPost => ?_
        go_enter Try.func14, Try.ntmps14
        go_wp2_with (first
          | (go_at_call 25; refine hck.mono ?_; rintro e w' ⟨rfl, rfl⟩)
          | (go_at_call 27; refine hpf.mono ?_; rintro e W1 ⟨rfl, hb1, he1⟩))
        exact HPost.out _ _ ⟨rfl, DiskPost.of (h.blkStep he1 hb1 lr.1 lr.2) (fun k hk => .inl hk) (he1.mono (fun k _ e => e ▸ h.sg))⟩
      · rw [if_neg hp, if_neg hp]
        exact write_ok W S g bd bc vp s hS h i A n c b hb hbn hbS (by omega) (by omega) hon (by simpa using hp) hpl
end Go.Proofs.Ytfnkbmjpiiabkaa
