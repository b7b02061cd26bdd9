/- The disk: Flush. -/
import Derived.Test.YtfnkbmjpiiabkaaDisk4
import Derived.Deep.LoopGhost
set_option linter.unusedVariables false
set_option linter.unusedSimpArgs false
namespace Go.Proofs.Ytfnkbmjpiiabkaa
open Go.RowKit
theorem pcells_at (l : List (Nat × List Int)) (h : ∀ p ∈ l, p.2.length = 64) : ∀ i (hi : i < l.length), ((pcells l).drop (i * 65)).take 65 = pcell l[i] := by
  induction l with
  | nil => intro i hi; simp at hi
  | cons p l ih =>
    have h1 : (pcell p).length = 65 := by rw [pcell_len, h p (by simp)]
    have e : pcells (p :: l) = pcell p ++ pcells l := by simp [pcells]
    intro i hi
    cases i with
    | zero => rw [e]; simp [h1, List.take_append_of_le_length]
    | succ i =>
      rw [e, show (i + 1) * 65 = 65 + i * 65 from by omega, ← List.drop_drop, List.drop_left' h1]
      exact ih (fun q hq => h q (by simp [hq])) i (by simpa using hi)
theorem row_range {W : World} {q cap kk : Nat} {l : List (Nat × List Int)} {t base : Nat} (h : W.ownsRow base t 65 (.slice (some ⟨q, 0, none⟩) kk cap) l.length (pcells l)) (hp : ∀ p ∈ l, p.2.length = 64) (i : Nat) (hi : i < l.length) :
    W.rangeAt q (i * 65) (pcell l[i]) := by
  rcases h.2 with ⟨hv, _⟩ | ⟨q', cap', cu, hv, _, hg, h1, h2, h3, h4⟩
  · cases hv
  · injection hv with hv _ hcap; injection hv with hv; injection hv with hv
    subst hv; subst hcap
    intro j v hj
    have hlen : (pcell l[i]).length = 65 := by rw [pcell_len, hp _ (List.getElem_mem hi)]
    have hjl : j < 65 := by have := (List.getElem?_eq_some_iff.1 hj).1; omega
    refine cell_of_blk hg (i * 65 + j) v ?_
    rw [← pcells_at l hp i hi, List.getElem?_take, if_pos hjl, List.getElem?_drop, ← h4, List.getElem?_take] at hj
    split at hj
    · simpa using hj
    · cases hj
/-- The durable contents behind the first i writes. -/
def flTo (D : List Int) (l : List (Nat × List Int)) (i : Nat) : List Int := (l.take i).foldl (fun D p => splice D (p.1 * 64) p.2) D
theorem flTo_len (D : List Int) (l : List (Nat × List Int)) (n : Nat) (hD : D.length = n * 64) (h : ∀ p ∈ l, p.1 < n ∧ p.2.length = 64) (i : Nat) : (flTo D l i).length = n * 64 := by
  unfold flTo
  induction l generalizing D i with
  | nil => simpa using hD
  | cons p l ih =>
    cases i with
    | zero => simpa using hD
    | succ i =>
      simp only [List.take_succ_cons, List.foldl_cons]
      have hp := h p (by simp)
      exact ih _ (by rw [spl_len _ _ _ (by omega)]; exact hD) (fun q hq => h q (by simp [hq])) i
theorem flTo_succ (D : List Int) (l : List (Nat × List Int)) (i : Nat) (hi : i < l.length) : flTo D l (i + 1) = splice (flTo D l i) (l[i].1 * 64) l[i].2 := by
  unfold flTo
  rw [List.take_succ_eq_append_getElem hi, List.foldl_append]; rfl
def DSt.flErr (s : DSt) : Int := if s.on = false ∨ pfB s.ar s.lf = true then 10 else 0
def DSt.fl (s : DSt) : DSt := if s.on = false then s else if pfB s.ar s.lf = true then s.pw else { s.pw with dur := flTo s.dur s.pend s.pend.length, pend := [] }
/-- The pending writes are dropped. -/
theorem drop_pend {W : World} {S : Nat → Prop} {g bd bc : Nat} {vp : Value} {s : DSt} (h : DiskAt W S g bd bc vp s) : DiskAt (W.setCell ⟨g, 2, none⟩ (.slice none 0 0)) S g bd bc (.slice none 0 0) { s with pend := [] } :=
  ⟨⟨h.ok.n0, h.ok.n1, h.ok.dur, h.ok.cur, by simp, h.ok.l0, h.ok.l1⟩, h.blk.s2 _, (Below.heap_setCell _ _ _ _ h.gd.symm).trans h.dur, (Below.heap_setCell _ _ _ _ h.gc.symm).trans h.cur, World.ownsRow_nil _ _ _ _, h.ne, h.sg, h.sd, h.sc, by simp [Value.ownBlock]⟩
attribute [local go_sem ↓] Go.wp_at_zero Go.wp_at_succ

set_option maxHeartbeats 1000000 in
theorem flush_ok (W : World) (S : Nat → Prop) (g bd bc q cap : Nat) (s : DSt) (hS : ∀ k, S k → k < W.heap.size) (h : DiskAt W S g bd bc (.slice (some ⟨q, 0, none⟩) s.pend.length cap) s) (hon : s.on = true) (hpf : pfB s.ar s.lf = false) (hpl : s.pend.length < 1000000) :
    Calls Try.prog 16 #[.pointer (some ⟨g, 0, none⟩)] W fun e W' => e = .returned (.int .i64 0) ∧ DiskPost W S g bd bc { s.pw with dur := flTo s.dur s.pend s.pend.length, pend := [] } W' := by
  have hp := powerFails_calls h.blk h.ok.l0 h.ok.l1
  rw [hpf] at hp
  have lr := pfLf_range (ar := s.ar) h.ok.l0 h.ok.l1
  have c3 := h.blk.c3
  rw [hon] at c3
  have n1 := h.ok.n1
  clear hon hpf
  refine calls_hide fun P HPost => ?_
  go_enter Try.func16, Try.ntmps16
  go_wp2_with (first
    | (go_at_call 27; refine hp.mono ?_; rintro e W1 ⟨rfl, hb1, he1⟩; have D1 := h.blkStep he1 hb1 lr.1 lr.2; have c2 := D1.blk.c2; clear c3))
  have D1' : DiskAt W1 S g bd bc (.slice (some ⟨q, 0, none⟩) s.pend.length cap) s.pw := D1
  have e01 : Ext S W W1 := he1.mono (fun k _ e => e ▸ h.sg)
  have L0 : Ext S W W1 ∧ DiskAt W1 S g bd bc (.slice (some ⟨q, 0, none⟩) s.pend.length cap) { s.pw with dur := flTo s.dur s.pend 0 } := ⟨e01, D1'⟩
  clear c2 D1 D1' e01 he1 hb1
  go_loopw [19] (fun i wr => ∃ k : Nat, k ≤ s.pend.length ∧ i = .int .i64 k ∧ Ext S W wr ∧ DiskAt wr S g bd bc (.slice (some ⟨q, 0, none⟩) s.pend.length cap) { s.pw with dur := flTo s.dur s.pend k }) (fun i _ => s.pend.length - (intOf i).toNat)
  case atStart => exact ⟨0, Nat.zero_le _, rfl, L0.1, L0.2⟩
  case round =>
    obtain ⟨k, hk, rfl, hE, hD⟩ := hrel
    clear L0
    by_cases hlt : k < s.pend.length
    · have hp64 : ∀ p ∈ s.pend, p.2.length = 64 := fun p hp => (h.ok.pend p hp).2
      have hrow := row_range (l := s.pend) hD.pend hp64 k hlt
      have hpk := h.ok.pend _ (List.getElem_mem hlt)
      have hfs := flTo_succ s.dur s.pend k hlt
      have hfl := flTo_len s.dur s.pend s.n h.ok.dur h.ok.pend k
      have HP64 := Lib.hid hp64
      have HFS := Lib.hid hfs
      have HFL := Lib.hid hfl
      generalize s.pend[k] = p at *
      obtain ⟨pa, pb⟩ := p
      have hpa : pa < s.n := hpk.1
      have hpb : pb.length = 64 := hpk.2
      have hi60 : (Try.prog.info? 60).map (·.size) = some (pcell (pa, pb)).length := by rw [pcell_len, hpb]; exact size_w
      have HPB := Lib.hid hpb
      have HI60 := Lib.hid hi60
      have HROW := Lib.hid hrow
      clear hp64 hpk hpb hi60 hrow hfs hfl
      go_wp2_with (first
        | (refine wpList_value (by rfl) (run_load_row 60 _ (by rfl) q (k * 65) (by rfl) (pcell (pa, pb)) _ HROW.out Try.underlying60 rfl HI60.out) ?_)
        | (refine wpList_value (by rfl) (run_alloc_blk 60 (by rfl) _ zero_w) ?_)
        | (refine wpList_store_blk (by rfl) 60 _ _ (by rfl) wr.heap.size (pcell (pa, pb)).toArray (by rfl) (by rfl) 60 (pcell (0, zeros64)).toArray (heap_alloc_new wr _) (by simpa using HI60.out) (by simp [pcell_len, HPB.out, zeros64]) (all_oneCell_toArray (pcell_one _)) ?_; intro W2 hb2 he2
           have he12 : Ext (· = wr.heap.size) wr W2 := (Ext.alloc _ _ _).trans he2 (fun _ _ h => h)
           have D2 := hD.bound.ext he12 (fun k hk hT e => by have := hT.2; omega)))
      have c0 : W2.cell? ⟨g, 0, none⟩ = some (.slice (some ⟨bd, 0, none⟩) (s.n * 64) (s.n * 64)) := D2.blk.c0
      have b0 := cell_of_blk hb2.out 0 (.int .i64 pa) rfl
      have hsrc2 : Src W2 (.slice (some ⟨wr.heap.size, 1, none⟩) 64 64) 64 (bcells pb) := Src.of_blk hb2.out _ (by simp [pcell, bcells_len, HPB.out, List.take_of_length_le])
      have hl2 : (bcells pb).length = min 64 64 := by rw [bcells_len, HPB.out]; rfl
      have hf2 : pa * 64 + (bcells pb).length ≤ (bcells (flTo s.dur s.pend k)).toArray.size := by simp [bcells_len, HPB.out, HFL.out]; omega
      have sl : (splice (flTo s.dur s.pend k) (pa * 64) pb).length = s.n * 64 := by rw [spl_len _ _ _ (by rw [HPB.out, HFL.out]; omega)]; exact HFL.out
      have hne : wr.heap.size ≠ bd := by have := D2.sd.2; omega
      have HL2 := Lib.hid hl2
      have SL := Lib.hid sl
      clear hl2 sl hb2 he2
      go_region_held3 (fun w' => w'.cell? ⟨g, 0, none⟩ = some (.slice (some ⟨bd, 0, none⟩) (s.n * 64) (s.n * 64)) ∧ w'.cell? ⟨wr.heap.size, 0, none⟩ = some (.int .i64 pa)) (go_keep)
        (first
        | (go_at_call 26; refine (sector_calls bd (s.n * 64) pa (by omega) (by omega) _).mono ?_; rintro e w' ⟨rfl, rfl⟩)
        | (refine step_of rfl ?_; refine wp_copy _ _ 27 27 (by rfl) 5 Try.underlying27 info_b bd (pa * 64) 64 (s.n * 64 - pa * 64) _ 64 (by rfl) (by rfl) (bcells pb) hsrc2 HL2.out (bcells (flTo s.dur s.pend k)).toArray 5 D2.dur hf2 (bcells_one _) ?_; intro W4 hb4 he4
           have D4 := D2.drew.durStep he4 (splice (flTo s.dur s.pend k) (pa * 64) pb) SL.out (by rw [← splice_bcells]; exact hb4.out)
           have c0' : W4.cell? ⟨g, 0, none⟩ = some (.slice (some ⟨bd, 0, none⟩) (s.n * 64) (s.n * 64)) := D4.blk.c0
           have b0' : W4.cell? ⟨wr.heap.size, 0, none⟩ = some (.int .i64 pa) := by rw [World.cell?_of_block (he4.block wr.heap.size (World.block_lt_of_cell? _ _ b0) hne)]; exact b0))
      go_wp2_with fail
      go_roundw
      case rel =>
        refine ⟨k + 1, by omega, by go_num, (hE.trans he12 (fun j hj e => by have := hE.size; omega)).trans ((Ext.drew (· = bd) W2).trans he4 (fun _ _ e => e)) (fun j hj e => e ▸ D2.sd.1), ?_⟩
        rw [HFS.out]
        exact D4.mono (fun j _ hj => hj.1)
      case measure => simp [intOf]; omega
    · obtain rfl : k = s.pend.length := by omega
      have c2 := hD.blk.c2
      have f2 := hD.blk.fz 2
      go_wp2_with fail
      exact HPost.out _ _ ⟨rfl, DiskPost.of (drop_pend hD) (fun k hk => .inl hk) (hE.trans (Ext.setCell (S := S) _ _ _ hD.sg) (fun _ _ h => h))⟩

set_option maxHeartbeats 1000000 in
theorem flush_empty (W : World) (S : Nat → Prop) (g bd bc c : Nat) (A : Option Addr) (s : DSt) (h : DiskAt W S g bd bc (.slice A 0 c) s) (hpe : s.pend = []) (hon : s.on = true) (hpf : pfB s.ar s.lf = false) :
    Calls Try.prog 16 #[.pointer (some ⟨g, 0, none⟩)] W fun e W' => e = .returned (.int .i64 0) ∧ DiskPost W S g bd bc { s.pw with pend := [] } W' := by
  have hp := powerFails_calls h.blk h.ok.l0 h.ok.l1
  rw [hpf] at hp
  have lr := pfLf_range (ar := s.ar) h.ok.l0 h.ok.l1
  have c3 := h.blk.c3
  rw [hon] at c3
  have n1 := h.ok.n1
  clear hon hpf hpe
  refine calls_hide fun P HPost => ?_
  go_enter Try.func16, Try.ntmps16
  go_wp2_with (first
    | (go_at_call 27; refine hp.mono ?_; rintro e W1 ⟨rfl, hb1, he1⟩; have D1 := h.blkStep he1 hb1 lr.1 lr.2; have c2 := D1.blk.c2; have f2 := D1.blk.fz 2; clear c3))
  go_loopw [19] (fun i wr => i = .int .i64 0 ∧ wr = W1) (fun i _ => 0)
  case atStart => exact ⟨rfl, rfl⟩
  case round =>
    obtain ⟨rfl, rfl⟩ := hrel
    go_wp2_with fail
    refine HPost.out _ _ ⟨rfl, DiskPost.of (drop_pend D1) (fun k hk => .inl hk) ((he1.mono (fun k _ e => e ▸ h.sg)).trans (Ext.setCell (S := S) _ _ _ h.sg) (fun _ _ h => h))⟩
theorem flush_calls (W : World) (S : Nat → Prop) (g bd bc : Nat) (vp : Value) (s : DSt) (hS : ∀ k, S k → k < W.heap.size) (h : DiskAt W S g bd bc vp s) (hpl : s.pend.length < 1000000) :
    Calls Try.prog 16 #[.pointer (some ⟨g, 0, none⟩)] W fun e W' => e = .returned (.int .i64 s.flErr) ∧ DiskPost W S g bd bc s.fl W' := by
  unfold DSt.flErr DSt.fl
  by_cases hon : s.on = false
  · rw [if_pos (.inl hon), if_pos hon]
    have c3 := h.blk.c3
    rw [hon] at c3
    have fin : DiskPost W S g bd bc s W := DiskPost.of h (fun k hk => .inl hk) (Ext.refl _ _)
    clear hon
    refine calls_hide fun P HPost => ?_
    go_enter Try.func16, Try.ntmps16
    go_wp2
    exact HPost.out _ _ ⟨rfl, fin⟩
  · have hon' : s.on = true := by simpa using hon
    rw [if_neg hon]
    by_cases hp : pfB s.ar s.lf = true
    · rw [if_pos (.inr hp), if_pos hp]
      have hpf := powerFails_calls h.blk h.ok.l0 h.ok.l1
      rw [hp] at hpf
      have lr := pfLf_range (ar := s.ar) h.ok.l0 h.ok.l1
      have c3 := h.blk.c3
      rw [hon'] at c3
      clear hon hon' hp
      refine calls_hide fun P HPost => ?_
      go_enter Try.func16, Try.ntmps16
      go_wp2_with (go_at_call 27; refine hpf.mono ?_; rintro e W1 ⟨rfl, hb1, he1⟩)
      exact HPost.out _ _ ⟨rfl, DiskPost.of (h.blkStep he1 hb1 lr.1 lr.2) (fun k hk => .inl hk) (he1.mono (fun k _ e => e ▸ h.sg))⟩
    · have hp' : pfB s.ar s.lf = false := by simpa using hp
      rw [if_neg (by simp [hon', hp']), if_neg hp]
      by_cases h0 : s.pend.length = 0
      · have he : s.pend = [] := List.eq_nil_of_length_eq_zero h0
        have e2 : ({ s.pw with dur := flTo s.dur s.pend s.pend.length, pend := [] } : DSt) = { s.pw with pend := [] } := by rw [he]; rfl
        rw [e2]
        have hv : ∃ A c, vp = .slice A 0 c := by
          rcases h.pend.2 with ⟨rfl, _⟩ | ⟨q, cap, cu, rfl, _⟩
          · exact ⟨none, 0, rfl⟩
          · rw [h0]; exact ⟨_, cap, rfl⟩
        obtain ⟨A, c, rfl⟩ := hv
        exact flush_empty W S g bd bc c A s h he hon' hp'
      · obtain ⟨q, cap, rfl, _, _⟩ := h.pend.form (by omega)
        exact flush_ok W S g bd bc q cap s hS h hon' hp' hpl
end Go.Proofs.Ytfnkbmjpiiabkaa
