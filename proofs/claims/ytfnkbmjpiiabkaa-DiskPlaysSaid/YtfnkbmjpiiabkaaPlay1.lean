/- A disk and its reference in one state. -/
import Derived.Test.YtfnkbmjpiiabkaaRef8
set_option linter.unusedVariables false
set_option linter.unusedSimpArgs false
namespace Go.Proofs.Ytfnkbmjpiiabkaa
open Go.RowKit
theorem Same.wrAny {s : DSt} (hs : Same s) (at_ : Int) (b : List Int) : Same (s.wr at_ b) := by
  unfold DSt.wr
  split
  · exact hs
  · split
    · exact hs
    · split
      · exact hs
      · show splice s.cur (at_.toNat * 64) (padB b) = flTo s.dur (s.pend ++ [(at_.toNat, padB b)]) (s.pend ++ [(at_.toNat, padB b)]).length
        rw [flTo_snoc, ← hs]
theorem Same.flAny {s : DSt} (hs : Same s) : Same s.fl := by
  unfold DSt.fl
  split
  · exact hs
  · split
    · exact hs
    · show s.cur = flTo (flTo s.dur s.pend s.pend.length) [] 0
      rw [hs]; simp [flTo]
theorem Same.crAny (s : DSt) (keep torn : Int) : Same (s.cr keep torn) := by
  unfold Same DSt.cr; simp [flTo]
theorem wr_n (s : DSt) (at_ : Int) (b : List Int) : (s.wr at_ b).n = s.n ∧ (s.wr at_ b).pend.length ≤ s.pend.length + 1 := by
  unfold DSt.wr
  split
  · exact ⟨rfl, by omega⟩
  · split
    · exact ⟨rfl, by omega⟩
    · split
      · exact ⟨rfl, by show s.pend.length ≤ _; omega⟩
      · exact ⟨rfl, by show (s.pend ++ [_]).length ≤ _; simp⟩
theorem fl_n (s : DSt) : s.fl.n = s.n ∧ s.fl.pend.length ≤ s.pend.length := by
  unfold DSt.fl
  split
  · exact ⟨rfl, by omega⟩
  · split
    · exact ⟨rfl, by show s.pend.length ≤ _; omega⟩
    · exact ⟨rfl, by simp⟩
/-- Disk and reference, apart, in one state. -/
structure P2 (W : World) (g m : Nat) (i : Nat) (s : DSt) (Sd Sm : Nat → Prop) (wr : World) : Prop where
  dd : Dk wr Sd g s
  rr : Rf wr Sm m s
  dis : ∀ i, Sd i → ¬ Sm i
  sd : ∀ k, Sd k → W.heap.size ≤ k
  sm : ∀ k, Sm k → W.heap.size ≤ k
  be : Below W.heap.size W wr
  same : Same s
  n4 : s.n = 4
  pl : s.pend.length ≤ i
/-- Half a step: the disk is ahead. -/
structure P2d (W : World) (g m : Nat) (i : Nat) (s s' : DSt) (Sd Sm : Nat → Prop) (wr : World) : Prop where
  dd : Dk wr Sd g s'
  rr : Rf wr Sm m s
  dis : ∀ i, Sd i → ¬ Sm i
  sd : ∀ k, Sd k → W.heap.size ≤ k
  sm : ∀ k, Sm k → W.heap.size ≤ k
  be : Below W.heap.size W wr
section
variable {W wr W' : World} {g m i : Nat} {s s' : DSt} {Sd Sm : Nat → Prop}
theorem P2.stepD (h : P2 W g m i s Sd Sm wr) (hp : DkPost wr Sd g s' W') : ∃ S', P2d W g m i s s' S' Sm W' := by
  obtain ⟨S', hD, hS, he⟩ := hp
  have z := h.be.size
  exact ⟨S', hD, h.rr.ext he (fun i hi hd => h.dis i hd hi), fun i hi hc => (hS i hi).elim (fun hd => h.dis i hd hc) (fun hw => by have := h.rr.lt i hc; omega), own_from hS h.sd z, h.sm, below_ext h.be z he h.sd⟩
theorem P2d.stepM {j : Nat} (h : P2d W g m i s s' Sd Sm wr) (hp : RfPost wr Sm m s' W') (hs : Same s') (hn : s'.n = 4) (hl : s'.pend.length ≤ j) : ∃ S', P2 W g m j s' Sd S' W' := by
  obtain ⟨S', hD, hS, he⟩ := hp
  have z := h.be.size
  exact ⟨S', h.dd.ext he (fun i hi hd => h.dis i hi hd), hD, fun i hi hc => (hS i hc).elim (fun hd => h.dis i hi hd) (fun hw => by have := h.dd.lt i hi; omega), h.sd, own_from hS h.sm z, below_ext h.be z he h.sm, hs, hn, hl⟩
theorem P2.drew (h : P2 W g m i s Sd Sm wr) : P2 W g m i s Sd Sm wr.drew := ⟨h.dd.drew, h.rr.drew, h.dis, h.sd, h.sm, h.be.drew, h.same, h.n4, h.pl⟩
theorem P2.fresh (h : P2 W g m i s Sd Sm wr) (hb : Below wr.heap.size wr W') : P2 W g m i s Sd Sm W' := ⟨h.dd.below hb, h.rr.below hb, h.dis, h.sd, h.sm, h.be.trans (hb.mono h.be.size), h.same, h.n4, h.pl⟩
end
end Go.Proofs.Ytfnkbmjpiiabkaa
