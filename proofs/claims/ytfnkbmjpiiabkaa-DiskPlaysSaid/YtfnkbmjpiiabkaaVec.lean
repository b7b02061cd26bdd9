/- A local array of four slices that hold sectors; a local array of four marks. -/
import Derived.Test.YtfnkbmjpiiabkaaCalm
set_option linter.unusedVariables false
set_option linter.unusedSimpArgs false
namespace Go.Proofs.Ytfnkbmjpiiabkaa
open Go.RowKit
/-- The first j cells of block bw hold the sectors of cu, in blocks apart from M. -/
structure Vec (M : Nat → Prop) (bw : Nat) (vs : List Value) (j : Nat) (cu : List Int) (w : World) : Prop where
  vl : vs.length = 4
  bv : w.heap[bw]? = some (.cells vs.toArray 40 (0, 0))
  val : ∀ i, i < j → ∃ v, vs[i]? = some v ∧ Src w v 64 (bcells (sec cu i)) ∧ ∀ k, v.ownBlock = some k → ¬ M k ∧ k < w.heap.size
section
variable {M M' T : Nat → Prop} {bw j : Nat} {vs : List Value} {cu : List Int} {w w' : World}
theorem Vec.step (h : Vec M bw vs j cu w) (he : Ext T w w') (hb : ¬ T bw) (hT : ∀ k, T k → M k) (hM : ∀ k, M' k → M k ∨ w.heap.size ≤ k) : Vec M' bw vs j cu w' := by
  refine ⟨h.vl, (he.block bw (blk_lt h.bv) hb).trans h.bv, fun i hi => ?_⟩
  obtain ⟨v, hv, hs, ho⟩ := h.val i hi
  refine ⟨v, hv, hs.ext he (fun _ k hk _ ht => (ho k hk).1 (hT k ht)), fun k hk => ⟨fun hm => ?_, Nat.lt_of_lt_of_le (ho k hk).2 he.size⟩⟩
  rcases hM k hm with h1 | h1
  · exact (ho k hk).1 h1
  · have := (ho k hk).2; omega
theorem Vec.cell (h : Vec M bw vs j cu w) (i : Nat) (hi : i < 4) : ∃ v, w.cell? ⟨bw, i, none⟩ = some v :=
  ⟨_, cell_of_blk h.bv i _ (by rw [List.getElem?_toArray, List.getElem?_eq_getElem (by rw [h.vl]; exact hi)])⟩
theorem Vec.put (h : Vec M bw vs j cu w) (hj : j < 4) (hbw : M bw) (v : Value) (hs : Src w v 64 (bcells (sec cu j))) (ho : ∀ k, v.ownBlock = some k → ¬ M k ∧ k < w.heap.size) : Vec M bw (vs.set j v) (j + 1) cu (w.setCell ⟨bw, j, none⟩ v) := by
  have he : Ext (· = bw) w (w.setCell ⟨bw, j, none⟩ v) := Ext.setCell (S := (· = bw)) _ _ _ rfl
  have hT : ∀ k, k = bw → M k := fun k e => e ▸ hbw
  refine ⟨by rw [List.length_set]; exact h.vl, ?_, fun i hi => ?_⟩
  · rw [blk_setCell h.bv, List.setIfInBounds_toArray]
  · by_cases e : i = j
    · subst e
      exact ⟨v, List.getElem?_set_self (by rw [h.vl]; exact hj), hs.ext he (fun _ k hk _ ht => (ho k hk).1 (hT k ht)), fun k hk => ⟨(ho k hk).1, Nat.lt_of_lt_of_le (ho k hk).2 he.size⟩⟩
    · obtain ⟨v', hv, hs', ho'⟩ := h.val i (by omega)
      exact ⟨v', by rw [List.getElem?_set_ne (Ne.symm e)]; exact hv, hs'.ext he (fun _ k hk _ ht => (ho' k hk).1 (hT k ht)), fun k hk => ⟨(ho' k hk).1, Nat.lt_of_lt_of_le (ho' k hk).2 he.size⟩⟩
theorem Vec.fresh (h : Vec M bw vs j cu w) (hb : Below w.heap.size w w') : Vec M bw vs j cu w' := h.step (T := fun _ => False) (Ext.of_fresh hb) (fun h => h) (fun _ h => h.elim) (fun _ h => .inl h)
theorem Vec.drew (h : Vec M bw vs j cu w) : Vec M bw vs j cu w.drew := ⟨h.vl, h.bv, h.val⟩
end
/-- The marks. -/
def Mks (bm : Nat) (ws : List Bool) (w : World) : Prop := w.heap[bm]? = some (.cells (ws.map Value.bool).toArray 41 (0, 0))
theorem Mks.cell {bm : Nat} {ws : List Bool} {w : World} (h : Mks bm ws w) (i : Nat) (b : Bool) (hb : ws[i]? = some b) : w.cell? ⟨bm, i, none⟩ = some (.bool b) :=
  cell_of_blk h i _ (by rw [List.getElem?_toArray, List.getElem?_map, hb]; rfl)
theorem Mks.put {bm : Nat} {ws : List Bool} {w : World} (h : Mks bm ws w) (k : Nat) : Mks bm (ws.set k true) (w.setCell ⟨bm, k, none⟩ (.bool true)) := by
  unfold Mks
  rw [blk_setCell h, List.setIfInBounds_toArray, List.map_set]
theorem Mks.ext {T : Nat → Prop} {bm : Nat} {ws : List Bool} {w w' : World} (h : Mks bm ws w) (he : Ext T w w') (hb : ¬ T bm) : Mks bm ws w' := (he.block bm (blk_lt h) hb).trans h
end Go.Proofs.Ytfnkbmjpiiabkaa
