/- Memory lemmas used by the walks of this seat: what a call keeps, blocks known whole, slices that read as lists. -/
import Derived.WalkKit
import Derived.WalkSpells
import Derived.WalkLawsBesides
import Derived.Lib.Hide
import Derived.Laws.MakeOwn
import Derived.Laws.Rows
import Derived.Laws.CopyOwn
import Derived.Deep.OwnRows
import Derived.KernelRfl
namespace Go.Proofs.Ytfnkbmjpiiabkaa
open Go.RowKit

/-- What a call keeps: the streams, and every block that existed and is not in S. -/
structure Ext (S : Nat → Prop) (w w' : World) : Prop where
  os : w'.os = w.os
  tape : w'.tape = w.tape
  output : w'.output = w.output
  size : w.heap.size ≤ w'.heap.size
  block : ∀ k, k < w.heap.size → ¬ S k → w'.heap[k]? = w.heap[k]?

namespace Ext
variable {S T : Nat → Prop} {w w1 w2 : World}
theorem refl (S : Nat → Prop) (w : World) : Ext S w w := ⟨rfl, rfl, rfl, Nat.le_refl _, fun _ _ _ => rfl⟩
theorem mono (h : Ext S w w1) (hs : ∀ k, k < w.heap.size → S k → T k) : Ext T w w1 :=
  ⟨h.os, h.tape, h.output, h.size, fun k hk hn => h.block k hk (fun hS => hn (hs k hk hS))⟩
theorem trans (h : Ext S w w1) (k : Ext T w1 w2) (hs : ∀ k, k < w.heap.size → T k → S k) : Ext S w w2 :=
  ⟨k.os.trans h.os, k.tape.trans h.tape, k.output.trans h.output, Nat.le_trans h.size k.size,
   fun i hi hn => (k.block i (Nat.lt_of_lt_of_le hi h.size) (fun hT => hn (hs i hi hT))).trans (h.block i hi hn)⟩
theorem of_below {B : Nat} (h : Below B w w1) : Ext (fun k => B ≤ k) w w1 :=
  ⟨h.os, h.tape, h.output, h.size, fun k _ hn => h.block k (by omega)⟩
theorem of_fresh (h : Below w.heap.size w w1) : Ext S w w1 :=
  ⟨h.os, h.tape, h.output, h.size, fun k hk _ => h.block k hk⟩
theorem below {B : Nat} (h : Ext S w w1) (hB : B ≤ w.heap.size) (hs : ∀ k, S k → B ≤ k) : Below B w w1 :=
  ⟨h.os, h.tape, h.output, h.size, fun k hk => h.block k (by omega) (fun hS => by have := hs k hS; omega)⟩
theorem grown {row : Option Nat} (hg : w.grownBy w1 row) (hr : ∀ k, row = some k → S k) : Ext S w w1 :=
  ⟨hg.os, hg.tape, hg.output, hg.size, fun k hk hn => hg.block k hk (fun e => hn (hr k e.symm))⟩
theorem alloc (S : Nat → Prop) (w : World) (o : Obj) : Ext S w (w.alloc o) :=
  ⟨rfl, rfl, rfl, by simp, fun k hk _ => Below.heap_alloc _ _ _ hk⟩
theorem setCell (w : World) (a : Addr) (v : Value) (ha : S a.block) : Ext S w (w.setCell a v) :=
  ⟨rfl, rfl, rfl, by simp [World.setCell], fun k _ hn => Below.heap_setCell _ _ _ _ (fun e => hn (e ▸ ha))⟩
theorem drew (S : Nat → Prop) (w : World) : Ext S w w.drew := ⟨rfl, rfl, rfl, Nat.le_refl _, fun _ _ _ => rfl⟩
theorem drewN (S : Nat → Prop) (w : World) (n : Nat) : Ext S w (w.drewN n) := ⟨rfl, rfl, rfl, Nat.le_refl _, fun _ _ _ => rfl⟩
end Ext

/-- A post behind a name: the walk does not look into it, and comes back by itself; close by 'HP.out _ _ ..'. -/
theorem calls_hide {Pr : Program} {f : FuncId} {a : Array Value} {w : World} {R : Ending → World → Prop}
    (h : ∀ P : Ending → World → Prop, Hid (∀ e w', R e w' → P e w') → Calls Pr f a w P) : Calls Pr f a w R := h R (fun _ _ h => h)

/-- A block known whole. -/
theorem cell_of_blk {w : World} {g : Nat} {cs : Array Value} {t : TypeId} {fr : Nat × Nat} (h : w.heap[g]? = some (.cells cs t fr)) (i : Nat) (v : Value) (hv : cs[i]? = some v) :
    w.cell? ⟨g, i, none⟩ = some v := by simp [World.cell?, h, hv]
theorem frozen_of_blk {w : World} {g : Nat} {cs : Array Value} {t : TypeId} (h : w.heap[g]? = some (.cells cs t (0, 0))) (i : Nat) :
    w.frozen? ⟨g, i, none⟩ = false := by simp [World.frozen?, h]
theorem blk_setCell {w : World} {g : Nat} {cs : Array Value} {t : TypeId} {fr : Nat × Nat} (h : w.heap[g]? = some (.cells cs t fr)) (i : Nat) (v : Value) :
    (w.setCell ⟨g, i, none⟩ v).heap[g]? = some (.cells (cs.setIfInBounds i v) t fr) := by
  simp [World.setCell, Array.getElem?_modify, h]
theorem blk_lt {w : World} {g : Nat} {o : Obj} (h : w.heap[g]? = some o) : g < w.heap.size := (Array.getElem?_eq_some_iff.1 h).1
theorem below_ext {B : Nat} {S : Nat → Prop} {w w1 w2 : World} (h : Below B w w1) (hB : B ≤ w1.heap.size) (he : Ext S w1 w2) (hs : ∀ k, S k → B ≤ k) : Below B w w2 :=
  h.trans (he.below hB hs)
theorem own_from {B n : Nat} {S S' : Nat → Prop} (h : ∀ k, S' k → S k ∨ n ≤ k) (hs : ∀ k, S k → B ≤ k) (hB : B ≤ n) : ∀ k, S' k → B ≤ k :=
  fun k hk => (h k hk).elim (hs k) (fun h => Nat.le_trans hB h)
theorem below_new (w : World) (o : Obj) : Below w.heap.size w (w.alloc o) := (Below.refl _ _).alloc (Nat.le_refl _) o
end Go.Proofs.Ytfnkbmjpiiabkaa
