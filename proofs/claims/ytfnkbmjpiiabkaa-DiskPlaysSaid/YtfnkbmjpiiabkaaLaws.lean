/- Laws for single operations, over any program: what the operation leaves is said of whole blocks. -/
import Derived.Test.YtfnkbmjpiiabkaaMem
import Derived.Maps.AppendAt
import Derived.Laws.AppendOwnNone
import Derived.Deep.MidRow
import Derived.Deep.RegionHeld3
import Derived.Deep.AppendLies
import Derived.Great.BuildSlice
import Derived.Deep.DrawnRows
import Derived.Laws.BytesArg
set_option linter.unusedVariables false
set_option linter.unusedSimpArgs false
namespace Go.Proofs.Ytfnkbmjpiiabkaa
open Go.RowKit

/-- x is a slice of m elements whose cells read news. -/
def Src (w : World) (x : Value) (m : Nat) (news : List Value) : Prop :=
  ∃ A c, x = .slice A m c ∧ (0 < news.length → ∃ ad, A = some ad ∧ ∀ j v, news[j]? = some v → w.cell? (ad.add j) = some v)
theorem add_lit' (b o j : Nat) : (⟨b, o, none⟩ : Addr).add j = ⟨b, o + j, none⟩ := by unfold Addr.add; split <;> simp_all
theorem Src.of_blk {w : World} {b o m c : Nat} {cs : Array Value} {t : TypeId} {fr : Nat × Nat} (h : w.heap[b]? = some (.cells cs t fr)) (news : List Value) (hn : (cs.toList.drop o).take news.length = news) :
    Src w (.slice (some ⟨b, o, none⟩) m c) m news := by
  refine ⟨_, _, rfl, fun _ => ⟨_, rfl, fun j v hv => ?_⟩⟩
  rw [add_lit']
  rw [← hn, List.getElem?_take, List.getElem?_drop] at hv
  split at hv
  · simp [World.cell?, h]; simpa using hv
  · cases hv
theorem Src.nil (w : World) : Src w (.slice none 0 0) 0 [] := ⟨none, 0, rfl, fun h => by simp at h⟩
theorem Src.ext {S : Nat → Prop} {w w' : World} {x : Value} {m : Nat} {news : List Value} (h : Src w x m news) (he : Ext S w w') (hs : 0 < news.length → ∀ k, x.ownBlock = some k → k < w.heap.size → ¬ S k) : Src w' x m news := by
  obtain ⟨A, c, rfl, hr⟩ := h
  refine ⟨A, c, rfl, fun hp => ?_⟩
  obtain ⟨ad, rfl, hc⟩ := hr hp
  refine ⟨ad, rfl, fun j v hv => ?_⟩
  have h1 := hc j v hv
  have hb : (ad.add j).block = ad.block := by unfold Addr.add; split <;> rfl
  have hlt := World.block_lt_of_cell? w _ h1
  have := he.block _ hlt (by rw [hb]; exact hs hp _ rfl (by rw [← hb]; exact hlt))
  rw [World.cell?_of_block this]; exact h1
theorem Src.fresh {w w' : World} {x : Value} {m : Nat} {news : List Value} (h : Src w x m news) (hb : Below w.heap.size w w') : Src w' x m news := h.ext (Ext.of_fresh (S := fun _ => False) hb) (fun _ _ _ _ h => h)
theorem Src.drew {w : World} {x : Value} {m : Nat} {news : List Value} (h : Src w x m news) : Src w.drew x m news := h

theorem spl_len {α : Type} (L : List α) (off : Nat) (cs : List α) (h : off + cs.length ≤ L.length) : (splice L off cs).length = L.length := length_splice L off cs h

theorem own_form' {w : World} {base n size : Nat} {e : TypeId} {v : Value} {xs : List Value} (h : w.ownsRow base e size v n xs) (hn : 0 < n) :
    ∃ q cap, v = .slice (some ⟨q, 0, none⟩) n cap ∧ n ≤ cap ∧ cap ≤ maxLen ∧ base ≤ q ∧ q < w.heap.size := by
  rcases h.2 with ⟨_, h0⟩ | ⟨q, cap, cur, hv, hb, hg, h1, h2, _⟩
  · omega
  · exact ⟨q, cap, hv, h1, h2, hb, blk_lt hg⟩
theorem own_src {w : World} {base n : Nat} {e : TypeId} {v : Value} {xs : List Value} (h : w.ownsRow base e 1 v n xs) : Src w v n xs := by
  have hl := h.1
  rcases h.2 with ⟨rfl, rfl⟩ | ⟨q, cap, cur, rfl, hb, hg, h1, h2, h3, h4⟩
  · obtain rfl : xs = [] := List.eq_nil_of_length_eq_zero (by simpa using hl)
    exact Src.nil w
  · exact Src.of_blk hg xs (by rw [List.drop_zero, hl, h4])
theorem own_ext {S : Nat → Prop} {w w' : World} {base n size : Nat} {e : TypeId} {v : Value} {xs : List Value} (h : w.ownsRow base e size v n xs) (he : Ext S w w') (hs : ∀ k, v.ownBlock = some k → ¬ S k) : w'.ownsRow base e size v n xs := by
  refine ⟨h.1, ?_⟩
  rcases h.2 with hn | ⟨q, cap, cu, hv, hb, hg, r⟩
  · exact .inl hn
  · exact .inr ⟨q, cap, cu, hv, hb, (he.block q (blk_lt hg) (hs q (by rw [hv]; rfl))).trans hg, r⟩
theorem own_ne {S : Nat → Prop} {q o n cap : Nat} (h : ¬ S q) : ∀ k, (Value.slice (some ⟨q, o, none⟩) n cap).ownBlock = some k → ¬ S k := by
  intro k hk
  have e : q = k := by simpa [Value.ownBlock] using hk
  rw [← e]; exact h
theorem own_empty (w : World) (base : Nat) (e : TypeId) (size : Nat) (hb : base ≤ w.heap.size) : (w.alloc (.cells #[] e)).ownsRow base e size (.slice (some ⟨w.heap.size, 0, none⟩) 0 0) 0 [] :=
  ⟨by simp, .inr ⟨w.heap.size, 0, #[], rfl, hb, heap_alloc_new w _, Nat.le_refl _, by unfold maxLen; omega, by simp, by simp⟩⟩
/-- The block of an owned row. -/
theorem own_blk {w : World} {base n size q cap : Nat} {e : TypeId} {xs : List Value} (h : w.ownsRow base e size (.slice (some ⟨q, 0, none⟩) n cap) n xs) :
    ∃ cur, w.heap[q]? = some (.cells cur e (0, 0)) ∧ n ≤ cap ∧ cur.size = cap * size ∧ cur.toList.take (n * size) = xs := by
  rcases h.2 with ⟨hv, _⟩ | ⟨q', cap', cu, hv, _, hg, h1, _, h3, h4⟩
  · cases hv
  · injection hv with hv _ hc; injection hv with hv; injection hv with hv
    subst hv; subst hc
    exact ⟨cu, hg, h1, h3, h4⟩
theorem Src.take {w : World} {A : Option Addr} {n c : Nat} {news : List Value} (h : Src w (.slice A n c) n news) (m c' : Nat) : Src w (.slice A m c') m (news.take m) := by
  obtain ⟨A', c2, hv, hr⟩ := h
  injection hv with hv; subst hv
  refine ⟨A, c', rfl, fun hp => ?_⟩
  obtain ⟨ad, hA, hc⟩ := hr (by rw [List.length_take] at hp; omega)
  refine ⟨ad, hA, fun j v hj => ?_⟩
  rw [List.getElem?_take] at hj
  split at hj
  · exact hc j v hj
  · cases hj

def bcells (l : List Int) : List Value := l.map (Value.int .u8)
theorem bcells_len (l : List Int) : (bcells l).length = l.length := by simp [bcells]
theorem bcells_one (l : List Int) : ∀ v ∈ bcells l, v.oneCell' = true := by
  intro v hv; simp only [bcells, List.mem_map] at hv; obtain ⟨x, _, rfl⟩ := hv; rfl
/-- string(x), x a slice of bytes that reads l. -/
theorem conv_src {P : Program} {w : World} {x : Value} {n : Nat} {l : List Int} (h : Src w x n (bcells l)) (hl : l.length = n) (src dst e : TypeId) (hs : P.underlying src = some (.slice e)) (he : P.underlying e = some (.int .u8)) (hd : P.underlying dst = some .string) :
    (convert src dst x).run P w = .ok (.string (strOfNums l)) w := by
  obtain ⟨A, c, rfl, hr⟩ := h
  rcases Nat.eq_zero_or_pos l.length with h0 | hp
  · obtain rfl : l = [] := List.eq_nil_of_length_eq_zero h0
    obtain rfl : n = 0 := by simpa using hl.symm
    rw [run_convert_bytes_string w src dst e _ _ c hs he hd]
    cases A <;> simp [Conv.bytesToString, loadCells, loadCellsFrom, strOfNums] <;> rfl
  · obtain ⟨ad, rfl, hc⟩ := hr (by rw [bcells_len]; exact hp)
    obtain ⟨b, off, spot⟩ := ad
    have h0 := hc 0 (.int .u8 (l.getD 0 0)) (by simp [bcells, List.getElem?_eq_getElem hp, List.getD_eq_getElem?_getD])
    have hsp : spot = none := by
      cases spot with
      | none => rfl
      | some k => exact absurd h0 (by unfold Addr.add; simp [World.cell?]; split <;> simp)
    subst hsp
    refine run_convert_bytes_arg w src e hs he b off n c l hl (fun i hi => ?_) dst hd
    have := hc i (.int .u8 (l.getD i 0)) (by simp [bcells, List.getElem?_eq_getElem (show i < l.length by omega), List.getD_eq_getElem?_getD])
    rwa [add_lit'] at this

theorem foldl_set (l : List Value) : ∀ (pre : List Value) (rest : List Value), rest.length = l.length →
    ((l.zipIdx pre.length).foldl (fun cs (x : Value × Nat) => cs.setIfInBounds x.2 x.1) (pre ++ rest).toArray) = (pre ++ l).toArray := by
  induction l with
  | nil => intro pre rest h; simp at h; simp [h]
  | cons x l ih =>
    intro pre rest h
    match rest, h with
    | r :: rest, h =>
      simp only [List.zipIdx_cons, List.foldl_cons]
      have e : (pre ++ r :: rest).toArray.setIfInBounds pre.length x = ((pre ++ [x]) ++ rest).toArray := by
        simp [List.setIfInBounds_toArray]
      rw [e]
      have := ih (pre ++ [x]) rest (by simpa using h)
      simp only [List.length_append, List.length_cons, List.length_nil, Nat.zero_add] at this
      rw [this]; simp
theorem fill_whole (size : Nat) (zs : Array Value) (cs : List Value) (h1 : cs.length = size) (h2 : zs.size = size) :
    Instr.fill (fun i => some (i * size, size)) zs [(0, .agg cs.toArray)] = some cs.toArray := by
  have := foldl_set cs [] zs.toList (by simp [h1, h2])
  simp only [List.length_nil, List.nil_append, Array.toArray_toList] at this
  simp [Instr.fill, Value.cells, h1, h2]
  simpa using this
/-- '[]T{x}', x a struct: one new block. -/
theorem run_buildSlice_one {P : Program} (w : World) (t e : TypeId) (cs : List Value) (z : Value) (hu : P.underlying t = some (.slice e)) (hinfo : (P.info? e).map (fun i => (i.zero, i.size)) = some (some z, cs.length)) (hz : z.cells.size = cs.length) (hs : cs.length ≤ 1000000) (hp : 0 < cs.length) :
    (Instr.buildSlice t 1 #[(0, .agg cs.toArray)]).run P w = .ok (.slice (some ⟨w.heap.size, 0, none⟩) 1 1) (w.alloc (.cells cs.toArray e)) := by
  obtain ⟨i, hi, hzz⟩ := Option.map_eq_some_iff.1 hinfo
  simp only [Prod.mk.injEq] at hzz
  obtain ⟨hz0, hz1⟩ := hzz
  exact run_buildSlice w t e 1 _ cs.toArray i z hu hi hz0 (by rw [hz1]; omega) (by rw [hz1]; omega) (by rw [hz1]; exact fill_whole cs.length _ cs rfl (by simp))

section
variable {P : Program} {o : Oper} {a : Act} {w : World} {K : Act → World → Prop} {Q : Exit → Act → World → Prop} {ops : Array Oper} {rest : List Oper} {E : Prop}

theorem step_of (hgd : o.guard = none) (h : Oper.wp P o a w K Q) : if Region.wanted o (yielded ops a.tmps) = true then Oper.wp P o a w K Q else E := by
  have hw : Region.wanted o (yielded ops a.tmps) = true := by simp [Region.wanted, hgd]
  rw [if_pos hw]; exact h

/-- An operation whose run is known. -/
theorem wp_value {v : Value} {w' : World} (hrun : (execOp a.eval o).run P w = .ok (.value v) w') (h : K (a.put o.dst v) w') : Oper.wp P o a w K Q := by
  unfold Oper.wp; rw [hrun]; exact h
theorem wp_skip' {w' : World} (hrun : (execOp a.eval o).run P w = .ok .skip w') (h : K (a.put o.dst undef) w') : Oper.wp P o a w K Q := by
  unfold Oper.wp; rw [hrun]; exact h
theorem wpList_value (hgd : o.guard = none) {v : Value} {w' : World} (hrun : (execOp a.eval o).run P w = .ok (.value v) w') (h : wpList P ops Q rest (a.put o.dst v) w') : wpList P ops Q (o :: rest) a w :=
  wpList_plain hgd fun _ hK => wp_value hrun (hK _ _ h)

/-- copy: the destination's block known whole; the source read before. -/
theorem run_copy_any (d s : Operand) (dT sT : TypeId) (ho : o.op = .call { callee := .builtin .copy, args := #[d, s], argTypes := #[dT, sT] }) (elem : TypeId) (hu : P.underlying dT = some (.slice elem)) (hsz : (P.info? elem).map (·.size) = some 1)
    (g off dLen dCap : Nat) (x : Value) (sLen : Nat) (hd : a.eval d = .slice (some ⟨g, off, none⟩) dLen dCap) (hs : a.eval s = x) (cs : List Value) (hx : Src w x sLen cs) (hn : cs.length = min sLen dLen)
    (cur : Array Value) (t : TypeId) (hg : w.heap[g]? = some (.cells cur t (0, 0))) (hfit : off + cs.length ≤ cur.size) (h1 : ∀ v ∈ cs, v.oneCell' = true) :
    ∃ w', (execOp a.eval o).run P w = .ok (.value (goInt cs.length)) w' ∧ w'.heap[g]? = some (.cells (splice cur.toList off cs).toArray t (0, 0)) ∧ Ext (· = g) w w' := by
  obtain ⟨A, c, rfl, hr⟩ := hx
  have hlt := blk_lt hg
  rcases Nat.eq_zero_or_pos cs.length with h0 | hp
  · obtain rfl : cs = [] := List.eq_nil_of_length_eq_zero h0
    refine ⟨w, ?_, by simpa [splice] using hg, Ext.refl _ _⟩
    have hz : min sLen dLen = 0 := by simpa using hn.symm
    cases hq : P.info? elem with
    | none => simp [hq] at hsz
    | some i =>
      have hi : i.size = 1 := by simpa [hq] using hsz
      have hz' : Nat.min sLen dLen = 0 := hz
      cases A with
      | none => simp [execOp, ho, resolve, invoke, builtin, hd, hs, Builtin.copy_, run_underlying hu, Builtin.lenOf, Builtin.firstCells, sizeOf, typeInfo, hq, hi, hz', storeCells, Result.andThen]
      | some ad => simp [execOp, ho, resolve, invoke, builtin, hd, hs, Builtin.copy_, run_underlying hu, Builtin.lenOf, Builtin.firstCells, sizeOf, typeInfo, hq, hi, hz', storeCells, loadCells, loadCellsFrom, Result.andThen]
  · obtain ⟨ad, rfl, hsrc⟩ := hr hp
    have hrun := run_copy_row (P := P) w dT sT o.type elem g off dLen dCap ad sLen c cur t cs hu hsz hg hn hsrc hfit h1
    refine ⟨w.setRow g (cur.toList.take off ++ cs ++ cur.toList.drop (off + cs.length)).toArray, ?_, ?_, ?_⟩
    · simp [execOp, ho, resolve, invoke, builtin, hd, hs, hrun, Result.andThen]
    · simpa [splice] using setRow_heap w g cur _ t (0, 0) hg
    · exact ⟨rfl, rfl, rfl, by simp, fun k hk hne => setRow_other w g k _ hne⟩

/-- append of what is read onto a row of the call's own. -/
theorem run_append_any (base : Nat) (s x : Operand) (t : TypeId) (ho : o.op = .call { callee := .builtin .append, args := #[s, x], argTypes := #[t, t] })
    (e : TypeId) (z : Value) (size bytes : Nat) (ht : P.underlying t = some (.slice e)) (hinfo : (P.info? e).map (fun i => (i.zero, i.size, i.bytes)) = some (some z, size, bytes)) (hzs : z.cells.size = size) (hsz : 0 < size)
    (v : Value) (n : Nat) (xs : List Value) (hs : a.eval s = v) (hown : w.ownsRow base e size v n xs)
    (m : Nat) (news : List Value) (y : Value) (hx : a.eval x = y) (hy : Src w y m news) (hl : news.length = m * size) (h1 : ∀ u ∈ news, u.oneCell' = true)
    (h63 : n + m ≤ maxLen) (hbytes : (n + m) * bytes ≤ 140737488355328) (hbase : base ≤ w.heap.size) :
    ∃ v' w', (execOp a.eval o).run P w = .ok (.value v') w' ∧ w'.ownsRow base e size v' (n + m) (xs ++ news) ∧ w.grownBy w' v.ownBlock ∧ (v'.ownBlock = v.ownBlock ∨ v'.ownBlock = some w.heap.size) := by
  obtain ⟨i, hi, hzz⟩ := Option.map_eq_some_iff.1 hinfo
  simp only [Prod.mk.injEq] at hzz
  obtain ⟨hz0, hz1, hz2⟩ := hzz
  obtain ⟨A, c, rfl, hr⟩ := hy
  rcases A with _ | ad
  · have h0 : news.length = 0 := by
      rcases Nat.eq_zero_or_pos news.length with h0 | h0
      · exact h0
      · obtain ⟨ad, h, _⟩ := hr h0; cases h
    obtain rfl : news = [] := List.eq_nil_of_length_eq_zero h0
    have hm : m = 0 := by
      rcases Nat.eq_zero_or_pos m with h | h
      · exact h
      · have := Nat.mul_pos h hsz; simp at hl; omega
    subst hm
    refine ⟨v, w, ?_, by simpa using hown, World.grownBy.refl w _, .inl rfl⟩
    rcases hown.2 with ⟨rfl, hn⟩ | ⟨g, cap, cur, rfl, _, _, hnc, _⟩
    · simp [execOp, ho, resolve, invoke, builtin, hs, hx, Builtin.append_, run_underlying ht, sizeOf, typeInfo, hi, Builtin.lenOf, Builtin.firstCells, Result.andThen]
    · simp [execOp, ho, resolve, invoke, builtin, hs, hx, Builtin.append_, run_underlying ht, sizeOf, typeInfo, hi, Builtin.lenOf, Builtin.firstCells, hnc, storeCells, Result.andThen]
  · have hnews : ∀ j u, news[j]? = some u → w.cell? (ad.add j) = some u := by
      intro j u hu
      have hp : 0 < news.length := by
        rcases Nat.eq_zero_or_pos news.length with h | h
        · rw [List.eq_nil_of_length_eq_zero h] at hu; simp at hu
        · exact h
      obtain ⟨ad', he, hc⟩ := hr hp
      injection he with he; subst he
      exact hc j u hu
    obtain ⟨v1, w1, hrun, h2, h3, _, h5⟩ := run_append_own_at (P := P) w base t o.type e i z size bytes ht hi hz0 hz1 hz2 hzs hsz v n xs hown ad m c news hl hnews h1 h63 hbytes hbase
    exact ⟨v1, w1, by simp [execOp, ho, resolve, invoke, builtin, hs, hx, hrun, Result.andThen], h2, h3, h5⟩

theorem wp_copy (d s : Operand) (dT sT : TypeId) (ho : o.op = .call { callee := .builtin .copy, args := #[d, s], argTypes := #[dT, sT] }) (elem : TypeId) (hu : P.underlying dT = some (.slice elem)) (hsz : (P.info? elem).map (·.size) = some 1)
    (g off dLen dCap : Nat) (x : Value) (sLen : Nat) (hd : a.eval d = .slice (some ⟨g, off, none⟩) dLen dCap) (hs : a.eval s = x) (cs : List Value) (hx : Src w x sLen cs) (hn : cs.length = min sLen dLen)
    (cur : Array Value) (t : TypeId) (hg : w.heap[g]? = some (.cells cur t (0, 0))) (hfit : off + cs.length ≤ cur.size) (h1 : ∀ v ∈ cs, v.oneCell' = true)
    (h : ∀ w', Hid (w'.heap[g]? = some (.cells (splice cur.toList off cs).toArray t (0, 0))) → Ext (· = g) w w' → K (a.put o.dst (goInt cs.length)) w') : Oper.wp P o a w K Q := by
  obtain ⟨w', hrun, h2, h3⟩ := run_copy_any (P := P) d s dT sT ho elem hu hsz g off dLen dCap x sLen hd hs cs hx hn cur t hg hfit h1
  exact wp_value hrun (h w' h2 h3)
theorem wp_append (base : Nat) (s x : Operand) (t : TypeId) (ho : o.op = .call { callee := .builtin .append, args := #[s, x], argTypes := #[t, t] })
    (e : TypeId) (z : Value) (size bytes : Nat) (ht : P.underlying t = some (.slice e)) (hinfo : (P.info? e).map (fun i => (i.zero, i.size, i.bytes)) = some (some z, size, bytes)) (hzs : z.cells.size = size) (hsz : 0 < size)
    (v : Value) (n : Nat) (xs : List Value) (hs : a.eval s = v) (hown : w.ownsRow base e size v n xs)
    (m : Nat) (news : List Value) (y : Value) (hx : a.eval x = y) (hy : Src w y m news) (hl : news.length = m * size) (h1 : ∀ u ∈ news, u.oneCell' = true)
    (h63 : n + m ≤ maxLen) (hbytes : (n + m) * bytes ≤ 140737488355328) (hbase : base ≤ w.heap.size)
    (h : ∀ v' w', w'.ownsRow base e size v' (n + m) (xs ++ news) → w.grownBy w' v.ownBlock → (v'.ownBlock = v.ownBlock ∨ v'.ownBlock = some w.heap.size) → K (a.put o.dst v') w') : Oper.wp P o a w K Q := by
  obtain ⟨v', w', hrun, h2, h3, h4⟩ := run_append_any (P := P) base s x t ho e z size bytes ht hinfo hzs hsz v n xs hs hown m news y hx hy hl h1 h63 hbytes hbase
  exact wp_value hrun (h v' w' h2 h3 h4)

/-- A struct or an array is loaded out of the middle of a block. -/
theorem run_load_row (ty : TypeId) (x : Operand) (ho : o.op = .load ty x) (b off : Nat) (hx : a.eval x = .pointer (some ⟨b, off, none⟩)) (cs : List Value) (d : TypeDesc) (hc : w.rangeAt b off cs)
    (hu : P.underlying ty = some d) (hd : d.isRow = true) (hi : (P.info? ty).map (·.size) = some cs.length) : (execOp a.eval o).run P w = .ok (.value (.agg cs.toArray)) w := by
  unfold execOp
  simp only [ho, hx, Instr.loadAt, Instr.sureAddr, Sem.run_bind, Sem.run_pure, Result.andThen_ok, run_loadVar_mid w b off ty cs d hc hu hd hi]
/-- A struct or an array is stored over the whole of a block. -/
theorem run_store_blk (ty : TypeId) (x y : Operand) (ho : o.op = .store ty x y) (g : Nat) (cells : Array Value) (hx : a.eval x = .pointer (some ⟨g, 0, none⟩)) (hy : a.eval y = .agg cells)
    (t : TypeId) (old : Array Value) (hg : w.heap[g]? = some (.cells old t (0, 0))) (hi : (P.info? ty).map (·.size) = some cells.size) (hold : old.size = cells.size) (h1 : cells.all (·.oneCell') = true) :
    ∃ w', (execOp a.eval o).run P w = .ok .skip w' ∧ w'.heap[g]? = some (.cells cells t (0, 0)) ∧ Ext (· = g) w w' := by
  refine ⟨w.setRow g cells, ?_, setRow_heap w g old _ t (0, 0) hg, rfl, rfl, rfl, by simp, fun k hk hne => setRow_other w g k _ hne⟩
  unfold execOp
  simp only [ho, hx, hy, Instr.storeAt, Instr.sureAddr, Sem.run_bind, Sem.run_pure, Result.andThen_ok, run_storeVar_row w g t ty old cells hg hi hold h1]
/-- A new variable. -/
theorem run_alloc_blk (e : TypeId) (ho : o.op = .alloc e) (z : Array Value) (hz : ∀ w, (zeroValue e).run P w = .ok (.agg z) w) :
    (execOp a.eval o).run P w = .ok (.value (.pointer (some ⟨w.heap.size, 0, none⟩))) (w.alloc (.cells z e)) := by
  simp [execOp, ho, Instr.alloc, hz, newVar, newRow, Value.cells, Result.andThen]
theorem run_build_eq (t : TypeId) (parts : List (Nat × Operand)) (ho : o.op = .build t parts.toArray) (ps : List (Nat × Value)) (hp : parts.map (fun p => (p.1, a.eval p.2)) = ps) (v : Value) (hr : ∀ w, (Instr.build t ps.toArray).run P w = .ok v w) :
    (execOp a.eval o).run P w = .ok (.value v) w := by
  subst hp
  have e : (parts.toArray.map fun (i, x) => (i, a.eval x)) = (parts.map fun p => (p.1, a.eval p.2)).toArray := by simp
  simp only [execOp, ho]
  rw [e, Sem.run_bind, hr w]
  rfl
theorem wpList_skip' (hgd : o.guard = none) {w' : World} (hrun : (execOp a.eval o).run P w = .ok .skip w') (h : wpList P ops Q rest (a.put o.dst undef) w') : wpList P ops Q (o :: rest) a w :=
  wpList_plain hgd fun _ hK => wp_skip' hrun (hK _ _ h)
theorem wpList_store_blk (hgd : o.guard = none) (ty : TypeId) (x y : Operand) (ho : o.op = .store ty x y) (g : Nat) (cells : Array Value) (hx : a.eval x = .pointer (some ⟨g, 0, none⟩)) (hy : a.eval y = .agg cells)
    (t : TypeId) (old : Array Value) (hg : w.heap[g]? = some (.cells old t (0, 0))) (hi : (P.info? ty).map (·.size) = some cells.size) (hold : old.size = cells.size) (h1 : cells.all (·.oneCell') = true)
    (h : ∀ w', Hid (w'.heap[g]? = some (.cells cells t (0, 0))) → Ext (· = g) w w' → wpList P ops Q rest (a.put o.dst undef) w') : wpList P ops Q (o :: rest) a w := by
  obtain ⟨w', hrun, h2, h3⟩ := run_store_blk (P := P) ty x y ho g cells hx hy t old hg hi hold h1
  exact wpList_skip' hgd hrun (h w' h2 h3)
theorem wpList_of_wp (hgd : o.guard = none) (h : Oper.wp P o a w (wpList P ops Q rest) Q) : wpList P ops Q (o :: rest) a w := by
  unfold wpList
  rw [if_pos (by simp [Region.wanted, hgd])]
  exact .inl h

/-- The operation at a place, so that it is read off by looking. -/
def nthOp : List Oper → Nat → Option Oper
  | [], _ => none
  | o :: _, 0 => some o
  | _ :: l, i + 1 => nthOp l i
theorem nthOp_eq : ∀ (l : List Oper) (i : Nat), nthOp l i = l[i]?
  | [], _ => rfl
  | _ :: _, 0 => rfl
  | _ :: l, i + 1 => by simp [nthOp, nthOp_eq l i]
theorem nthOp_arr {ops : Array Oper} {i : Nat} {oi : Oper} (h : nthOp ops.toList i = some oi) : ops[i]? = some oi := by rw [nthOp_eq] at h; simpa using h
/-! A region that draws its order, walked by hand: 'reg_start', then one line an operation. -/
def regOk (ops : Array Oper) (listed : Array Bool) (i : Nat) : Bool := Region.noSelect ops && Region.free .any ops listed i && (Region.ready .any ops listed).contains i
variable {S : World → Prop} {fuel : Nat} {listed : Array Bool}
theorem reg_start {id : Nat} (S : World → Prop) (hm : P.follows .mixedOrders = true) (h : wpAnyH P .any ops (NoPanic Q) S ops.size (Array.replicate ops.size false) a w.drew) : (Code.region id ops true).wp P Q a w :=
  wp_region_noPanic (wp_region_held (S := S) hm h)
theorem noPanic_put (c : List PanicEntry) (a : Act) (w : World) (d : Option Tmp) (v : Value) : NoPanic Q (.panic c) (a.put d v) w → NoPanic Q (.panic c) a w := fun h => h
theorem reg_take (i : Nat) {oi : Oper} {v : Value} (hi : nthOp ops.toList i = some oi) (hc : regOk ops listed i = true) (hw : Region.wanted oi (yielded ops a.tmps) = true) (hy : ∀ w, S w → (execOp a.eval oi).run P w = .ok (.value v) w) (hS : S w)
    (h : wpAnyH P .any ops (NoPanic Q) S fuel (listed.setIfInBounds i true) (a.put oi.dst v) w) : wpAnyH P .any ops (NoPanic Q) S (fuel + 1) listed a w := by
  simp only [regOk, Bool.and_eq_true] at hc
  exact wpAnyH_take (nthOp_arr hi) hc.1.1 hc.1.2 hc.2 (fun c a w => noPanic_put c a w _ _) (.inl ⟨hw, hy⟩) hS h
theorem reg_pass (i : Nat) {oi : Oper} (hi : nthOp ops.toList i = some oi) (hc : regOk ops listed i = true) (hw : Region.wanted oi (yielded ops a.tmps) = false) (hS : S w)
    (h : wpAnyH P .any ops (NoPanic Q) S fuel (listed.setIfInBounds i true) (a.put oi.dst undef) w) : wpAnyH P .any ops (NoPanic Q) S (fuel + 1) listed a w := by
  simp only [regOk, Bool.and_eq_true] at hc
  exact wpAnyH_take (nthOp_arr hi) hc.1.1 hc.1.2 hc.2 (fun c a w => noPanic_put c a w _ _) (.inr ⟨hw, rfl⟩) hS h
theorem reg_one (i : Nat) {oi : Oper} (hr : Region.ready .any ops listed = [i]) (hi : nthOp ops.toList i = some oi) (hw : Region.wanted oi (yielded ops a.tmps) = true)
    (h : Oper.wp P oi a w (fun a' w' => S w' ∧ wpAnyH P .any ops (NoPanic Q) S fuel (listed.setIfInBounds i true) a' w') (NoPanic Q)) : wpAnyH P .any ops (NoPanic Q) S (fuel + 1) listed a w := by
  refine wpAnyH_all hr (by simp) (fun j hj => ?_)
  obtain rfl : j = i := by simpa using hj
  unfold Go.wpOp
  rw [nthOp_arr hi]
  simp only [hw, if_true]
  exact .inl h
theorem reg_call (i : Nat) {oi : Oper} {f : FuncId} {args : Array Value} (hr : Region.ready .any ops listed = [i]) (hi : nthOp ops.toList i = some oi) (hw : Region.wanted oi (yielded ops a.tmps) = true) (hrun : (execOp a.eval oi).run P w = .ok (.enter f args) w)
    (h : Calls P f args w fun e w' => ∃ v, e = .returned v ∧ S w' ∧ wpAnyH P .any ops (NoPanic Q) S fuel (listed.setIfInBounds i true) (a.put oi.dst v) w') : wpAnyH P .any ops (NoPanic Q) S (fuel + 1) listed a w := by
  refine reg_one i hr hi hw ?_
  unfold Oper.wp
  rw [hrun, Oper.upon_enter]
  refine h.mono fun e w' hv => ?_
  obtain ⟨v, rfl, hS, hk⟩ := hv
  exact ⟨hS, hk⟩
theorem reg_run (i : Nat) {oi : Oper} {v : Value} {w' : World} (hr : Region.ready .any ops listed = [i]) (hi : nthOp ops.toList i = some oi) (hw : Region.wanted oi (yielded ops a.tmps) = true) (hrun : (execOp a.eval oi).run P w = .ok (.value v) w') (hS : S w')
    (h : wpAnyH P .any ops (NoPanic Q) S fuel (listed.setIfInBounds i true) (a.put oi.dst v) w') : wpAnyH P .any ops (NoPanic Q) S (fuel + 1) listed a w :=
  reg_one i hr hi hw (by unfold Oper.wp; rw [hrun]; exact ⟨hS, h⟩)
theorem reg_done (hr : Region.ready .any ops listed = []) (h : Q .normal a w) : wpAnyH P .any ops (NoPanic Q) S fuel listed a w := wpAnyH_done hr (NoPanic.normal h) _
end
end Go.Proofs.Ytfnkbmjpiiabkaa
