/- The argument '[]Op' read as data; fits and small. -/
import Derived.Test.YtfnkbmjpiiabkaaFails
import Derived.ProofKit
import Derived.OpenShut
import Derived.Deep.Slices
set_option linter.unusedVariables false
set_option linter.unusedSimpArgs false
namespace Go.Proofs.Ytfnkbmjpiiabkaa
open Go.ChangeShapes Go.WideShapes Go.ChangeAt Go.RowKit
structure OpD where
  kd : Int
  at_ : Int
  n : Int
  kp : Int
  x : Value
  m : Nat
  data : List Int
/-- One call lies in block b from o on. -/
structure OpAt (W : World) (b o : Nat) (d : OpD) : Prop where
  c0 : W.cell? ⟨b, o, none⟩ = some (.int .u8 d.kd)
  c1 : W.cell? ⟨b, o + 1, none⟩ = some (.int .i64 d.at_)
  c2 : W.cell? ⟨b, o + 2, none⟩ = some (.int .i64 d.n)
  c3 : W.cell? ⟨b, o + 3, none⟩ = some (.int .u64 d.kp)
  c4 : W.cell? ⟨b, o + 4, none⟩ = some d.x
  src : Src W d.x d.m (bcells d.data)
  len : d.data.length = d.m
  max : d.m ≤ maxLen
  k0 : 0 ≤ d.kd ∧ d.kd ≤ 255
  a0 : -9223372036854775808 ≤ d.at_ ∧ d.at_ ≤ 9223372036854775807
  n0 : -9223372036854775808 ≤ d.n ∧ d.n ≤ 9223372036854775807
  p0 : 0 ≤ d.kp ∧ d.kp ≤ 18446744073709551615
/-- The list of calls. -/
def OpsV (W : World) (A : Option Addr) (len : Nat) (f : Nat → OpD) : Prop := len ≤ maxLen ∧ (0 < len → ∃ b off, A = some ⟨b, off, none⟩ ∧ ∀ i, i < len → OpAt W b (off + i * 5) (f i))
theorem OpAt.fresh {W W' : World} {b o : Nat} {d : OpD} (h : OpAt W b o d) (hb : Below W.heap.size W W') : OpAt W' b o d := by
  have hc : ∀ (a : Addr) v, W.cell? a = some v → W'.cell? a = some v := fun a v hv => (hb.cell (World.block_lt_of_cell? W a hv)).trans hv
  exact ⟨hc _ _ h.c0, hc _ _ h.c1, hc _ _ h.c2, hc _ _ h.c3, hc _ _ h.c4, h.src.fresh hb, h.len, h.max, h.k0, h.a0, h.n0, h.p0⟩
theorem OpsV.fresh {W W' : World} {A : Option Addr} {len : Nat} {f : Nat → OpD} (h : OpsV W A len f) (hb : Below W.heap.size W W') : OpsV W' A len f :=
  ⟨h.1, fun hp => by obtain ⟨b, off, e, hf⟩ := h.2 hp; exact ⟨b, off, e, fun i hi => (hf i hi).fresh hb⟩⟩
section
variable {H : Type} {enc : TypeId × Value → H} {w : World} {base : Nat} {spare : Nat → Bool} {held : Bool}
theorem bytes_src {fuel : Nat} {v : Value} {x : DataW H × List MemPlace} (h : DataW.trod enc Try.prog w base spare held fuel 27 [v] = some x) : ∃ m l, Src w v m (bcells l) ∧ l.length = m ∧ m ≤ maxLen := by
  rcases open_ints Try.underlying27 Try.underlying5 (by kernel_rfl) h with ⟨hcs, _⟩ | ⟨a, l, c, zs, hcs, _, hl, hm, hz, _, hcell, hwz⟩
  · injection hcs with hcs; subst hcs
    exact ⟨0, [], Src.nil w, rfl, by unfold maxLen; omega⟩
  · injection hcs with hcs; subst hcs
    have hzl : l ≤ zs.length := by rw [hz]; split <;> omega
    refine ⟨l, zs.take l, ⟨_, _, rfl, fun _ => ⟨a, rfl, fun j v hv => ?_⟩⟩, by rw [List.length_take]; omega, by omega⟩
    simp only [bcells, List.getElem?_map, List.getElem?_take, Option.map_eq_some_iff] at hv
    obtain ⟨i, hi, rfl⟩ := hv
    split at hi
    · have hj := (List.getElem?_eq_some_iff.1 hi).1
      rw [hcell j hj, List.getD_eq_getElem?_getD, hi]; rfl
    · cases hi
theorem op_open {fuel : Nat} {a : Addr} {cs : List Value} {x : DataW H × List MemPlace} (hc : w.cells? base a 5 = some cs) (h : DataW.trod enc Try.prog w base spare held fuel 38 cs = some x) : ∃ b o d, a = ⟨b, o, none⟩ ∧ OpAt w b o d := by
  obtain ⟨b, o, spot⟩ := a
  obtain ⟨hb, hlen, hcells⟩ := World.cells?_some hc
  obtain ⟨xs, n, _, rfl, hl, hlx, hf⟩ := DataW.trod_struct Try.underlying38 h
  match cs, hlen, hcells, hf with
  | [c0, c1, c2, c3, c4], _, hcells, hf =>
    have g0 := hcells 0 (by decide)
    have g1 := hcells 1 (by decide)
    have g2 := hcells 2 (by decide)
    have g3 := hcells 3 (by decide)
    have g4 := hcells 4 (by decide)
    have hsp : spot = none := by
      cases spot with
      | none => rfl
      | some k => exact absurd g0 (by unfold Addr.add; simp [World.cell?]; split <;> simp)
    subst hsp
    simp only [add_lit'] at g0 g1 g2 g3 g4
    have x0 : ∀ i, i < 5 → ∃ y, xs[i]? = some y := fun i hi => ⟨_, List.getElem?_eq_getElem (by rw [hlx]; exact hi)⟩
    obtain ⟨y0, e0⟩ := x0 0 (by decide)
    obtain ⟨y1, e1⟩ := x0 1 (by decide)
    obtain ⟨y2, e2⟩ := x0 2 (by decide)
    obtain ⟨y3, e3⟩ := x0 3 (by decide)
    obtain ⟨y4, e4⟩ := x0 4 (by decide)
    have h0 := (hf 0 _ rfl).trans e0
    have h1 := (hf 1 _ rfl).trans e1
    have h2 := (hf 2 _ rfl).trans e2
    have h3 := (hf 3 _ rfl).trans e3
    have h4 := (hf 4 _ rfl).trans e4
    obtain ⟨n0, q0, _, w0⟩ := DataW.trod_int Try.underlying5 h0
    obtain ⟨n1, q1, _, w1⟩ := DataW.trod_int Try.underlying3 h1
    obtain ⟨n2, q2, _, w2⟩ := DataW.trod_int Try.underlying3 h2
    obtain ⟨n3, q3, _, w3⟩ := DataW.trod_int Try.underlying33 h3
    have r0 : c0 = .int .u8 n0 := by have : [c0] = _ := q0; injection this
    have r1 : c1 = .int .i64 n1 := by have : [c1] = _ := q1; injection this
    have r2 : c2 = .int .i64 n2 := by have : [c2] = _ := q2; injection this
    have r3 : c3 = .int .u64 n3 := by have : [c3] = _ := q3; injection this
    obtain ⟨m, l, s1, s2, s3⟩ := bytes_src (v := c4) h4
    subst r0 r1 r2 r3
    exact ⟨b, o, ⟨n0, n1, n2, n3, c4, m, l⟩, rfl, ⟨g0, g1, g2, g3, g4, s1, s2, s3, bounds_u8 w0, bounds_i64 w1, bounds_i64 w2, bounds_u64 w3⟩⟩
theorem ops_open {fuel : Nat} {A : Option Addr} {len cap : Nat} {x : DataW H × List MemPlace} (h : DataW.trod enc Try.prog w base spare held fuel 32 [.slice A len cap] = some x) : ∃ f, OpsV w A len f := by
  rcases DataW.trod_slice Try.underlying32 h with ⟨hv, _⟩ | ⟨a, len', cap', elems, rest, n, _, hv, _, hb, hl, hm, hlen, hel, _⟩
  · injection hv with hv; injection hv with _ hv _
    subst hv
    exact ⟨fun _ => ⟨0, 0, 0, 0, undef, 0, []⟩, by unfold maxLen; omega, fun h => by omega⟩
  · injection hv with hv; injection hv with hv1 hv2 hv3
    subst hv1 hv2 hv3
    have hc : Try.prog.cellsOf 38 = 5 := by kernel_rfl
    have key : ∀ i, i < len → ∃ d, ∃ b o, a.add (i * 5) = ⟨b, o, none⟩ ∧ OpAt w b o d := by
      intro i hi
      have h1 := hel i hi
      rw [hc, List.getElem?_eq_getElem (by omega)] at h1
      obtain ⟨cs, h2, h3⟩ := Option.bind_eq_some_iff.1 h1
      obtain ⟨b, o, d, e, ho⟩ := op_open h2 h3
      exact ⟨d, b, o, e, ho⟩
    rcases Nat.eq_zero_or_pos len with h0 | hp
    · exact ⟨fun _ => ⟨0, 0, 0, 0, undef, 0, []⟩, by omega, fun h => by omega⟩
    · obtain ⟨d0, b0, o0, e0, _⟩ := key 0 hp
      have ea : a = ⟨b0, o0, none⟩ := by rw [Nat.zero_mul] at e0; simpa [Addr.add] using e0
      subst ea
      haveI : Inhabited OpD := ⟨⟨0, 0, 0, 0, undef, 0, []⟩⟩
      obtain ⟨f, hf⟩ := Deep.choose_lt key
      refine ⟨f, by omega, fun _ => ⟨b0, o0, rfl, fun i hi => ?_⟩⟩
      obtain ⟨b, o, e, ho⟩ := hf i hi
      rw [add_lit'] at e
      injection e with e1 e2
      subst e1 e2
      exact ho
end
end Go.Proofs.Ytfnkbmjpiiabkaa
