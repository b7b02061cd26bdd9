/- A disk that is on and not armed: what any writes, a flush and a crash leave. -/
import Derived.Test.YtfnkbmjpiiabkaaOps2
set_option linter.unusedVariables false
set_option linter.unusedSimpArgs false
namespace Go.Proofs.Ytfnkbmjpiiabkaa
open Go.RowKit
/-- On, not armed, N sectors, at most i writes pending. -/
structure Calm (N i : Nat) (s : DSt) : Prop where
  ok : s.Ok
  n : s.n = N
  on : s.on = true
  ar : s.ar = false
  pl : s.pend.length ≤ i
/-- What is read is what was flushed with the pending writes laid over it. -/
def Same (s : DSt) : Prop := s.cur = flTo s.dur s.pend s.pend.length
theorem Calm.pf {N i : Nat} {s : DSt} (h : Calm N i s) : pfB s.ar s.lf = false := by rw [h.ar]; rfl
theorem Calm.cases {N i : Nat} {s : DSt} (h : Calm N i s) (at_ : Int) (b : List Int) :
    (s.wr at_ b = s ∧ s.wrErr at_ b.length ≠ 0) ∨ (∃ k : Nat, at_ = k ∧ k < N ∧ b.length ≤ 64 ∧ s.wr at_ b = s.wrote k b ∧ s.wrErr at_ b.length = 0) := by
  by_cases hd : dchk s.on at_ s.n = 0
  · obtain ⟨_, h0, h1⟩ := dchk_zero hd
    by_cases hb : 64 < b.length
    · left
      unfold DSt.wr DSt.wrErr
      rw [if_neg (by simp [hd]), if_pos hb, if_neg (by simp [hd]), if_pos hb]
      exact ⟨rfl, by decide⟩
    · right
      have := wr_ok s at_ b h.on h0 h1 (by omega) h.pf
      exact ⟨at_.toNat, by omega, by have := h.n; omega, by omega, this.1, this.2⟩
  · left
    unfold DSt.wr DSt.wrErr
    rw [if_pos hd, if_pos hd]
    exact ⟨rfl, hd⟩
theorem Calm.wrote {N i : Nat} {s : DSt} (h : Calm N i s) (k : Nat) (b : List Int) (hk : k < N) (hb : b.length ≤ 64) : Calm N (i + 1) (s.wrote k b) := by
  have hp := padB_len b hb
  have hcl := h.ok.cur
  have hpw := pw_calm h.pf
  have hn := h.n
  have hlf := pfLf_range (ar := s.ar) h.ok.l0 h.ok.l1
  refine ⟨⟨h.ok.n0, h.ok.n1, h.ok.dur, ?_, ?_, hlf.1, hlf.2⟩, h.n, by rw [show (s.wrote k b).on = s.pw.on from rfl, hpw.1, h.on], by rw [show (s.wrote k b).ar = s.pw.ar from rfl, hpw.2, h.ar], ?_⟩
  · show (splice s.cur (k * 64) (padB b)).length = s.n * 64
    rw [spl_len _ _ _ (by rw [hp, hcl]; omega), h.ok.cur]
  · intro p hp'
    simp only [DSt.wrote, List.mem_append, List.mem_singleton] at hp'
    rcases hp' with hp' | rfl
    · exact h.ok.pend p hp'
    · exact ⟨by show k < s.n; omega, hp⟩
  · show (s.pend ++ [_]).length ≤ i + 1
    rw [List.length_append]; have := h.pl; simp; omega
theorem Calm.up {N i j : Nat} {s : DSt} (h : Calm N i s) (hj : i ≤ j) : Calm N j s := ⟨h.ok, h.n, h.on, h.ar, Nat.le_trans h.pl hj⟩
theorem Calm.wr {N i : Nat} {s : DSt} (h : Calm N i s) (at_ : Int) (b : List Int) : Calm N (i + 1) (s.wr at_ b) := by
  rcases h.cases at_ b with ⟨e, _⟩ | ⟨k, _, hk, hb, e, _⟩
  · rw [e]; exact h.up (by omega)
  · rw [e]; exact h.wrote k b hk hb
theorem flTo_snoc (D : List Int) (l : List (Nat × List Int)) (p : Nat × List Int) : flTo D (l ++ [p]) (l ++ [p]).length = splice (flTo D l l.length) (p.1 * 64) p.2 := by
  unfold flTo
  rw [List.take_length, List.take_length, List.foldl_append]; rfl
theorem Same.wr {N i : Nat} {s : DSt} (h : Calm N i s) (hs : Same s) (at_ : Int) (b : List Int) : Same (s.wr at_ b) := by
  rcases h.cases at_ b with ⟨e, _⟩ | ⟨k, _, hk, hb, e, _⟩
  · rw [e]; exact hs
  · rw [e]
    show splice s.cur (k * 64) (padB b) = flTo s.dur (s.pend ++ [(k, padB b)]) (s.pend ++ [(k, padB b)]).length
    rw [flTo_snoc, ← hs]
theorem Calm.flErr {N i : Nat} {s : DSt} (h : Calm N i s) : s.flErr = 0 := by
  unfold DSt.flErr; rw [if_neg]; rw [h.on, h.pf]; simp
theorem Calm.fl {N i : Nat} {s : DSt} (h : Calm N i s) (hs : Same s) : s.fl.dur = s.cur ∧ s.fl.cur = s.cur ∧ Calm N 0 s.fl ∧ s.fl.pend = [] := by
  have e : s.fl = { s.pw with dur := flTo s.dur s.pend s.pend.length, pend := [] } := by
    unfold DSt.fl; rw [if_neg (by rw [h.on]; simp), if_neg (by rw [h.pf]; simp)]
  have hpw := pw_calm h.pf
  have hlf := pfLf_range (ar := s.ar) h.ok.l0 h.ok.l1
  rw [e]
  refine ⟨hs.symm, rfl, ⟨⟨h.ok.n0, h.ok.n1, ?_, h.ok.cur, by simp, hlf.1, hlf.2⟩, h.n, by show s.pw.on = true; rw [hpw.1, h.on], by show s.pw.ar = false; rw [hpw.2, h.ar], by simp⟩, rfl⟩
  exact flTo_len _ _ _ h.ok.dur h.ok.pend _
/-- One sector. -/
def sec (D : List Int) (i : Nat) : List Int := (D.drop (i * 64)).take 64
theorem Calm.rd {N i : Nat} {s : DSt} (h : Calm N i s) (k : Nat) (hk : k < N) : s.rd k = sec s.cur k ∧ s.rdErr k = 0 := by
  have hd : dchk s.on k s.n = 0 := by unfold dchk; rw [h.on, if_pos rfl, if_neg (by have := h.n; omega)]
  unfold DSt.rd DSt.rdErr sec
  rw [if_pos hd]
  exact ⟨by rfl, hd⟩
theorem sec_len (D : List Int) (N k : Nat) (hD : D.length = N * 64) (hk : k < N) : (sec D k).length = 64 := by
  unfold sec; rw [List.length_take, List.length_drop]; omega
theorem Calm.new (N : Nat) (h1 : 1 ≤ N) (h2 : N ≤ 8192) : Calm N 0 (DSt.new N) ∧ Same (DSt.new N) := by
  refine ⟨⟨new_ok N h1 h2, rfl, rfl, rfl, by simp [DSt.new]⟩, ?_⟩
  simp [Same, DSt.new, flTo]
/-- What was written since: the marks. -/
structure Marked (cu : List Int) (ws : List Bool) (s : DSt) : Prop where
  dur : s.dur = cu
  len : ws.length = 4
  apart : ∀ k, k < 4 → ws[k]? = some false → ∀ p ∈ s.pend, p.1 ≠ k
theorem Marked.start {cu : List Int} {s : DSt} (h : s.dur = cu) (hp : s.pend = []) : Marked cu [false, false, false, false] s := ⟨h, rfl, by simp [hp]⟩
theorem Marked.no {i : Nat} {cu : List Int} {ws : List Bool} {s : DSt} (h : Marked cu ws s) (hc : Calm 4 i s) (at_ : Int) (b : List Int) (he : s.wrErr at_ b.length ≠ 0) : Marked cu ws (s.wr at_ b) := by
  rcases hc.cases at_ b with ⟨e, _⟩ | ⟨k, _, hk, hb, e, e2⟩
  · rw [e]; exact h
  · exact absurd e2 he
theorem Marked.yes {i : Nat} {cu : List Int} {ws : List Bool} {s : DSt} (h : Marked cu ws s) (hc : Calm 4 i s) (at_ : Int) (b : List Int) (he : s.wrErr at_ b.length = 0) : ∃ k : Nat, at_ = k ∧ k < 4 ∧ Marked cu (ws.set k true) (s.wr at_ b) := by
  rcases hc.cases at_ b with ⟨_, e2⟩ | ⟨k, ek, hk, hb, e, e2⟩
  · exact absurd he e2
  · refine ⟨k, ek, hk, ?_⟩
    rw [e]
    refine ⟨h.dur, by rw [List.length_set]; exact h.len, fun j hj hw p hp => ?_⟩
    have hjk : j ≠ k := by
      rintro rfl
      rw [List.getElem?_set_self (by rw [h.len]; exact hj)] at hw
      cases hw
    rw [List.getElem?_set_ne (Ne.symm hjk)] at hw
    simp only [DSt.wrote, List.mem_append, List.mem_singleton] at hp
    rcases hp with hp | rfl
    · exact h.apart j hj hw p hp
    · exact Ne.symm hjk
theorem crTo_far (keep torn last : Int) (D : List Int) (l : List (Nat × List Int)) (n : Nat) (hD : D.length = n * 64) (h : ∀ p ∈ l, p.1 < n ∧ p.2.length = 64) (i : Nat) (hi : ∀ p ∈ l, p.1 ≠ i) (k : Nat) (hk : k ≤ l.length) : sec (crTo keep torn last D l k) i = sec D i := by
  induction k with
  | zero => rfl
  | succ k ih =>
    simp only [crTo]
    have ih := ih (by omega)
    split
    · have hm := List.getElem_mem (show k < l.length by omega)
      have hp := h _ hm
      have hne := hi _ hm
      have hs := crSz_le last torn k
      have hl := crTo_len keep torn last D l n hD h k (by omega)
      rw [List.getD_eq_getElem?_getD, List.getElem?_eq_getElem (by omega), Option.getD_some]
      rw [← ih]
      have h2 : (l[k].2.take (crSz last torn k)).length ≤ 64 := by rw [List.length_take]; omega
      exact splice_far _ _ _ (by rw [hl]; omega) (i * 64) 64 (by
        rcases Nat.lt_or_gt_of_ne hne with hlt | hgt
        · right; omega
        · left; omega)
    · exact ih
/-- After the crash, on again. -/
theorem Calm.cr {N i : Nat} {s : DSt} (h : Calm N i s) (keep torn : Int) (x : DSt) (hx : x = { s.cr keep torn with on := true, ar := false }) : Calm N 0 x ∧ x.pend = [] ∧ x.cur = crTo keep torn (crLast keep s.pend.length) s.dur s.pend s.pend.length := by
  subst hx
  have hl := crTo_len keep torn (crLast keep s.pend.length) s.dur s.pend s.n h.ok.dur h.ok.pend s.pend.length (Nat.le_refl _)
  exact ⟨⟨⟨h.ok.n0, h.ok.n1, hl, hl, by simp [DSt.cr], h.ok.l0, h.ok.l1⟩, h.n, rfl, rfl, by simp [DSt.cr]⟩, rfl, rfl⟩
theorem Marked.survive {i : Nat} {cu : List Int} {ws : List Bool} {s : DSt} (h : Marked cu ws s) (hc : Calm 4 i s) (keep torn : Int) (x : DSt) (hx : x = { s.cr keep torn with on := true, ar := false }) (k : Nat) (hk : k < 4) (hw : ws[k]? = some false) : sec x.cur k = sec cu k := by
  rw [(hc.cr keep torn x hx).2.2, crTo_far keep torn _ s.dur s.pend s.n hc.ok.dur hc.ok.pend k (h.apart k hk hw) _ (Nat.le_refl _), h.dur]
/-- A crash that keeps nothing restores; one that keeps all loses nothing. -/
theorem srv_none (i : Nat) : srvB 0 i = false := by
  unfold srvB; rw [Int.zero_ediv]; rfl
theorem srv_all (i : Nat) : srvB 18446744073709551615 i = true := by
  have key : ∀ j, j < 64 → bits .and .u64 (18446744073709551615 / 2 ^ j) 1 = 1 := by decide +kernel
  unfold srvB
  rw [key (min i 63) (by omega)]; rfl
theorem crTo_none (torn last : Int) (D : List Int) (l : List (Nat × List Int)) (k : Nat) : crTo 0 torn last D l k = D := by
  induction k with
  | zero => rfl
  | succ k ih => simp only [crTo]; rw [srv_none]; exact ih
theorem crTo_all (last : Int) (D : List Int) (l : List (Nat × List Int)) (h : ∀ p ∈ l, p.2.length = 64) (k : Nat) (hk : k ≤ l.length) : crTo 18446744073709551615 (-1) last D l k = flTo D l k := by
  induction k with
  | zero => rfl
  | succ k ih =>
    simp only [crTo]
    rw [srv_all, if_pos rfl, ih (by omega), flTo_succ _ _ _ (by omega), List.getD_eq_getElem?_getD, List.getElem?_eq_getElem (by omega), Option.getD_some]
    have hm := h _ (List.getElem_mem (show k < l.length by omega))
    have e : crSz last (-1) k = 64 := by unfold crSz; rw [if_neg (by omega)]
    rw [e, ← hm, List.take_length]
end Go.Proofs.Ytfnkbmjpiiabkaa
