/- The disk's methods as a client sees them. -/
import Derived.Test.YtfnkbmjpiiabkaaDisk6
set_option linter.unusedVariables false
set_option linter.unusedSimpArgs false
namespace Go.Proofs.Ytfnkbmjpiiabkaa
open Go.RowKit
/-- Block g holds a disk in state s; its blocks are those of S. -/
def Dk (W : World) (S : Nat → Prop) (g : Nat) (s : DSt) : Prop := (∃ bd bc vp, DiskAt W S g bd bc vp s) ∧ ∀ k, S k → k < W.heap.size
/-- What a call on the disk leaves. -/
def DkPost (W : World) (S : Nat → Prop) (g : Nat) (s' : DSt) (W' : World) : Prop := ∃ S', Dk W' S' g s' ∧ (∀ k, S' k → S k ∨ W.heap.size ≤ k) ∧ Ext S W W'
section
variable {W W' : World} {S T : Nat → Prop} {g : Nat} {s : DSt}
theorem Dk.ok (h : Dk W S g s) : s.Ok := by obtain ⟨⟨_, _, _, h⟩, _⟩ := h; exact h.ok
theorem Dk.sg (h : Dk W S g s) : S g := by obtain ⟨⟨_, _, _, h⟩, _⟩ := h; exact h.sg
theorem Dk.lt (h : Dk W S g s) : ∀ k, S k → k < W.heap.size := h.2
theorem Dk.ext (h : Dk W S g s) (he : Ext T W W') (ht : ∀ k, S k → ¬ T k) : Dk W' S g s := by
  obtain ⟨⟨bd, bc, vp, h⟩, hs⟩ := h
  exact ⟨⟨bd, bc, vp, h.ext he (fun k _ => ht k)⟩, fun k hk => Nat.lt_of_lt_of_le (hs k hk) he.size⟩
theorem Dk.below (h : Dk W S g s) (he : Below W.heap.size W W') : Dk W' S g s := h.ext (Ext.of_fresh (S := fun _ => False) he) (fun _ _ h => h)
theorem Dk.drew (h : Dk W S g s) : Dk W.drew S g s := by
  obtain ⟨⟨bd, bc, vp, h⟩, hs⟩ := h
  exact ⟨⟨bd, bc, vp, h.drew⟩, hs⟩
theorem DkPost.of {bd bc : Nat} {s' : DSt} (h : DiskPost W S g bd bc s' W') : DkPost W S g s' W' := by
  obtain ⟨vp, S', h1, h2, h3⟩ := h
  exact ⟨S', ⟨⟨_, _, _, h1⟩, fun k hk => (h2 k hk).1⟩, fun k hk => (h2 k hk).2, h3⟩
theorem DkPost.of_blk {bd bc : Nat} {vp : Value} {on ar : Bool} {lf : Int} (hd : DiskAt W S g bd bc vp s) (hS : ∀ k, S k → k < W.heap.size) (hb : DBlk W' g bd bc (s.n * 64) vp on ar lf) (he : Ext (· = g) W W') (h0 : 0 ≤ lf) (h1 : lf ≤ 9223372036854775807) : DkPost W S g { s with on := on, ar := ar, lf := lf } W' :=
  ⟨S, ⟨⟨_, _, _, hd.blkStep he hb h0 h1⟩, fun k hk => Nat.lt_of_lt_of_le (hS k hk) he.size⟩, fun k hk => .inl hk, he.mono (fun k _ e => e ▸ hd.sg)⟩

theorem dk_size (h : Dk W S g s) : Calls Try.prog 10 #[.pointer (some ⟨g, 0, none⟩)] W fun e W' => e = .returned (.int .i64 s.n) ∧ W = W' := by
  obtain ⟨⟨bd, bc, vp, h⟩, hs⟩ := h
  have := size_calls h.blk (by have := h.ok.n1; omega)
  rwa [Nat.mul_div_cancel _ (by decide)] at this
theorem dk_online (h : Dk W S g s) : Calls Try.prog 24 #[.pointer (some ⟨g, 0, none⟩)] W fun e W' => e = .returned (.bool s.on) ∧ W = W' := by
  obtain ⟨⟨bd, bc, vp, h⟩, hs⟩ := h
  exact online_calls h.blk
theorem dk_form {bd bc : Nat} {vp : Value} (h : DiskAt W S g bd bc vp s) : ∃ A c, vp = .slice A s.pend.length c := by
  rcases h.pend.2 with ⟨hv, h0⟩ | ⟨q, cap, cu, hv, _⟩
  · exact ⟨none, 0, by rw [h0]; exact hv⟩
  · exact ⟨_, cap, hv⟩
theorem dk_pending (h : Dk W S g s) : Calls Try.prog 19 #[.pointer (some ⟨g, 0, none⟩)] W fun e W' => e = .returned (.int .i64 s.pend.length) ∧ W = W' := by
  obtain ⟨⟨bd, bc, vp, h⟩, hs⟩ := h
  obtain ⟨A, c, rfl⟩ := dk_form h
  exact pending_calls h.blk
theorem dk_powerOn (h : Dk W S g s) : Calls Try.prog 18 #[.pointer (some ⟨g, 0, none⟩)] W fun e W' => e = .returned (.tuple #[]) ∧ DkPost W S g { s with on := true, ar := false } W' := by
  obtain ⟨⟨bd, bc, vp, h⟩, hs⟩ := h
  exact (powerOn_calls h.blk).mono fun e W' ⟨h1, h2, h3⟩ => ⟨h1, DkPost.of_blk h hs h2 h3 h.ok.l0 h.ok.l1⟩
theorem dk_failAfter (h : Dk W S g s) (n : Int) (hn : n ≤ 9223372036854775807) : Calls Try.prog 23 #[.pointer (some ⟨g, 0, none⟩), .int .i64 n] W fun e W' => e = .returned (.tuple #[]) ∧ DkPost W S g { s with ar := decide (0 ≤ n), lf := max n 0 } W' := by
  obtain ⟨⟨bd, bc, vp, h⟩, hs⟩ := h
  exact (failAfter_calls n hn h.blk).mono fun e W' ⟨h1, h2, h3⟩ => ⟨h1, DkPost.of_blk h hs h2 h3 (by omega) (by omega)⟩
theorem dk_write (h : Dk W S g s) (at_ : Int) (x : Value) (n : Nat) (b : List Int) (hb : Src W x n (bcells b)) (hbn : b.length = n) (hbS : 0 < b.length → ∀ k, x.ownBlock = some k → ¬ S k) (hn : n ≤ 1000000) (hpl : s.pend.length < 1000000) :
    Calls Try.prog 14 #[.pointer (some ⟨g, 0, none⟩), .int .i64 at_, x] W fun e W' => e = .returned (.int .i64 (s.wrErr at_ n)) ∧ DkPost W S g (s.wr at_ b) W' := by
  obtain ⟨⟨bd, bc, vp, h⟩, hs⟩ := h
  obtain ⟨A, c, rfl, hr⟩ := id hb
  exact (write_calls W S g bd bc vp s hs h at_ A n c b hb hbn hbS hn hpl).mono fun e W' ⟨h1, h2⟩ => ⟨h1, DkPost.of h2⟩
theorem dk_flush (h : Dk W S g s) (hpl : s.pend.length < 1000000) : Calls Try.prog 16 #[.pointer (some ⟨g, 0, none⟩)] W fun e W' => e = .returned (.int .i64 s.flErr) ∧ DkPost W S g s.fl W' := by
  obtain ⟨⟨bd, bc, vp, h⟩, hs⟩ := h
  exact (flush_calls W S g bd bc vp s hs h hpl).mono fun e W' ⟨h1, h2⟩ => ⟨h1, DkPost.of h2⟩
theorem dk_crash (h : Dk W S g s) (keep torn : Int) (hk0 : 0 ≤ keep) (hk1 : keep ≤ 18446744073709551615) (ht0 : -9223372036854775808 ≤ torn) (ht1 : torn ≤ 9223372036854775807) (hpl : s.pend.length < 1000000) :
    Calls Try.prog 17 #[.pointer (some ⟨g, 0, none⟩), .int .u64 keep, .int .i64 torn] W fun e W' => e = .returned (.tuple #[]) ∧ DkPost W S g (s.cr keep torn) W' := by
  obtain ⟨⟨bd, bc, vp, h⟩, hs⟩ := h
  obtain ⟨A, c, rfl⟩ := dk_form h
  exact (crash_calls W S g bd bc _ c A s keep torn hk0 hk1 ht0 ht1 hs h rfl hpl).mono fun e W' ⟨h1, h2⟩ => ⟨h1, DkPost.of h2⟩
theorem dk_read (h : Dk W S g s) (at_ : Int) : Calls Try.prog 11 #[.pointer (some ⟨g, 0, none⟩), .int .i64 at_] W (ReadPost W (s.rd at_) (s.rdErr at_)) := by
  obtain ⟨⟨bd, bc, vp, h⟩, hs⟩ := h
  exact read_calls W S g bd bc vp s h at_
/-- Write of a literal that has just been laid. -/
theorem dk_write_new (h : Dk W S g s) (at_ : Int) (b : List Int) (n : Nat) (fr : Nat × Nat) (C : Array Value) (hC : (bcells b).toArray = C) (hbn : b.length = n) (er : Int) (her : s.wrErr at_ n = er) (hn : n ≤ 1000000) (hpl : s.pend.length < 1000000) :
    Calls Try.prog 14 #[.pointer (some ⟨g, 0, none⟩), .int .i64 at_, .slice (some ⟨W.heap.size, 0, none⟩) n n] (W.alloc (.cells C 5 fr)) fun e W' => e = .returned (.int .i64 er) ∧ DkPost W S g (s.wr at_ b) W' := by
  subst hC her
  have hb := below_new W (.cells (bcells b).toArray 5 fr)
  refine (dk_write (h.below hb) at_ _ n b (Src.of_blk (heap_alloc_new W _) _ (by simp)) hbn (fun _ k hk => ?_) hn hpl).mono ?_
  · have e : W.heap.size = k := by simpa [Value.ownBlock] using hk
    subst e
    exact fun hk => Nat.lt_irrefl _ (h.lt _ hk)
  · rintro e W' ⟨h1, S', h2, h3, h4⟩
    have hsz := hb.size
    refine ⟨h1, S', h2, fun k hk => (h3 k hk).imp id (fun h => Nat.le_trans hsz h), (Ext.of_fresh (S := S) hb).trans h4 (fun _ _ h => h)⟩
end
/-- New, at a size that is let in. -/
theorem dk_new (W : World) (x : Int) (n : Nat) (hx : x = n) (h1 : 1 ≤ n) (h2 : n ≤ 8192) : Calls Try.prog 9 #[.int .i64 x] W fun e W' => ∃ g S, e = .returned (.tuple #[.pointer (some ⟨g, 0, none⟩), .int .i64 0]) ∧ Dk W' S g (DSt.new n) ∧ (∀ k, S k → W.heap.size ≤ k) ∧ Below W.heap.size W W' := by
  subst hx
  refine (new_calls W n).mono fun e W' h => ?_
  obtain ⟨hb, h | ⟨_, g, bd, bc, S, he, hd, hS⟩⟩ := h
  · omega
  · exact ⟨g, S, he, ⟨⟨_, _, _, hd⟩, fun k hk => (hS k hk).2⟩, fun k hk => (hS k hk).1, hb⟩
theorem dk_new_bad (W : World) (n : Int) (h : n < 1 ∨ 8192 < n) : Calls Try.prog 9 #[.int .i64 n] W fun e W' => e = .returned (.tuple #[.pointer none, .int .i64 1]) ∧ Below W.heap.size W W' := by
  refine (new_calls W n).mono fun e W' h' => ?_
  obtain ⟨hb, ⟨_, he⟩ | ⟨hn, _⟩⟩ := h'
  · exact ⟨he, hb⟩
  · omega

/-! What the states hold. -/
theorem splice_get {α : Type} (L : List α) (off : Nat) (d : List α) (h : off + d.length ≤ L.length) : ((splice L off d).drop off).take d.length = d := by
  unfold splice
  rw [List.drop_append_of_le_length (by rw [List.length_take]; omega), List.drop_eq_nil_of_le (by rw [List.length_take]; omega), List.nil_append, List.take_append_of_le_length (Nat.le_refl _), List.take_length]
theorem splice_far {α : Type} (L : List α) (off : Nat) (d : List α) (h : off + d.length ≤ L.length) (o m : Nat) (hd : o + m ≤ off ∨ off + d.length ≤ o) : ((splice L off d).drop o).take m = (L.drop o).take m := by
  unfold splice
  apply List.ext_getElem?
  intro i
  simp only [List.getElem?_take, List.getElem?_drop]
  by_cases hi : i < m
  · rw [if_pos hi, if_pos hi]
    rcases hd with hd | hd
    · rw [List.getElem?_append_left (by rw [List.length_take]; omega), List.getElem?_take, if_pos (by omega)]
    · rw [List.getElem?_append_right (by rw [List.length_take]; omega), List.length_take, Nat.min_eq_left (by omega), List.getElem?_append_right (by omega), List.getElem?_drop]
      congr 1; omega
  · rw [if_neg hi, if_neg hi]
theorem wr_ok (s : DSt) (at_ : Int) (b : List Int) (hon : s.on = true) (h0 : 0 ≤ at_) (h1 : at_ < s.n) (hb : b.length ≤ 64) (hpf : pfB s.ar s.lf = false) : s.wr at_ b = s.wrote at_.toNat b ∧ s.wrErr at_ b.length = 0 := by
  have hd : dchk s.on at_ s.n = 0 := by unfold dchk; rw [hon, if_pos rfl, if_neg (by omega)]
  unfold DSt.wr DSt.wrErr
  rw [if_neg (by simp [hd]), if_neg (by omega), if_neg (by simp [hpf]), if_neg (by simp [hd]), if_neg (by omega), if_neg (by simp [hpf])]
  exact ⟨rfl, rfl⟩
theorem pw_calm {s : DSt} (h : pfB s.ar s.lf = false) : s.pw.on = s.on ∧ s.pw.ar = s.ar := by
  unfold DSt.pw pfOn pfAr; simp [h]
end Go.Proofs.Ytfnkbmjpiiabkaa
