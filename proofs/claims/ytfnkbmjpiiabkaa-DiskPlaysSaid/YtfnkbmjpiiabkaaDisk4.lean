/- The disk: New, Read. -/
import Derived.Test.YtfnkbmjpiiabkaaDisk3
set_option linter.unusedVariables false
set_option linter.unusedSimpArgs false
namespace Go.Proofs.Ytfnkbmjpiiabkaa
open Go.RowKit
def DSt.rdErr (s : DSt) (at_ : Int) : Int := dchk s.on at_ s.n
def DSt.rd (s : DSt) (at_ : Int) : List Int := if dchk s.on at_ s.n = 0 then (s.cur.drop (at_.toNat * 64)).take 64 else []
/-- What Read hands back. -/
def ReadPost (W : World) (l : List Int) (er : Int) (e : Ending) (W' : World) : Prop :=
  ∃ v, e = .returned (.tuple #[v, .int .i64 er]) ∧ W'.ownsRow W.heap.size 5 1 v l.length (bcells l) ∧ Below W.heap.size W W'
theorem info_b3 : (Try.prog.info? 5).map (fun i => (i.zero, i.size, i.bytes)) = some (some (.int .u8 0), 1, 1) := by kernel_rfl
set_option maxHeartbeats 400000 in
theorem read_calls (W : World) (S : Nat → Prop) (g bd bc : Nat) (vp : Value) (s : DSt) (h : DiskAt W S g bd bc vp s) (at_ : Int) :
    Calls Try.prog 11 #[.pointer (some ⟨g, 0, none⟩), .int .i64 at_] W (ReadPost W (s.rd at_) (s.rdErr at_)) := by
  unfold DSt.rd DSt.rdErr
  by_cases h0 : dchk s.on at_ s.n = 0
  · rw [if_pos h0, h0]
    obtain ⟨hon, ha0, ha1⟩ := dchk_zero h0
    obtain ⟨i, rfl⟩ := Int.eq_ofNat_of_zero_le ha0
    have hck := check_calls (i : Int) s.n h.blk h.ok.n1
    rw [h0] at hck
    have hn := h.ok.n1
    have hcl := h.ok.cur
    have hin : i < s.n := by omega
    have e1 : (s.cur.drop (i * 64)).length = s.n * 64 - i * 64 := by rw [List.length_drop, hcl]
    have hlen : ((s.cur.drop (i * 64)).take 64).length = 64 := by rw [List.length_take, e1]; omega
    have hsrc : Src W (.slice (some ⟨bc, i * 64, none⟩) 64 (s.n * 64 - i * 64)) 64 (bcells ((s.cur.drop (i * 64)).take 64)) := Src.of_blk h.cur _ (by simp [bcells, List.map_take, List.map_drop])
    have hl : (bcells ((s.cur.drop (i * 64)).take 64)).length = 64 * 1 := by rw [bcells_len, hlen]
    have c1 := h.blk.c1
    have HL := Lib.hid hl
    have fin : ∀ (v : Value) (W' : World), W'.ownsRow W.heap.size 5 1 v (0 + 64) ([] ++ bcells ((s.cur.drop (i * 64)).take 64)) → W.grownBy W' (Value.slice none 0 0).ownBlock → ReadPost W ((s.cur.drop (i * 64)).take 64) 0 (.returned (.tuple #[v, .int .i64 0])) W' := fun v W' ho hg =>
      ⟨v, rfl, by rw [hlen]; simpa using ho, (Below.refl _ _).grown hg (Nat.le_refl _) (fun k hk => by cases hk)⟩
    have FIN := Lib.hid fin
    clear hon ha0 h0 e1 hlen hl hcl fin
    refine calls_hide fun P HPost => ?_
    go_enter Try.func11, Try.ntmps11
    go_wp2_with (first
      | (go_at_call 25; refine hck.mono ?_; rintro e w' ⟨rfl, rfl⟩)
      | (go_at_call 26; refine (sector_calls bc (s.n * 64) i (by omega) (by omega) _).mono ?_; rintro e w' ⟨rfl, rfl⟩)
      | (refine wpList_of_wp rfl ?_; refine wp_append W.heap.size _ _ 27 (by rfl) 5 _ 1 1 Try.underlying27 info_b3 rfl (by decide) _ 0 [] (by rfl) (World.ownsRow_nil _ _ _ _) 64 _ _ (by rfl) hsrc HL.out (bcells_one _) (by unfold maxLen; omega) (by omega) (Nat.le_refl _) ?_; intro v5 W5 how5 hgr5 hat5))
    exact HPost.out _ _ (FIN.out v5 W5 how5 hgr5)
  · rw [if_neg h0]
    have hck := check_calls at_ s.n h.blk h.ok.n1
    have hx : (dchk s.on at_ s.n != 0) = true := by simpa using h0
    generalize dchk s.on at_ s.n = x at *
    clear h0
    have fin : ReadPost W [] x (.returned (.tuple #[.slice none 0 0, .int .i64 x])) W := ⟨_, rfl, World.ownsRow_nil _ _ _ _, Below.refl _ _⟩
    refine calls_hide fun P HPost => ?_
    go_enter Try.func11, Try.ntmps11
    go_wp2_with (go_at_call 25; refine hck.mono ?_; rintro e w' ⟨rfl, rfl⟩)
    exact HPost.out _ _ fin
/-- A new disk. -/
def DSt.new (n : Nat) : DSt := { n := n, dur := List.replicate (n * 64) 0, cur := List.replicate (n * 64) 0, pend := [], on := true, ar := false, lf := 0 }
def NewPost (W : World) (n : Int) (e : Ending) (W' : World) : Prop :=
  Below W.heap.size W W' ∧
  ((n < 1 ∨ 8192 < n) ∧ e = .returned (.tuple #[.pointer none, .int .i64 1]) ∨
   (1 ≤ n ∧ n ≤ 8192) ∧ ∃ g bd bc S, e = .returned (.tuple #[.pointer (some ⟨g, 0, none⟩), .int .i64 0]) ∧ DiskAt W' S g bd bc (.slice none 0 0) (DSt.new n.toNat) ∧ ∀ k, S k → W.heap.size ≤ k ∧ k < W'.heap.size)
theorem madeB (n : Nat) : madeCells #[Value.int .u8 0] n = (bcells (List.replicate n 0)).toArray := by
  apply Array.ext'
  apply List.ext_getElem
  · simp [madeCells, bcells]
  · intro i h1 h2
    simp [madeCells, bcells, Nat.mod_one]
set_option maxHeartbeats 400000 in
theorem new_calls (W : World) (n : Int) : Calls Try.prog 9 #[.int .i64 n] W (NewPost W n) := by
  by_cases h1 : n < 1
  · have fin : NewPost W n (.returned (.tuple #[.pointer none, .int .i64 1])) W := ⟨Below.refl _ _, .inl ⟨.inl h1, rfl⟩⟩
    refine calls_hide fun P HPost => ?_
    go_enter Try.func9, Try.ntmps9
    go_wp2
    exact HPost.out _ _ fin
  · by_cases h2 : 8192 < n
    · have fin : NewPost W n (.returned (.tuple #[.pointer none, .int .i64 1])) W := ⟨Below.refl _ _, .inl ⟨.inr h2, rfl⟩⟩
      refine calls_hide fun P HPost => ?_
      go_enter Try.func9, Try.ntmps9
      go_wp2
      exact HPost.out _ _ fin
    · obtain ⟨m, rfl⟩ : ∃ m : Nat, n = m := ⟨n.toNat, by omega⟩
      have hmk : ∀ W : World, (Instr.makeSlice 27 (.int .i64 ((m : Int) * 64)) (.int .i64 ((m : Int) * 64))).run Try.prog W = .ok (.slice (some ⟨W.heap.size, 0, none⟩) (m * 64) (m * 64)) (W.alloc (.cells (madeCells #[.int .u8 0] (m * 64)) 5)) := by
        intro W
        have := run_make_row' (P := Try.prog) 27 5 (.int .u8 0) 1 Try.underlying27 (by kernel_rfl) rfl .i64 .i64 (m * 64) (by omega) (by omega) W
        simpa using this
      have fin : ∀ bd bc : Nat, (bd = W.heap.size ∧ bc = W.heap.size + 1 ∨ bd = W.heap.size + 1 ∧ bc = W.heap.size) → NewPost W m (.returned (.tuple #[.pointer (some ⟨W.heap.size + 1 + 1, 0, none⟩), .int .i64 0]))
          (((W.alloc (.cells (madeCells #[.int .u8 0] (m * 64)) 5)).alloc (.cells (madeCells #[.int .u8 0] (m * 64)) 5)).alloc (.cells #[.slice (some ⟨bd, 0, none⟩) (m * 64) (m * 64), .slice (some ⟨bc, 0, none⟩) (m * 64) (m * 64), .slice none 0 0, .bool true, .bool false, .int .i64 0] 55)).drew := by
        intro bd bc hbb
        have x0 : ∀ o1 o2 o3, (((W.alloc o1).alloc o2).alloc o3).drew.heap[W.heap.size]? = some o1 := fun o1 o2 o3 =>
          (Below.heap_alloc ((W.alloc o1).alloc o2) o3 _ (by simp; omega)).trans ((Below.heap_alloc (W.alloc o1) o2 _ (by simp)).trans (heap_alloc_new W o1))
        have x1 : ∀ o1 o2 o3, (((W.alloc o1).alloc o2).alloc o3).drew.heap[W.heap.size + 1]? = some o2 := fun o1 o2 o3 =>
          (Below.heap_alloc ((W.alloc o1).alloc o2) o3 _ (by simp)).trans (heap_alloc2_new W o1 o2)
        have x2 : ∀ o1 o2 o3, (((W.alloc o1).alloc o2).alloc o3).drew.heap[W.heap.size + 1 + 1]? = some o3 := fun o1 o2 o3 => by
          have h := heap_alloc_new ((W.alloc o1).alloc o2) o3
          rwa [show ((W.alloc o1).alloc o2).heap.size = W.heap.size + 1 + 1 from by simp] at h
        have hl : (DSt.new m).dur.length = m * 64 := by simp [DSt.new]
        refine ⟨((((Below.refl _ _).alloc (Nat.le_refl _) _).alloc (by simp) _).alloc (by simp; omega) _).drew, .inr ⟨⟨by omega, by omega⟩, W.heap.size + 1 + 1, bd, bc, fun k => W.heap.size ≤ k ∧ k < W.heap.size + 3, rfl, ?_, fun k hk => ⟨hk.1, by simp [World.drew]; omega⟩⟩⟩
        refine ⟨⟨by simp [DSt.new]; omega, by simp [DSt.new]; omega, hl, hl, by simp [DSt.new], by simp [DSt.new], by simp [DSt.new]⟩, x2 _ _ _, ?_, ?_, World.ownsRow_nil _ _ _ _, by omega, by omega, by omega, by omega, by simp [Value.ownBlock]⟩
        · rw [madeB]; rcases hbb with ⟨rfl, _⟩ | ⟨rfl, _⟩
          · exact x0 _ _ _
          · exact x1 _ _ _
        · rw [madeB]; rcases hbb with ⟨_, rfl⟩ | ⟨_, rfl⟩
          · exact x1 _ _ _
          · exact x0 _ _ _
      have FIN := Lib.hid fin
      clear fin
      refine calls_hide fun P HPost => ?_
      go_enter Try.func9, Try.ntmps9
      go_wp2
      go_region
      all_goals go_wp2
      · exact HPost.out _ _ (FIN.out _ _ (.inl ⟨rfl, rfl⟩))
      · exact HPost.out _ _ (FIN.out _ _ (.inr ⟨rfl, rfl⟩))
end Go.Proofs.Ytfnkbmjpiiabkaa
