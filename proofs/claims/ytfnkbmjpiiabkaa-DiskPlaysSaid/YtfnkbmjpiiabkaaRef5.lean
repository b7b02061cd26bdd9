/- The reference disk: Read. -/
import Derived.Test.YtfnkbmjpiiabkaaRef4
set_option linter.unusedVariables false
set_option linter.unusedSimpArgs false
namespace Go.Proofs.Ytfnkbmjpiiabkaa
open Go.RowKit
attribute [local go_sem ↓] Go.wp_at_zero Go.wp_at_succ
set_option maxRecDepth 8000 in
set_option maxHeartbeats 1000000 in
theorem rf_read (W : World) (S : Nat → Prop) (m : Nat) (s : DSt) (h : Rf W S m s) (hsm : Same s) (hpl : s.pend.length < 1000000) (at_ : Int) :
    Calls Try.prog 34 #[.pointer (some ⟨m, 0, none⟩), .int .i64 at_] W (ReadPost W (s.rd at_) (s.rdErr at_)) := by
  obtain ⟨⟨vd, vp, h⟩, hSl⟩ := h
  have c2 := h.blk.c2
  have c0 := h.blk.c0
  obtain ⟨A, c, hvd⟩ := own_any h.dur
  rw [hvd] at c0
  have hn1 := h.ok.n1
  unfold DSt.rd DSt.rdErr
  by_cases hon : s.on = false
  · have hd : dchk s.on at_ s.n = 10 := by unfold dchk; rw [hon]; rfl
    rw [hd, if_neg (by decide)]
    rw [hon] at c2
    have fin : ReadPost W [] 10 (.returned (.tuple #[.slice none 0 0, .int .i64 10])) W := ⟨_, rfl, World.ownsRow_nil _ _ _ _, Below.refl _ _⟩
    clear hon hd hvd
    refine calls_hide fun P HPost => ?_
    go_enter Try.func34, Try.ntmps34
    go_wp2
    exact HPost.out _ _ fin
  · have hon' : s.on = true := by simpa using hon
    rw [hon'] at c2
    by_cases h0 : at_ < 0
    · have hd : dchk s.on at_ s.n = 6 := by unfold dchk; rw [hon', if_pos rfl, if_pos (.inl h0)]
      rw [hd, if_neg (by decide)]
      have fin : ReadPost W [] 6 (.returned (.tuple #[.slice none 0 0, .int .i64 6])) W := ⟨_, rfl, World.ownsRow_nil _ _ _ _, Below.refl _ _⟩
      have d0 : decide (at_ < 0) = true := by simpa using h0
      clear hon hon' hd hvd h0
      refine calls_hide fun P HPost => ?_
      go_enter Try.func34, Try.ntmps34
      go_wp2
      exact HPost.out _ _ fin
    · have d0 : decide (at_ < 0) = false := by simpa using h0
      by_cases h1 : (s.n : Int) ≤ at_
      · have hd : dchk s.on at_ s.n = 6 := by unfold dchk; rw [hon', if_pos rfl, if_pos (.inr h1)]
        rw [hd, if_neg (by decide)]
        have fin : ReadPost W [] 6 (.returned (.tuple #[.slice none 0 0, .int .i64 6])) W := ⟨_, rfl, World.ownsRow_nil _ _ _ _, Below.refl _ _⟩
        have d1 : decide ((s.n : Int) ≤ at_) = true := by simpa using h1
        clear hon hon' hd hvd h0 h1
        refine calls_hide fun P HPost => ?_
        go_enter Try.func34, Try.ntmps34
        go_wp2
        exact HPost.out _ _ fin
      · have hd : dchk s.on at_ s.n = 0 := by unfold dchk; rw [hon', if_pos rfl, if_neg (by omega)]
        rw [hd, if_pos rfl]
        obtain ⟨i, rfl⟩ := Int.eq_ofNat_of_zero_le (show 0 ≤ at_ by omega)
        have hin : i < s.n := by omega
        have hsec := sectors_calls W S m vd vp s hSl h hpl
        rw [show flTo s.dur s.pend s.pend.length = s.cur from hsm.symm] at hsec
        have hcl := h.ok.cur
        have e1 : (s.cur.drop (i * 64)).length = s.n * 64 - i * 64 := by rw [List.length_drop, hcl]
        have hlen : ((s.cur.drop (i * 64)).take 64).length = 64 := by rw [List.length_take, e1]; omega
        rw [show ((i : Nat) : Int).toNat = i from rfl]
        obtain ⟨L, hL⟩ : ∃ L, (s.cur.drop (i * 64)).take 64 = L := ⟨_, rfl⟩
        have hbL : ((bcells s.cur).drop (i * 64)).take (bcells L).length = bcells L := by rw [bcells_len, ← hL, hlen, bcells, bcells, List.map_take, List.map_drop]
        rw [hL] at hlen ⊢
        have HLEN := Lib.hid hlen
        have HBL := Lib.hid hbL
        clear hon hon' hd hvd h0 h1 d0 hcl e1 hL hlen hbL
        refine calls_hide fun P HPost => ?_
        go_enter Try.func34, Try.ntmps34
        go_wp2_with fail
        (with_reducible refine hsec.mono ?_)
        rintro e W1 ⟨v, rfl, how, hB1⟩
        obtain ⟨q, cap, rfl, hq1, hq2, hq3, hq4⟩ := own_form' how (by omega)
        have hrg := own_range how (i * 64) (bcells L) HBL.out
        have hi64 : (Try.prog.info? 67).map (·.size) = some (bcells L).length := by rw [bcells_len, HLEN.out]; exact size_S
        have HRG := Lib.hid hrg
        have HI := Lib.hid hi64
        clear hsec how hrg hi64 hsm
        go_wp2_with (first
          | (refine wpList_value (by rfl) (run_load_row 67 _ (by rfl) q (i * 64) (by rfl) (bcells L) _ HRG.out Try.underlying67 rfl HI.out) ?_)
          | (refine wpList_value (by rfl) (run_alloc_blk 67 (by rfl) _ zero_S) ?_)
          | (refine wpList_store_blk (by rfl) 67 _ _ (by rfl) W1.heap.size (bcells L).toArray (by rfl) (by rfl) 67 (bcells zeros64).toArray (heap_alloc_new W1 _) (by rw [List.size_toArray]; exact HI.out) (by rw [List.size_toArray, List.size_toArray, bcells_len, bcells_len, HLEN.out]; rfl) (all_oneCell_toArray (bcells_one _)) ?_; intro W2 hb2 he2
             have hs2 := ((Src.of_blk (m := 64) (c := 64) hb2.out (bcells L) (by rw [List.drop_zero, List.toList_toArray, List.take_length])).fresh (below_new W2 (.cells #[] 5))).drew)
          | (refine wpList_of_wp rfl ?_; refine wp_append W.heap.size _ _ 27 (by rfl) 5 _ 1 1 Try.underlying27 info_b3 rfl (by decide) _ 0 [] (by rfl) (own_empty W2 W.heap.size 5 1 (by have := hB1.size; have := he2.size; simp at this; omega)) 64 (bcells L) _ (by rfl) hs2 (by rw [bcells_len, HLEN.out]) (bcells_one _) (by unfold maxLen; omega) (by omega) (by have := hB1.size; have := he2.size; simp at this; simp [World.drew]; omega) ?_; intro v5 W5 how5 hgr5 hat5)
          | (refine step_of rfl ?_; refine wp_append W.heap.size _ _ 27 (by rfl) 5 _ 1 1 Try.underlying27 info_b3 rfl (by decide) _ 0 [] (by rfl) (own_empty W2 W.heap.size 5 1 (by have := hB1.size; have := he2.size; simp at this; omega)) 64 (bcells L) _ (by rfl) hs2 (by rw [bcells_len, HLEN.out]) (bcells_one _) (by unfold maxLen; omega) (by omega) (by have := hB1.size; have := he2.size; simp at this; simp [World.drew]; omega) ?_; intro v5 W5 how5 hgr5 hat5))
        have z1 := hB1.size
        have z2 := he2.size
        simp only [World.size_alloc] at z2
        have B2 : Below W.heap.size W W2 := below_ext (hB1.alloc z1 _) (by simp only [World.size_alloc]; omega) he2 (fun k e => by omega)
        have B3 : Below W.heap.size W W5 := (B2.alloc (by omega) _).grown hgr5 (by simp only [World.size_alloc]; omega) (fun k hk => by
          have e : W2.heap.size = k := by simpa [Value.ownBlock] using hk
          omega)
        exact HPost.out _ _ ⟨v5, rfl, by rw [HLEN.out]; simpa using how5, B3⟩
end Go.Proofs.Ytfnkbmjpiiabkaa
