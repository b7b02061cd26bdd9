/- The sanity check of the laws on the disk. -/
import Derived.Test.YtfnkbmjpiiabkaaDisk7
import Derived.Lib.SlBytesConst
set_option linter.unusedVariables false
set_option linter.unusedSimpArgs false
namespace Go.Proofs.Ytfnkbmjpiiabkaa
open Go.RowKit
def kfirst : List Int := [102, 105, 114, 115, 116]
def kFIRST : List Int := [70, 73, 82, 83, 84]
def k1 : DSt := (DSt.new 2).wr 0 kfirst
def k2 : DSt := k1.fl
def k3 : DSt := k2.wr 0 kFIRST
def k4 : DSt := k3.cr 1 2
def k5 : DSt := { k4 with on := true, ar := false }
theorem k1e : (DSt.new 2).wrErr 0 5 = 0 := by kernel_rfl
theorem k2e : k1.flErr = 0 := by kernel_rfl
theorem k3e : k2.wrErr 0 5 = 0 := by kernel_rfl
theorem k3p : k3.pend.length = 1 := by kernel_rfl
theorem k4o : k4.on = false := by kernel_rfl
theorem k5e : k5.rdErr 0 = 0 := by kernel_rfl
theorem k5p : k5.pend.length = 0 := by kernel_rfl
theorem k5r : k5.rd 0 = [70, 73, 114, 115, 116] ++ List.replicate 59 0 := by kernel_rfl
theorem kp0 : (DSt.new 2).pend.length = 0 := by kernel_rfl
theorem kp1 : k1.pend.length = 1 := by kernel_rfl
theorem kp2 : k2.pend.length = 0 := by kernel_rfl
set_option maxHeartbeats 1000000 in
theorem known_calls (W : World) : Calls Try.prog 12 #[] W fun e W' => e = .returned (.bool true) ∧ Below W.heap.size W W' := by
  have hcv := fun (w : World) (C : Array Value) (n c : Nat) => Lib.run_convert_bytes_const (P := Try.prog) w 27 5 C n c Try.underlying27 Try.underlying5
  refine calls_hide fun P HPost => ?_
  go_enter Try.func12, Try.ntmps12
  go_wp2_with (go_at_call 9; refine (dk_new W 2 2 rfl (by decide) (by decide)).mono ?_; rintro e W1 ⟨g, S, rfl, D1, hS1, hB1⟩)
  go_wp2_with (go_at_call 14; refine (dk_write_new D1 0 kfirst 5 (5, 6) _ rfl rfl 0 k1e (by decide) (by rw [kp0]; decide)).mono ?_; rintro e W2 ⟨rfl, S2, D2, hS2, hE2⟩)
  have HB1 := Lib.hid hB1
  clear hB1
  have hf := dk_flush D2 (by rw [show ((DSt.new 2).wr 0 kfirst).pend.length = 1 from kp1]; decide)
  rw [show ((DSt.new 2).wr 0 kfirst).flErr = 0 from k2e] at hf
  go_wp2_with (go_at_call 16; refine hf.mono ?_; rintro e W3 ⟨rfl, S3, D3, hS3, hE3⟩)
  clear hf
  go_wp2_with (go_at_call 14; refine (dk_write_new D3 0 kFIRST 5 (5, 6) _ rfl rfl 0 k3e (by decide) (by rw [show (((DSt.new 2).wr 0 kfirst).fl).pend.length = 0 from kp2]; decide)).mono ?_; rintro e W4 ⟨rfl, S4, D4, hS4, hE4⟩)
  have hp := dk_pending D4
  rw [show ((((DSt.new 2).wr 0 kfirst).fl).wr 0 kFIRST).pend.length = 1 from k3p] at hp
  have hc := dk_crash D4 1 2 (by decide) (by decide) (by decide) (by decide) (by rw [show ((((DSt.new 2).wr 0 kfirst).fl).wr 0 kFIRST).pend.length = 1 from k3p]; decide)
  go_wp2_with (first
    | (go_at_call 19; refine hp.mono ?_; rintro e w' ⟨rfl, rfl⟩)
    | (go_at_call 17; refine hc.mono ?_; rintro e W5 ⟨rfl, S5, D5, hS5, hE5⟩))
  have ho := dk_online D5
  rw [show (((((DSt.new 2).wr 0 kfirst).fl).wr 0 kFIRST).cr 1 2).on = false from k4o] at ho
  have hpo := dk_powerOn D5
  go_wp2_with (first
    | (go_at_call 24; refine ho.mono ?_; rintro e w' ⟨rfl, rfl⟩)
    | (go_at_call 18; refine hpo.mono ?_; rintro e W6 ⟨rfl, S6, D6, hS6, hE6⟩))
  have D6' : Dk W6 S6 g k5 := D6
  have hr := dk_read D6' 0
  rw [k5r, k5e] at hr
  refine hr.mono ?_
  rintro e W7 ⟨v, rfl, how, hB7⟩
  obtain ⟨q, cap, rfl, hq1, hq2, hq3, hq4⟩ := own_form' how (by decide)
  have hq1' : 64 ≤ cap := hq1
  have hq1'' : (6 : Int) ≤ (cap : Int) := by omega
  have hcv2 := conv_src (P := Try.prog) ((own_src how).take 6 cap) (l := [70, 73, 114, 115, 116, 0]) rfl 27 9 5 Try.underlying27 Try.underlying5 Try.underlying9
  rw [show strOfNums [70, 73, 114, 115, 116, 0] = { data := #[70, 73, 114, 115, 116, 0] } from by kernel_rfl] at hcv2
  have hp6 := dk_pending (D6'.below hB7)
  rw [k5p] at hp6
  have z1 := HB1.out.size
  have z2 := hE2.size
  have z3 := hE3.size
  have z4 := hE4.size
  have z5 := hE5.size
  have z6 := hE6.size
  have o2 := own_from hS2 hS1 z1
  have o3 := own_from hS3 o2 (by omega)
  have o4 := own_from hS4 o3 (by omega)
  have o5 := own_from hS5 o4 (by omega)
  have fin : Below W.heap.size W W7 := (below_ext (below_ext (below_ext (below_ext (below_ext HB1.out z1 hE2 hS1) (by omega) hE3 o2) (by omega) hE4 o3) (by omega) hE5 o4) (by omega) hE6 o5).trans (hB7.mono (by omega))
  have FIN := Lib.hid fin
  clear hr fin how hq1 hq2 hq3 hq4
  go_wp2_with (go_at_call 19; refine hp6.mono ?_; rintro e w' ⟨rfl, rfl⟩)
  exact HPost.out _ _ ⟨rfl, FIN.out⟩
end Go.Proofs.Ytfnkbmjpiiabkaa
