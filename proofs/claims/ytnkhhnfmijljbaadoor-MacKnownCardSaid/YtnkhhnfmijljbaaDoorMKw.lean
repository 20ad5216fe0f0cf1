/- cairnlaw03.MacKnown: true. -/
import Derived.Test.YtnkhhnfmijljbaaDoorMPk
import Derived.Lib.SlBytesConst
set_option linter.unusedVariables false
set_option linter.unusedSimpArgs false
namespace Go.Proofs.YtnkhhnfmijljbaaDoor
open Go.RowKit Go.Proofs.YtnkhhnfmijljbaaDoorW.PrintWords Go.Proofs.YtnkhhnfmijljbaaDoorW.PrintLast Go.Proofs.YtnkhhnfmijljbaaDoorW.PrintMore
open Extern.Stop (cell)

theorem ints_snoc (j : Nat) (x : UInt8) (z : Int) (hz : z = n8 x) : ints (List.replicate j x) ++ [z] = ints (List.replicate (j + 1) x) := by
  subst hz
  rw [List.replicate_succ', ints, ints, List.map_append]; rfl
set_option maxHeartbeats 1000000 in
set_option maxRecDepth 100000 in
theorem macKnown_calls (w : World) (hK : KTab w) (hF : FTab w) : Calls Tryd.prog 11 #[] w (fun e w' => e = .returned (.bool true) ∧ Below w.heap.size w w') := by
  have HK := Aside0.mk hK
  have HF := Aside0.mk hF
  clear hK hF
  have kc := Lib.run_convert_bytes_const (P := Tryd.prog) w 24 5 #[.int .u8 120] 1 1 Tryd.underlying24 Tryd.underlying5
  go_enter Tryd.func11, Tryd.ntmps11
  go_wp2_with fail
  have hEc : Ext w (w.alloc (.cells #[.int .u8 120] 5 (1, 2))) := (Ext.refl w).alloc _
  refine (kwrite_none _ _ _ _).mono ?_
  rintro e w1 ⟨rfl, rfl⟩
  clear kc
  go_wp2_with fail
  refine (kcode_none _).mono ?_
  rintro e w1 ⟨rfl, hE1⟩
  have HE1 := Aside0.mk (Ext.trans hEc hE1)
  have heq := eq28 w1 zeroHash zeroHash rfl rfl
  rw [beq_self_eq_true] at heq
  have HEQ := Aside0.mk heq
  clear hE1 heq hEc
  go_wp2_with (with_reducible refine gate_dst (N := 13) rfl ?_; refine Aside0.out ?_)
  refine Aside0.mk ?_
  refine wpL_val (.bool false) (w1 := w1) (by rfl) (by
    have h2 : (Op.equalIn 10000 28 (.agg (zeroHash.map cell).toArray) (.agg #[.int .u8 0, .int .u8 0, .int .u8 0, .int .u8 0, .int .u8 0, .int .u8 0, .int .u8 0, .int .u8 0, .int .u8 0, .int .u8 0, .int .u8 0, .int .u8 0, .int .u8 0, .int .u8 0, .int .u8 0, .int .u8 0, .int .u8 0, .int .u8 0, .int .u8 0, .int .u8 0, .int .u8 0, .int .u8 0, .int .u8 0, .int .u8 0, .int .u8 0, .int .u8 0, .int .u8 0, .int .u8 0, .int .u8 0, .int .u8 0, .int .u8 0, .int .u8 0])).run Tryd.prog w1 = .ok true w1 := HEQ.out
    simp [execOp, hashV, h2, go_sem]) ?_
  go_wp2_with fail
  refine (kcopy_none _).mono ?_
  rintro e w2 ⟨rfl, rfl⟩
  go_wp2_with fail
  obtain ⟨B, hBdef⟩ : ∃ B, B = w.heap.size := ⟨_, rfl⟩
  have HBD := Aside0.mk hBdef
  clear hBdef
  go_loopw [2, 3] (fun v i wr => ∃ (j : Nat) (vv : Value), j ≤ 131 ∧ vv = v ∧ i = .int .i64 j ∧ wr.ownsRow B 5 1 vv (ints (List.replicate j 170)).length (nums .u8 (ints (List.replicate j 170))) ∧ Below B w wr) (fun _ i _ => 131 - (intOf i).toNat)
  case atStart => exact ⟨0, _, by omega, rfl, rfl, own_nil _ _ _ _, by rw [HBD.out]; exact HE1.out⟩
  case round =>
    obtain ⟨j, vv, hj, rfl, rfl, hO, hB⟩ := hrel
    have HO := Aside0.mk hO
    have HB := Aside0.mk hB
    clear hO
    by_cases hlt : j < 131
    · have hj1 : (j : Int) < 131 := by omega
      clear hB
      go_wp2_with (with_reducible refine gate_dst (N := 25) rfl ?_; refine Aside0.out ?_)
      refine Aside0.mk ?_
      refine print_append_num (w0 := w) B rfl _ _ 24 5 .u8 1 rfl Tryd.underlying24 info5 (by omega) vv (ints (List.replicate j 170)) 170 rfl rfl HO.out HB.out (by rw [HBD.out]; exact HB.out.size) (by rw [ints_length, List.length_replicate]; omega) ?_
      intro v2 w3 hO2 hB2 hg2 hat2
      rw [ints_snoc j 170 170 rfl] at hO2
      have HO2 := Aside0.mk hO2
      have HB2 := Aside0.mk hB2
      clear hO2 hB2 hg2 hat2
      go_wp2
      go_roundw
      case rel => exact ⟨j + 1, _, by omega, rfl, by simp, HO2.out, HB2.out⟩
      case measure => simp [intOf]; omega
    · obtain rfl : j = 131 := by omega
      clear hB
      go_wp2_with fail
      rw [show ((131 : Nat) : Int) = 131 from rfl]
      obtain ⟨B2, hB2def⟩ : ∃ B2, B2 = wr.heap.size := ⟨_, rfl⟩
      have HBD2 := Aside0.mk hB2def
      obtain ⟨wm, hwm⟩ : ∃ wm, wm = wr := ⟨_, rfl⟩
      rw [← hwm]
      rw [← hwm] at HO HB HBD2
      clear hB2def hwm
      go_loopw [4, 5] (fun v i wr => ∃ (j : Nat) (v4 : Value), j ≤ 20 ∧ v4 = v ∧ i = .int .i64 j ∧ wr.ownsRow B2 5 1 v4 (ints (List.replicate j 11)).length (nums .u8 (ints (List.replicate j 11))) ∧ Below B2 wm wr) (fun _ i _ => 20 - (intOf i).toNat)
      case atStart => exact ⟨0, _, by omega, rfl, rfl, own_nil _ _ _ _, by rw [HBD2.out]; exact Ext.refl _⟩
      case round =>
        obtain ⟨j, v4, hj, rfl, rfl, hO, hB⟩ := hrel
        have HO4 := Aside0.mk hO
        have HB4 := Aside0.mk hB
        clear hO
        by_cases hlt : j < 20
        · have hj1 : (j : Int) < 20 := by omega
          clear hB
          go_wp2_with (with_reducible refine gate_dst (N := 32) rfl ?_; refine Aside0.out ?_)
          refine Aside0.mk ?_
          refine print_append_num (w0 := wm) B2 rfl _ _ 24 5 .u8 1 rfl Tryd.underlying24 info5 (by omega) v4 (ints (List.replicate j 11)) 11 rfl rfl HO4.out HB4.out (by rw [HBD2.out]; exact HB4.out.size) (by rw [ints_length, List.length_replicate]; omega) ?_
          intro v2 w3 hO2 hB2 hg2 hat2
          rw [ints_snoc j 11 11 rfl] at hO2
          have HO2 := Aside0.mk hO2
          have HB2 := Aside0.mk hB2
          clear hO2 hB2 hg2 hat2
          go_wp2
          go_roundw
          case rel => exact ⟨j + 1, _, by omega, rfl, by simp, HO2.out, HB2.out⟩
          case measure => simp [intOf]; omega
        · obtain rfl : j = 20 := by omega
          have hEm : Ext wm wr := by have h := HB4.out; rw [HBD2.out] at h; exact h
          have hEw : Ext w wr := by have h := HB.out; rw [HBD.out] at h; exact Ext.trans h hEm
          have HEW := Aside0.mk hEw
          have HLO := Aside0.mk (pw_own_below HO.out hEm)
          have hcv := own_string (P := Tryd.prog) (src := 24) (dst := 9) Tryd.underlying24 Tryd.underlying5 Tryd.underlying9 HO4.out
          rw [show strOfNums (ints (List.replicate 20 11)) = strB secA from strOf_strB _] at hcv
          clear hB hEm hEw
          go_wp2_with fail
          refine (knownAtA wr (HK.out.ext HEW.out) (HF.out.ext HEW.out)).mono ?_
          rintro e w5 ⟨rfl, hE5⟩
          have HE5 := Aside0.mk (HEW.out.trans hE5)
          have HL5 := Aside0.mk (pw_own_below HLO.out hE5)
          clear hE5 hcv
          go_wp2_with fail
          refine (knownAtB w5 (HK.out.ext HE5.out) (HF.out.ext HE5.out)).mono ?_
          rintro e w6 ⟨rfl, hE6⟩
          have HE6 := Aside0.mk (HE5.out.trans hE6)
          have HL6 := Aside0.mk (pw_own_below HL5.out hE6)
          clear hE6
          go_wp2_with fail
          refine (knownAtC w6 (HK.out.ext HE6.out) (HF.out.ext HE6.out)).mono ?_
          rintro e w7 ⟨rfl, hE7⟩
          have HE7 := Aside0.mk (HE6.out.trans hE7)
          have hcv2 := own_string (P := Tryd.prog) (src := 24) (dst := 9) Tryd.underlying24 Tryd.underlying5 Tryd.underlying9 (pw_own_below HL6.out hE7)
          rw [show strOfNums (ints (List.replicate 131 170)) = strB secD from strOf_strB _] at hcv2
          clear hE7
          go_wp2_with fail
          refine (knownAtD w7 (HK.out.ext HE7.out) (HF.out.ext HE7.out)).mono ?_
          rintro e w8 ⟨rfl, hE8⟩
          have HE8 := Aside0.mk (HE7.out.trans hE8)
          clear hE8 hcv2
          go_wp2
          go_ret
          exact ⟨rfl, HE8.out⟩
end Go.Proofs.YtnkhhnfmijljbaaDoor
