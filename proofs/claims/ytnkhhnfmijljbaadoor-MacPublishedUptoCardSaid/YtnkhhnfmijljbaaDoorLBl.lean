/- cairnlaw03.block: a secret's block, each byte with x, by the program's sums. -/
import Derived.Test.YtnkhhnfmijljbaaDoorMPk
set_option linter.unusedVariables false
set_option linter.unusedSimpArgs false
namespace Go.Proofs.YtnkhhnfmijljbaaDoor
open Go.RowKit Go.Proofs.YtnkhhnfmijljbaaDoorW.PrintWords Go.Proofs.YtnkhhnfmijljbaaDoorW.PrintLast Go.Proofs.YtnkhhnfmijljbaaDoorW.PrintMore
open Extern.Stop (cell)

theorem xx (x y : UInt8) : bits .xor .u8 (n8 x) (n8 y) = n8 (x ^^^ y) := bits_u8_xor x y
theorem made64 : madeCells #[Value.int .u8 0] 64 = ((List.replicate 64 (0 : UInt8)).map cell).toArray := by kernel_rfl
/-- a block of the call's own was written -/
theorem ext_own {B : Nat} {w w3 w4 : World} (h : Ext w w3) (hB : B = w.heap.size) (hO : Only w3 B w4) : Ext w w4 := below_only h hO (by omega) h.size
/-- what is left of block when the row is filled -/
def LBl (w w' : World) (e : Ending) (xs : List UInt8) (x : UInt8) : Prop := ∃ b, e = .returned (.slice (some ⟨b, 0, none⟩) 64 64) ∧ w.heap.size ≤ b ∧ Ext w w' ∧ Row w' b ((Spec.xorL x (Spec.key xs)).map cell) 5
set_option maxHeartbeats 1000000 in
set_option maxRecDepth 100000 in
theorem lblock_calls (w : World) (A : Option Addr) (c : Nat) (xs : List UInt8) (x : UInt8) (hK : KTab w) (hF : FTab w) (hx : Bs w A xs.length xs) (hc : xs.length ≤ c) (hl : xs.length < 500000000000000000) :
    Calls Tryd.prog 25 #[.slice A xs.length c, .int .u8 (n8 x)] w (fun e w' => LBl w w' e xs x) := by
  obtain ⟨B, hBdef⟩ : ∃ B, B = w.heap.size := ⟨_, rfl⟩
  have HBD := Aside0.mk hBdef
  have HK := Aside0.mk hK
  have HF := Aside0.mk hF
  have HX := Aside0.mk hx
  clear hK hF hx
  have hmk := print_make (P := Tryd.prog) 24 5 .u8 1 Tryd.underlying24 info5 (by omega) 64 (by omega)
  rw [show ((64 : Nat) : Int) = 64 from rfl] at hmk
  by_cases h64 : 64 < xs.length
  · have h64' : (64 : Int) < xs.length := by omega
    go_enter Tryd.func25, Tryd.ntmps25
    go_wp2_with fail
    have hE1 : Ext w (w.alloc (.cells (madeCells #[Value.int .u8 0] 64) 5)) := (Ext.refl w).alloc _
    have hR1 : Row (w.alloc (.cells (madeCells #[Value.int .u8 0] 64) 5)) B ((List.replicate 64 (0 : UInt8)).map cell) 5 := by rw [hBdef, made64]; exact Row.alloc _ _ _
    have hcall := sumOne_calls _ A xs.length c xs (HK.out.ext hE1) (HF.out.ext hE1) (HX.out.ext hE1) hc hl
    rw [show (w.alloc (.cells (madeCells #[Value.int .u8 0] 64) 5)).heap.size = w.heap.size + 1 by simp] at hcall
    with_reducible refine hcall.mono ?_
    rintro e w2 ⟨rfl, hE2⟩
    have HE2 := Aside0.mk (hE1.trans hE2)
    have HR2 := Aside0.mk (hR1.ext hE2)
    rw [← hBdef]
    clear hE1 hE2 hR1 hmk hBdef hcall
    go_wp2_with (with_reducible change wpList _ _ _ (Oper.mk _ (Op.store 28 _ _) _ _ _ _ :: _) _ _; refine Aside0.out ?_)
    refine Aside0.mk ?_
    refine wpList_store_row rfl 28 _ _ rfl w2.heap.size ((Spec.digest xs).map cell).toArray rfl (by simp only [go_sem, hashV, Act.eval, Act.put]; rfl) 28 _ (heap_alloc_new _ _) (by kernel_rfl) rfl (oneCells _) ?_
    obtain ⟨R, hR⟩ : ∃ R, R = w2.heap.size := ⟨_, rfl⟩
    have hEr : Ext w2 ((w2.alloc (.cells (z8 32).toArray 28)).setRow w2.heap.size ((Spec.digest xs).map cell).toArray) := below_alloc_setRow _ _ _
    refine wpList_world (fun w3 => Ext w w3 ∧ Row w3 B ((List.replicate 64 (0 : UInt8)).map cell) 5 ∧ Row w3 R ((Spec.digest xs).map cell) 28) ⟨HE2.out.trans hEr, HR2.out.ext hEr, by rw [hR]; exact alloc_setRow _ _ _ _⟩ ?_
    rintro w3 ⟨hE3, hZ3, hR3⟩
    rw [← hR]
    have HE3 := Aside0.mk hE3
    have HZ3 := Aside0.mk hZ3
    have hdl : (Spec.digest xs).length = 32 := Spec.digest_length xs
    have HBS := Aside0.mk (Bs.row hR3 (n := 32) (by rw [Spec.digest_length]) (by rw [Spec.digest_length]; omega))
    clear hE3 hZ3 hR3 hR hEr
    go_wp2_with (with_reducible refine gate_dst (N := 17) rfl ?_; refine Aside0.out ?_)
    refine Aside0.mk ?_
    refine wpL_copy (F := fun _ w4 => Only w3 B w4 ∧ Row w4 B ((Spec.key xs).map cell) 5) ?_ ?_
    · obtain ⟨k, w4, hr, hO, hR⟩ := run_copy_into w3 3 B (List.replicate 64 0) 5 64 64 (some ⟨R, 0, none⟩) 32 (Spec.digest xs) HZ3.out rfl (by rw [hdl]; exact HBS.out) (by rw [hdl, List.length_replicate]; omega)
      rw [hdl] at hr
      refine ⟨k, w4, hr, hO, ?_⟩
      have e : Spec.key xs = Spec.digest xs ++ (List.replicate 64 0).drop (Spec.digest xs).length := by rw [Spec.key, if_pos h64, List.drop_replicate]
      rw [e]
      exact hR
    clear hdl
    rintro v4 w4 ⟨hO4, hR4⟩
    have HE4 := Aside0.mk (ext_own (B := B) HE3.out HBD.out hO4)
    have HR4 := Aside0.mk hR4
    obtain ⟨ks, hks⟩ : ∃ ks, ks = Spec.key xs := ⟨_, rfl⟩
    have hkl : ks.length = 64 := by rw [hks]; exact Spec.key_length xs
    rw [← hks] at HR4
    have HKS := Aside0.mk hks
    have HKL := Aside0.mk hkl
    clear hO4 hR4 hks hkl
    go_wp2_with fail
    go_loopw [23] (fun i wr => ∃ j : Nat, j ≤ 64 ∧ i = .int .i64 j ∧ Ext w wr ∧ Row wr B ((mixL x ks j).map cell) 5) (fun i _ => 64 - (intOf i).toNat)
    case atStart => exact ⟨0, by omega, rfl, HE4.out, by rw [mixL_zero]; exact HR4.out⟩
    case round =>
      obtain ⟨j, hj, rfl, hE, hR⟩ := hrel
      have HE := Aside0.mk hE
      have HR := Aside0.mk hR
      by_cases hlt : j < 64
      · have hjl : j < ks.length := by rw [HKL.out]; exact hlt
        obtain ⟨y, hy⟩ : ∃ y, y = ks.getD j 0 := ⟨_, rfl⟩
        have c0 := hR.cell (mixC_at x ks j hjl)
        rw [← hy] at c0
        have cf := hR.free j
        have hxx := xx y x
        have b4 : (0 : Int) ≤ j ∧ (j : Int) < 64 := by omega
        have HY := Aside0.mk hy
        have HJL := Aside0.mk hjl
        clear hE hR hy hjl
        go_wp2
        go_roundw
        case rel =>
          refine ⟨j + 1, by omega, by simp, Below.setCell HE.out (p := ⟨B, j, none⟩) (by show w.heap.size ≤ B; rw [HBD.out]; exact Nat.le_refl _) _, ?_⟩
          have h := HR.out.set j (.int .u8 (n8 (y ^^^ x)))
          rw [HY.out, mixC_set x ks j HJL.out] at h
          rw [HY.out]; exact h
        case measure => simp [intOf]; omega
      · obtain rfl : j = 64 := by omega
        rw [mixL_full x ks 64 (by rw [HKL.out]; omega)] at hR
        have HRx := Aside0.mk hR
        clear hE hR HR
        go_wp2
        go_ret
        exact ⟨B, rfl, by rw [HBD.out]; exact Nat.le_refl _, HE.out, by rw [← HKS.out]; exact HRx.out⟩
  · have h64' : ¬ ((64 : Int) < xs.length) := by omega
    go_enter Tryd.func25, Tryd.ntmps25
    go_wp2_with (with_reducible refine gate_dst (N := 20) rfl ?_; refine Aside0.out ?_)
    refine Aside0.mk ?_
    have hE1 : Ext w (w.alloc (.cells (madeCells #[Value.int .u8 0] 64) 5)) := (Ext.refl w).alloc _
    have hR1 : Row (w.alloc (.cells (madeCells #[Value.int .u8 0] 64) 5)) B ((List.replicate 64 (0 : UInt8)).map cell) 5 := by rw [hBdef, made64]; exact Row.alloc _ _ _
    refine wpList_world (fun w3 => Ext w w3 ∧ Row w3 B ((List.replicate 64 (0 : UInt8)).map cell) 5) ⟨hE1, hR1⟩ ?_
    rintro w3 ⟨hE3, hZ3⟩
    rw [← hBdef]
    have HE3 := Aside0.mk hE3
    have HZ3 := Aside0.mk hZ3
    have HX3 := Aside0.mk (HX.out.ext hE3)
    clear hE3 hZ3 hE1 hR1 hmk hBdef
    refine wpL_copy (F := fun _ w4 => Only w3 B w4 ∧ Row w4 B ((Spec.key xs).map cell) 5) ?_ ?_
    · obtain ⟨k, w4, hr, hO, hR⟩ := run_copy_into w3 3 B (List.replicate 64 0) 5 64 64 A c xs HZ3.out rfl HX3.out (by rw [List.length_replicate]; omega)
      refine ⟨k, w4, hr, hO, ?_⟩
      have e : Spec.key xs = xs ++ (List.replicate 64 0).drop xs.length := by rw [Spec.key, if_neg h64, List.drop_replicate]
      rw [e]
      exact hR
    rintro v4 w4 ⟨hO4, hR4⟩
    have HE4 := Aside0.mk (ext_own (B := B) HE3.out HBD.out hO4)
    have HR4 := Aside0.mk hR4
    obtain ⟨ks, hks⟩ : ∃ ks, ks = Spec.key xs := ⟨_, rfl⟩
    have hkl : ks.length = 64 := by rw [hks]; exact Spec.key_length xs
    rw [← hks] at HR4
    have HKS := Aside0.mk hks
    have HKL := Aside0.mk hkl
    clear hO4 hR4 hks hkl
    go_wp2_with fail
    go_loopw [23] (fun i wr => ∃ j : Nat, j ≤ 64 ∧ i = .int .i64 j ∧ Ext w wr ∧ Row wr B ((mixL x ks j).map cell) 5) (fun i _ => 64 - (intOf i).toNat)
    case atStart => exact ⟨0, by omega, rfl, HE4.out, by rw [mixL_zero]; exact HR4.out⟩
    case round =>
      obtain ⟨j, hj, rfl, hE, hR⟩ := hrel
      have HE := Aside0.mk hE
      have HR := Aside0.mk hR
      by_cases hlt : j < 64
      · have hjl : j < ks.length := by rw [HKL.out]; exact hlt
        obtain ⟨y, hy⟩ : ∃ y, y = ks.getD j 0 := ⟨_, rfl⟩
        have c0 := hR.cell (mixC_at x ks j hjl)
        rw [← hy] at c0
        have cf := hR.free j
        have hxx := xx y x
        have b4 : (0 : Int) ≤ j ∧ (j : Int) < 64 := by omega
        have HY := Aside0.mk hy
        have HJL := Aside0.mk hjl
        clear hE hR hy hjl
        go_wp2
        go_roundw
        case rel =>
          refine ⟨j + 1, by omega, by simp, Below.setCell HE.out (p := ⟨B, j, none⟩) (by show w.heap.size ≤ B; rw [HBD.out]; exact Nat.le_refl _) _, ?_⟩
          have h := HR.out.set j (.int .u8 (n8 (y ^^^ x)))
          rw [HY.out, mixC_set x ks j HJL.out] at h
          rw [HY.out]; exact h
        case measure => simp [intOf]; omega
      · obtain rfl : j = 64 := by omega
        rw [mixL_full x ks 64 (by rw [HKL.out]; omega)] at hR
        have HRx := Aside0.mk hR
        clear hE hR HR
        go_wp2
        go_ret
        exact ⟨B, rfl, by rw [HBD.out]; exact Nat.le_refl _, HE.out, by rw [← HKS.out]; exact HRx.out⟩
end Go.Proofs.YtnkhhnfmijljbaaDoor
