/- cairnref02.words: the sixty-four words of a block. -/
import Derived.Test.YtnkhhnfmijljbaaDoorMBl
set_option linter.unusedVariables false
set_option linter.unusedSimpArgs false
namespace Go.Proofs.YtnkhhnfmijljbaaDoor
open Go.RowKit Go.Proofs.YtnkhhnfmijljbaaDoorW.PrintWords Go.Proofs.YtnkhhnfmijljbaaDoorW.PrintLast Go.Proofs.YtnkhhnfmijljbaaDoorW.PrintMore
open Extern.Stop (cell)
attribute [local go_sem] u32_add u32_shr3 u32_shr10 u8_conv u32_shl24 u32_shl16 u32_shl8 bits_u32_xor bits_u32_or bits_u32_and u32_not u32_not' u32_notm

theorem ext_drewN {a w : World} (h : Ext a w) (n : Nat) : Ext a (w.drewN n) := below_drewN h n
theorem turned_ext (x : UInt32) (n : Nat) (h : n ∈ [2, 6, 7, 11, 13, 17, 18, 19, 22, 25]) (w : World) : Calls Tryd.prog 42 #[.int .u32 (n32 x), .int .i64 n] w (fun e w' => e = .returned (.int .u32 (n32 (Spec.rr x n))) ∧ Ext w w') :=
  (turned_calls x n h w).mono fun e w' ⟨h1, m, h2⟩ => ⟨h1, by subst h2; exact ext_drewN (Ext.refl w) m⟩
theorem add_order (a b c d : UInt32) : a + b + d + c = a + (b + c + d) := by
  rw [UInt32.add_assoc, UInt32.add_assoc, UInt32.add_assoc b c d, UInt32.add_comm c d]
set_option maxHeartbeats 2000000 in
set_option maxRecDepth 100000 in
theorem words_calls (w : World) (g o : Nat) (c : Nat) (b : List UInt8) (hl : b.length = 64) (hb : Bs w (some ⟨g, o, none⟩) 64 b) :
    Calls Tryd.prog 41 #[.slice (some ⟨g, o, none⟩) 64 c] w (fun e w' => e = .returned (.agg ((Spec.sched b 64).map u).toArray) ∧ Ext w w') := by
  obtain ⟨B, hBdef⟩ : ∃ B, B = w.heap.size := ⟨_, rfl⟩
  have HBD := Aside0.mk hBdef
  have HBB := Aside0.mk hb
  have HL := Aside0.mk hl
  clear hb hl
  go_enter Tryd.func41, Tryd.ntmps41
  go_wp2_with fail
  refine wp_world (fun w1 => Ext w w1 ∧ w1.heap.size = B + 2 ∧ Row w1 B (schL b 0) 86 ∧ Row w1 (B + 1) (schL b 0) 86) ⟨?_, ?_, ?_, ?_⟩ ?_
  · exact ((Ext.refl w).alloc _).alloc _
  · simp [hBdef]
  · rw [hBdef]; exact (Row.alloc w (schL b 0) 86).alloc_other _
  · rw [hBdef, show w.heap.size + 1 = (w.alloc (.cells (schL b 0).toArray 86)).heap.size by simp]; exact Row.alloc _ (schL b 0) 86
  rintro w1 ⟨hE1, hS1, hA1, hW1⟩
  rw [← hBdef]
  have HE1 := Aside0.mk hE1
  have HS1 := Aside0.mk hS1
  have HA1 := Aside0.mk hA1
  have HW1 := Aside0.mk hW1
  clear hE1 hS1 hA1 hW1 hBdef
  go_loopw [4] (fun i wr => ∃ (t : Nat), t ≤ 16 ∧ i = .int .i64 t ∧ Ext w wr ∧ wr.heap.size = B + 2 ∧ Row wr B (schL b 0) 86 ∧ Row wr (B + 1) (schL b t) 86)
    (fun i _ => 16 - (intOf i).toNat)
  case atStart => exact ⟨0, by omega, rfl, HE1.out, HS1.out, HA1.out, HW1.out⟩
  case round =>
    obtain ⟨t, ht, rfl, hE, hS, hA, hW⟩ := hrel
    by_cases h16 : t < 16
    · have HE := Aside0.mk hE
      have HS := Aside0.mk hS
      have HA := Aside0.mk hA
      have HW := Aside0.mk hW
      have hbw := HBB.out.ext hE
      have key : ∀ i, i < 64 → wr.cell? ⟨g, o + i, none⟩ = some (.int .u8 (n8 (b.getD i 0))) := fun i hi => by
        obtain ⟨ad', h1, h2⟩ := hbw.cell i hi
        cases h1
        rw [addr_add] at h2
        exact h2
      have c0 := key (4 * t) (by omega)
      have c1 := key (4 * t + 1) (by omega)
      have c2 := key (4 * t + 2) (by omega)
      have c3 := key (4 * t + 3) (by omega)
      clear hE hS hA hW hbw key
      obtain ⟨x0, hx0⟩ : ∃ x, x = b.getD (4 * t) 0 := ⟨_, rfl⟩
      obtain ⟨x1, hx1⟩ : ∃ x, x = b.getD (4 * t + 1) 0 := ⟨_, rfl⟩
      obtain ⟨x2, hx2⟩ : ∃ x, x = b.getD (4 * t + 2) 0 := ⟨_, rfl⟩
      obtain ⟨x3, hx3⟩ : ∃ x, x = b.getD (4 * t + 3) 0 := ⟨_, rfl⟩
      rw [← hx0] at c0
      rw [← hx1] at c1
      rw [← hx2] at c2
      rw [← hx3] at c3
      have HX : Aside0 (Spec.be x0 x1 x2 x3 = Spec.nextW b (Spec.sched b t) t) := Aside0.mk (by rw [Spec.nextW, if_pos h16, hx0, hx1, hx2, hx3])
      clear hx0 hx1 hx2 hx3
      go_wp2
      refine wp_region_still_tail 35 (by kernel_rfl) (by kernel_rfl) ?_
      simp only [List.take_succ_cons, List.take_zero, List.drop_succ_cons, List.drop_zero]
      have b0 : (0 : Int) ≤ 4 * t ∧ 4 * (t : Int) < 64 := by omega
      have b1 : (0 : Int) ≤ 4 * t + 1 ∧ 4 * (t : Int) + 1 < 64 := by omega
      have b2 : (0 : Int) ≤ 4 * t + 2 ∧ 4 * (t : Int) + 2 < 64 := by omega
      have b3 : (0 : Int) ≤ 4 * t + 3 ∧ 4 * (t : Int) + 3 < 64 := by omega
      have b4 : (0 : Int) ≤ t ∧ (t : Int) < 64 := by omega
      repeat (refine wpStill_step (fun K hK => ?_); go_simp; (try go_bits); with_reducible refine hK _ ?_; clear hK K)
      refine wpStill_nil ?_
      change wpList _ _ _ _ _ wr.drew
      clear c0 c1 c2 c3
      have cw := HW.out.cell (schL_new b t t (by omega) (by omega))
      have cf := HW.out.free t
      go_wp2
      go_roundw
      case measure => simp [intOf]; omega
      case rel =>
        refine ⟨t + 1, by omega, by simp, Below.drew (Below.setCell HE.out (p := ⟨B + 1, t, none⟩) (by show w.heap.size ≤ B + 1; rw [HBD.out]; omega) _), by simpa using HS.out, HA.out.other _ _ (by show B ≠ B + 1; omega), ?_⟩
        have := HW.out.set t (.int .u32 (n32 (Spec.be x0 x1 x2 x3)))
        rw [schL_set b t (by omega) _ HX.out] at this
        exact this
    · obtain rfl : t = 16 := by omega
      have HE := Aside0.mk hE
      have HS := Aside0.mk hS
      have HA := Aside0.mk hA
      have HW := Aside0.mk hW
      clear hE hS hA hW
      go_wp2_with fail
      rw [show ((16 : Nat) : Int) = 16 from rfl]
      go_loopw [5] (fun i wr => ∃ (t : Nat), 16 ≤ t ∧ t ≤ 64 ∧ i = .int .i64 t ∧ Ext w wr ∧ Row wr B (schL b 0) 86 ∧ Row wr (B + 1) (schL b t) 86)
        (fun i _ => 64 - (intOf i).toNat)
      case atStart => exact ⟨16, by omega, by omega, rfl, HE.out, HA.out, HW.out⟩
      case round =>
        obtain ⟨t, h16, ht, rfl, hE, hA, hW⟩ := hrel
        by_cases hlt : t < 64
        · have HE := Aside0.mk hE
          have HA := Aside0.mk hA
          have HW := Aside0.mk hW
          have c0 := hW.cell (schL_old b t (t - 15) (by omega))
          have c1 := hW.cell (schL_old b t (t - 2) (by omega))
          clear hE hA hW
          obtain ⟨x, hx⟩ : ∃ x, x = (Spec.sched b t).getD (t - 15) 0 := ⟨_, rfl⟩
          obtain ⟨y, hy⟩ : ∃ x, x = (Spec.sched b t).getD (t - 2) 0 := ⟨_, rfl⟩
          obtain ⟨z, hz⟩ : ∃ x, x = (Spec.sched b t).getD (t - 7) 0 := ⟨_, rfl⟩
          obtain ⟨q, hq⟩ : ∃ x, x = (Spec.sched b t).getD (t - 16) 0 := ⟨_, rfl⟩
          rw [← hx] at c0
          rw [← hy] at c1
          have HX : Aside0 (Spec.s1 y + z + Spec.s0 x + q = Spec.nextW b (Spec.sched b t) t) := Aside0.mk (by rw [Spec.nextW, if_neg (by omega), hx, hy, hz, hq]; exact add_order _ _ _ _)
          have HZ := Aside0.mk (schL_old b t (t - 7) (by omega))
          have HQ := Aside0.mk (schL_old b t (t - 16) (by omega))
          rw [← hz] at HZ
          rw [← hq] at HQ
          have b4 : (0 : Int) ≤ t ∧ (t : Int) < 64 := by omega
          have b5 : (7 : Int) ≤ t := by omega
          have b6 : (16 : Int) ≤ t := by omega
          have b7 : (t : Int) - 7 < 64 := by omega
          have b8 : (t : Int) - 16 < 64 := by omega
          have b9 : (t : Int) - 15 < 64 := by omega
          have b10 : (t : Int) - 2 < 64 := by omega
          have b11 : (15 : Int) ≤ t := by omega
          have b12 : (2 : Int) ≤ t := by omega
          clear hx hy hz hq
          go_wp2_with fail
          refine (turned_ext x 7 (by simp) _).mono ?_
          rintro e w2 ⟨rfl, hE2⟩
          go_wp2_with fail
          refine (turned_ext x 18 (by simp) _).mono ?_
          rintro e w3 ⟨rfl, hE3⟩
          go_wp2_with fail
          refine (turned_ext y 17 (by simp) _).mono ?_
          rintro e w4 ⟨rfl, hE4⟩
          go_wp2_with fail
          refine (turned_ext y 19 (by simp) _).mono ?_
          rintro e w5 ⟨rfl, hE5⟩
          go_wp2_with fail
          have hE25 := hE2.trans (hE3.trans (hE4.trans hE5))
          have HE5 := Aside0.mk (HE.out.trans hE25)
          have HA5 := Aside0.mk (HA.out.ext hE25)
          have HW5 := Aside0.mk (HW.out.ext hE25)
          have c2 := (HW.out.ext hE25).cell HZ.out
          have c3 := (HW.out.ext hE25).cell HQ.out
          clear hE2 hE3 hE4 hE5 hE25 c0 c1
          refine wp_region_still_tail 15 (by kernel_rfl) (by kernel_rfl) ?_
          simp only [List.take_succ_cons, List.take_zero, List.drop_succ_cons, List.drop_zero]
          repeat (refine wpStill_step (fun K hK => ?_); go_simp; (try go_bits); with_reducible refine hK _ ?_; clear hK K)
          refine wpStill_nil ?_
          change wpList _ _ _ _ _ w5.drew
          clear c2 c3
          have cw := HW5.out.cell (schL_new b t t (by omega) hlt)
          have cf := HW5.out.free t
          go_wp2
          go_roundw
          case measure => simp [intOf]; omega
          case rel =>
            refine ⟨t + 1, by omega, by omega, by simp, Below.drew (Below.setCell HE5.out (p := ⟨B + 1, t, none⟩) (by show w.heap.size ≤ B + 1; rw [HBD.out]; omega) _), HA5.out.other _ _ (by show B ≠ B + 1; omega), ?_⟩
            have := HW5.out.set t (.int .u32 (n32 (Spec.s1 y + z + Spec.s0 x + q)))
            rw [schL_set b t hlt _ HX.out] at this
            exact this
        · obtain rfl : t = 64 := by omega
          have HE := Aside0.mk hE
          have HA := Aside0.mk hA
          have HW := Aside0.mk hW
          have e64 : schL b 64 = (Spec.sched b 64).map u := by simp [schL, u0s]
          rw [e64] at HW
          have HSZ := Aside0.mk (show ((Spec.sched b 64).map u).toArray.size = 64 by simp [Spec.sched_length])
          have HOC := Aside0.mk (show ((Spec.sched b 64).map u).toArray.all (·.oneCell') = true from all_oneCell_toArray (fun x hx => by obtain ⟨y, _, rfl⟩ := List.mem_map.1 hx; rfl))
          have HSA := Aside0.mk (show (schL b 0).toArray.size = 64 by simp [schL, u0s, Spec.sched])
          clear hE hA hW e64
          go_wp2_with (with_reducible refine gate_dst (N := 92) rfl ?_; refine Aside0.out ?_)
          refine Aside0.mk ?_
          refine wpList_load_row rfl 86 _ rfl (B + 1) rfl 86 ((Spec.sched b 64).map u).toArray (0, 0) _ HW.out Tryd.underlying86 rfl (by rw [HSZ.out]; kernel_rfl) ?_
          go_wp2_with (with_reducible change wpList _ _ _ (Oper.mk _ (Op.store 86 _ _) _ _ _ _ :: _) _ _; refine Aside0.out ?_)
          refine Aside0.mk ?_
          refine wpList_store_row rfl 86 _ _ rfl B ((Spec.sched b 64).map u).toArray rfl (by simp [go_sem]) 86 _ HA.out (by rw [HSZ.out]; kernel_rfl) (by rw [HSZ.out, HSA.out]) HOC.out ?_
          go_wp2
          (try simp only [Exit.inBlock, Exit.then])
          refine bodyPost_ret (results_cell_row rfl _ _ B 86 ((Spec.sched b 64).map u).toArray (0, 0) _ rfl (setRow_heap _ _ _ _ _ _ HA.out) Tryd.underlying86 rfl (by rw [HSZ.out]; kernel_rfl)) rfl ?_
          exact ⟨rfl, Below.setRow HE.out (by rw [HBD.out]; exact Nat.le_refl _) _⟩
end Go.Proofs.YtnkhhnfmijljbaaDoor
