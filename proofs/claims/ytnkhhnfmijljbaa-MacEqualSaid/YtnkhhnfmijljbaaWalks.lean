/- Walks of mac.Equal and cairnlaw03.MacEqual. -/
import Derived.Test.YtnkhhnfmijljbaaKit
namespace Go.Proofs.Ytnkhhnfmijljbaa
open Go.RowKit
open Extern.Stop (cell)

theorem or_zero_iff (D x y : UInt8) : (D ||| (x ^^^ y)) = 0 ↔ D = 0 ∧ x = y := by
  constructor
  · intro h
    have h2 : D = 0 ∧ x ^^^ y = 0 := by
      constructor <;> (rw [← UInt8.toNat_inj] at h ⊢; simp only [UInt8.toNat_or, UInt8.toNat_zero, Nat.or_eq_zero_iff] at h ⊢)
      · exact h.1
      · simpa using h.2
    exact ⟨h2.1, UInt8.xor_eq_zero_iff.1 h2.2⟩
  · rintro ⟨rfl, rfl⟩; simp

theorem take_succ_eq_iff (xs ys : List UInt8) (k n : Nat) (hx : xs.length = n) (hy : ys.length = n) (hk : k < n) :
    xs.take (k + 1) = ys.take (k + 1) ↔ xs.take k = ys.take k ∧ xs.getD k 0 = ys.getD k 0 := by
  rw [List.take_succ_eq_append_getElem (by omega), List.take_succ_eq_append_getElem (by omega)]
  have hl : (xs.take k).length = (ys.take k).length := by simp; omega
  have e : ∀ a b : UInt8, (xs.take k ++ [a] = ys.take k ++ [b]) ↔ xs.take k = ys.take k ∧ a = b := fun a b =>
    ⟨fun h => by have := List.append_inj h hl; exact ⟨this.1, by simpa using this.2⟩, fun h => by rw [h.1, h.2]⟩
  rw [e]
  simp [List.getD, List.getElem?_eq_getElem (show k < xs.length by omega), List.getElem?_eq_getElem (show k < ys.length by omega)]

set_option maxHeartbeats 400000 in
theorem equal_any (xs ys : List UInt8) (hx : xs.length = 32) (hy : ys.length = 32) (w : World) :
    Calls Try.prog 4 #[.agg (xs.map cell).toArray, .agg (ys.map cell).toArray] w fun e w' => e = .returned (.bool (xs == ys)) ∧ Below w.heap.size w w' := by
  have HX := Lib.hid hx
  have HY := Lib.hid hy
  clear hx hy
  go_enter Try.func4, Try.ntmps4
  go_wp2
  obtain ⟨W1, hW1⟩ : ∃ W1, W1 = (w.alloc (Obj.cells (List.map cell xs).toArray 23)).alloc (Obj.cells (List.map cell ys).toArray 23) := ⟨_, rfl⟩
  have c0 : ∀ k, k < 32 → W1.cell? ⟨w.heap.size, k, none⟩ = some (.int .u8 (xs.getD k 0).toNat) := fun k hk => by
    subst hW1; exact cellRow xs _ _ 23 (0, 0) (heap_alloc2_old _ _ _) k (by rw [HX.out]; exact hk)
  have c1 : ∀ k, k < 32 → W1.cell? ⟨w.heap.size + 1, k, none⟩ = some (.int .u8 (ys.getD k 0).toNat) := fun k hk => by
    subst hW1; exact cellRow ys _ _ 23 (0, 0) (heap_alloc2_new _ _ _) k (by rw [HY.out]; exact hk)
  have hB : Below w.heap.size w W1 := by subst hW1; exact ((Below.refl _ _).alloc (Nat.le_refl _) _).alloc (by simp) _
  rw [← hW1]
  clear hW1
  have C0 := Lib.hid c0
  have C1 := Lib.hid c1
  have HB := Lib.hid hB
  clear c0 c1 hB
  go_loopw [5, 7] (fun d i wr => ∃ k : Nat, k ≤ 32 ∧ i = .int .i64 k ∧ (∃ n, wr = W1.drewN n) ∧ ∃ D : UInt8, d = .int .u8 D.toNat ∧ (D = 0 ↔ xs.take k = ys.take k))
    (fun _ i _ => 32 - (intOf i).toNat)
  case atStart => exact ⟨0, by omega, rfl, ⟨0, rfl⟩, 0, rfl, by simp⟩
  case round =>
    obtain ⟨k, hk, rfl, ⟨n, rfl⟩, D, rfl, HD⟩ := hrel
    have HD' := Lib.hid HD
    clear HD
    by_cases hlt : k < 32
    · have c0 := C0.out k hlt
      have c1 := C1.out k hlt
      have c0' : (W1.drewN n).cell? ⟨w.heap.size, k, none⟩ = _ := c0
      have c1' : (W1.drewN n).cell? ⟨w.heap.size + 1, k, none⟩ = _ := c1
      go_wp2
      go_quiet (fail)
      go_wp2
      go_roundw
      case rel => exact ⟨k + 1, by omega, by go_num, ⟨n + nq, rfl⟩, D ||| (xs.getD k 0 ^^^ ys.getD k 0), by rw [← bits_u8_or, ← bits_u8_xor]; simp [List.getD], by
        rw [or_zero_iff, take_succ_eq_iff xs ys k 32 HX.out HY.out hlt, HD'.out]⟩
      case measure => simp [intOf]; omega
    · go_wp2
      go_ret
      obtain rfl : k = 32 := by omega
      refine ⟨?_, below_drewN HB.out _⟩
      have h1 := HD'.out
      rw [List.take_of_length_le (by rw [HX.out]; omega), List.take_of_length_le (by rw [HY.out]; omega)] at h1
      have e : ((D.toNat : Int) == 0) = (xs == ys) := by
        rw [Bool.eq_iff_iff]
        simp only [beq_iff_eq]
        rw [← h1, ← UInt8.toNat_inj]
        simp
      show Ending.returned (.bool ((D.toNat : Int) == 0)) = _
      rw [e]

theorem run_eqlIn (w : World) (xs ys : List UInt8) (hx : xs.length = 32) (hy : ys.length = 32) :
    (Op.equalIn 10000 23 (.agg (xs.map cell).toArray) (.agg (ys.map cell).toArray)).run Try.prog w = .ok (xs == ys) w :=
  run_equalIn_bytes w 9998 23 5 32 Try.underlying23 Try.underlying5 (fun w => by kernel_rfl) xs ys hx hy
theorem info23 : (Try.prog.info? 23).map (·.size) = some 32 := by kernel_rfl
theorem isize (xs : List UInt8) (h : xs.length = 32) : (Try.prog.info? 23).map (·.size) = some (xs.map cell).toArray.size := by simp [info23, h]
theorem isizeL (xs : List UInt8) (h : xs.length = 32) : (Try.prog.info? 23).map (·.size) = some (xs.map cell).length := by simp [info23, h]

def RestOf (w w' : World) : Prop := Below w.heap.size w w'
theorem RestOf.drew {w w' : World} (h : RestOf w w') : RestOf w w'.drew := Below.drew h
theorem RestOf.below {w w1 w2 : World} (h : RestOf w w1) (hb : Below w1.heap.size w1 w2) : RestOf w w2 := Below.trans h (hb.mono (Below.size h))
theorem pow_u8 (j : Nat) (h : j < 8) : ∃ m : UInt8, m ≠ 0 ∧ ((2 : Int) ^ j % 256) = (m.toNat : Int) := by
  have : ∀ j : Fin 8, ∃ m : UInt8, m = UInt8.ofNat (2 ^ j.val) ∧ m ≠ 0 ∧ ((2 : Int) ^ j.val % 256) = (m.toNat : Int) := fun j => ⟨_, rfl, by revert j; decide, by revert j; decide⟩
  obtain ⟨m, _, h1, h2⟩ := this ⟨j, h⟩
  exact ⟨m, h1, h2⟩
set_option maxHeartbeats 400000 in
theorem macEqual_any (xs ys : List UInt8) (bit : Int) (hb0 : -9223372036854775808 ≤ bit) (hb1 : bit ≤ 9223372036854775807) (hx : xs.length = 32) (hy : ys.length = 32) (w : World) :
    Calls Try.prog 3 #[.agg (xs.map cell).toArray, .agg (ys.map cell).toArray, .int .i64 bit] w fun e w' => e = .returned (.bool true) ∧ Below w.heap.size w w' := by
  have HX := Lib.hid hx
  have HY := Lib.hid hy
  clear hx hy
  go_enter Try.func3, Try.ntmps3
  go_wp2_with (first
    | (with_reducible change wpList _ _ _ (Oper.mk _ (Op.load 23 _) _ _ _ _ :: _) _ _
       refine wpList_load_row rfl 23 _ rfl _ rfl 23 _ (0, 0) _ (heap_alloc2_old _ _ _) Try.underlying23 rfl (isize _ HX.out) ?_)
    | (with_reducible change wpList _ _ _ (Oper.mk _ (Op.store 23 _ _) _ _ _ _ :: _) _ _
       refine wpList_store_row rfl 23 _ _ rfl (w.heap.size + 1 + 1) _ rfl rfl 23 _ (heap_alloc3_new _ _ _ _) (isize _ HX.out) ?hold (oneCells _) ?_))
  case hold => simp [HX.out]
  obtain ⟨i, hi, ei⟩ : ∃ i : Nat, i < 256 ∧ (wrap64 (bit.tmod 256 + 256)).tmod 256 = (i : Int) := by
    have h1 := Int.tmod_lt_of_pos bit (show (0 : Int) < 256 by omega)
    have h2 := Int.lt_tmod_of_pos bit (show (0 : Int) < 256 by omega)
    have e : wrap64 (bit.tmod 256 + 256) = bit.tmod 256 + 256 := by unfold wrap64; omega
    rw [e]
    have h3 := Int.tmod_lt_of_pos (bit.tmod 256 + 256) (show (0 : Int) < 256 by omega)
    have h4 := Int.tmod_nonneg 256 (show 0 ≤ bit.tmod 256 + 256 by omega)
    exact ⟨((bit.tmod 256 + 256).tmod 256).toNat, by omega, by omega⟩
  rw [ei]
  clear ei
  simp only [Act.put]
  generalize hW1 : World.setRow (World.alloc _ _) _ _ = W1
  have hB : Below w.heap.size w W1 := by
    rw [← hW1]; exact Below.setRow ((((Below.refl _ _).alloc (Nat.le_refl _) _).alloc (by simp) _).alloc (by simp; omega) _) (by omega) _
  have g0 : W1.heap[w.heap.size]? = some (.cells (xs.map cell).toArray 23 (0, 0)) := by
    rw [← hW1, setRow_heap_other _ _ _ _ (by omega)]; exact heap_alloc3_old _ _ _ _
  have g1 : W1.heap[w.heap.size + 1]? = some (.cells (ys.map cell).toArray 23 (0, 0)) := by
    rw [← hW1, setRow_heap_other _ _ _ _ (by omega)]; exact heap_alloc3_mid _ _ _ _
  have g2 : W1.heap[w.heap.size + 1 + 1]? = some (.cells (xs.map cell).toArray 23 (0, 0)) := by
    rw [← hW1]; exact setRow_heap _ _ _ _ _ _ (heap_alloc3_new _ _ _ _)
  clear hW1
  have hi8 : (i : Int) / 8 < 32 := by omega
  have c2 : W1.cell? ⟨w.heap.size + 1 + 1, i / 8, none⟩ = some (.int .u8 (xs.getD (i / 8) 0).toNat) := cellRow xs _ _ 23 (0, 0) g2 (i / 8) (by rw [HX.out]; omega)
  have f2 : W1.frozen? ⟨w.heap.size + 1 + 1, i / 8, none⟩ = false := frozen_of_row _ _ _ _ _ g2
  have G0 := Lib.hid g0
  have G1 := Lib.hid g1
  have G2 := Lib.hid g2
  have HB := Lib.hid hB
  clear g0 g1 g2 hB
  go_region
  go_wp2_with fail
  obtain ⟨m, hm0, hm⟩ := pow_u8 (i % 8) (by omega)
  rw [hm, show (xs[i / 8]?.getD 0) = xs.getD (i / 8) 0 from rfl, bits_u8_xor]
  obtain ⟨zs, hzs⟩ : ∃ zs, zs = xs.set (i / 8) (xs.getD (i / 8) 0 ^^^ m) := ⟨_, rfl⟩
  have hzl : zs.length = 32 := by rw [hzs, List.length_set, HX.out]
  have hxz : (xs == zs) = false := by
    rw [beq_eq_false_iff_ne]
    intro e
    have e1 : xs.getD (i / 8) 0 = zs.getD (i / 8) 0 := by rw [← e]
    rw [hzs] at e1
    have hlt : i / 8 < xs.length := by rw [HX.out]; omega
    simp only [List.getD, List.getElem?_set_self hlt, List.getElem?_eq_getElem hlt, Option.getD_some] at e1
    have e2 := congrArg (fun t => xs[i / 8] ^^^ t) e1
    simp only [← UInt8.xor_assoc, UInt8.xor_self, UInt8.zero_xor] at e2
    exact hm0 e2.symm
  have hzx : (zs == xs) = false := by rw [← hxz, Bool.beq_comm]
  generalize hW2 : World.setCell W1 _ _ = W2
  have g2 : W2.heap[w.heap.size + 1 + 1]? = some (.cells (zs.map cell).toArray 23 (0, 0)) := by
    rw [← hW2, heap_setCell_same _ _ _ _ _ _ G2.out, hzs, List.map_set]
    simp [cell]
  have g0 : W2.heap[w.heap.size]? = some (.cells (xs.map cell).toArray 23 (0, 0)) := by
    rw [← hW2, heap_setCell_other _ _ _ _ (by show _ ≠ w.heap.size + 1 + 1; omega)]; exact G0.out
  have g1 : W2.heap[w.heap.size + 1]? = some (.cells (ys.map cell).toArray 23 (0, 0)) := by
    rw [← hW2, heap_setCell_other _ _ _ _ (by show _ ≠ w.heap.size + 1 + 1; omega)]; exact G1.out
  have hB : Below w.heap.size w W2 := by rw [← hW2]; exact HB.out.setCell (by show _ ≤ w.heap.size + 1 + 1; omega) _
  have HZL := Lib.hid hzl
  have HB2 := Lib.hid hB
  clear hW2 c2 f2 G0 G1 G2 HB W1 hzl hzs hB hi8 hm hm0
  have u23 := Try.underlying23
  have i23x := isizeL xs HX.out
  have i23y := isizeL ys HY.out
  have i23z := isizeL zs HZL.out
  have r0 := rangeOfRow g0
  have r1 := rangeOfRow g1
  have r2 := rangeOfRow g2
  have hR : RestOf w W2 := HB2.out
  clear g0 g1 g2
  refine wp_region_quiet (C := fun w' => w'.rangeAt w.heap.size 0 (xs.map cell) ∧ w'.rangeAt (w.heap.size + 1) 0 (ys.map cell) ∧ w'.rangeAt (w.heap.size + 1 + 1) 0 (zs.map cell) ∧ RestOf w w') (by kernel_rfl) (by kernel_rfl) ⟨r0, r1, r2, hR.drew.drew⟩ ?_
  have call : ∀ (us vs : List UInt8), us.length = 32 → vs.length = 32 → ∀ w0, (w0.rangeAt w.heap.size 0 (xs.map cell) ∧ w0.rangeAt (w.heap.size + 1) 0 (ys.map cell) ∧ w0.rangeAt (w.heap.size + 1 + 1) 0 (zs.map cell) ∧ RestOf w w0) →
      Calls Try.prog 4 #[.agg (us.map cell).toArray, .agg (vs.map cell).toArray] w0 fun e w' => e = .returned (.bool (us == vs)) ∧ (w'.rangeAt w.heap.size 0 (xs.map cell) ∧ w'.rangeAt (w.heap.size + 1) 0 (ys.map cell) ∧ w'.rangeAt (w.heap.size + 1 + 1) 0 (zs.map cell) ∧ RestOf w w') :=
    fun us vs hu hv w0 ⟨h0, h1, h2, h3⟩ => (equal_any us vs hu hv w0).mono fun e w' ⟨he, hb⟩ => ⟨he, rangeAt_below h0 hb, rangeAt_below h1 hb, rangeAt_below h2 hb, h3.below hb⟩
  refine wpQ_row rfl w.heap.size 0 rfl _ _ (fun _ h => h.1) Try.underlying23 rfl i23x ?_
  simp only [Act.put, List.setIfInBounds_toArray, List.set_cons_zero, List.set_cons_succ]
  refine wpQ_row rfl (w.heap.size + 1) 0 rfl _ _ (fun _ h => h.2.1) Try.underlying23 rfl i23y ?_
  simp only [Act.put, List.setIfInBounds_toArray, List.set_cons_zero, List.set_cons_succ]
  refine wpQ_call2 rfl _ _ rfl rfl _ Try.func4 (by kernel_rfl) (by kernel_rfl) _ (call xs ys HX.out HY.out) ?_
  simp only [Act.put, List.setIfInBounds_toArray, List.set_cons_zero, List.set_cons_succ]
  refine wpQ_row rfl w.heap.size 0 rfl _ _ (fun _ h => h.1) Try.underlying23 rfl i23x ?_
  simp only [Act.put, List.setIfInBounds_toArray, List.set_cons_zero, List.set_cons_succ]
  refine wpQ_row rfl (w.heap.size + 1) 0 rfl _ _ (fun _ h => h.2.1) Try.underlying23 rfl i23y ?_
  simp only [Act.put, List.setIfInBounds_toArray, List.set_cons_zero, List.set_cons_succ]
  refine wpQ_val (.bool (xs == ys)) rfl (fun w _ => by simp [execOp, run_eqlIn w xs ys HX.out HY.out, go_sem]) ?_
  simp only [Act.put, List.setIfInBounds_toArray, List.set_cons_zero, List.set_cons_succ]
  refine wpQ_val (.bool true) rfl (fun w _ => by simp [execOp, go_sem]) ?_
  simp only [Act.put, List.setIfInBounds_toArray, List.set_cons_zero, List.set_cons_succ]
  refine wpQ_move rfl ?_
  simp only [Act.put, List.setIfInBounds_toArray, List.set_cons_zero, List.set_cons_succ]
  refine wpQ_row rfl w.heap.size 0 rfl _ _ (fun _ h => h.1) Try.underlying23 rfl i23x ?_
  simp only [Act.put, List.setIfInBounds_toArray, List.set_cons_zero, List.set_cons_succ]
  refine wpQ_row rfl w.heap.size 0 rfl _ _ (fun _ h => h.1) Try.underlying23 rfl i23x ?_
  simp only [Act.put, List.setIfInBounds_toArray, List.set_cons_zero, List.set_cons_succ]
  refine wpQ_call2 rfl _ _ rfl rfl _ Try.func4 (by kernel_rfl) (by kernel_rfl) _ (call xs xs HX.out HX.out) ?_
  simp only [Act.put, List.setIfInBounds_toArray, List.set_cons_zero, List.set_cons_succ]
  rw [beq_self_eq_true]
  refine wpQ_pick true rfl rfl ?_
  simp only [Act.put, List.setIfInBounds_toArray, List.set_cons_zero, List.set_cons_succ, if_true]
  refine wpQ_move rfl ?_
  simp only [Act.put, List.setIfInBounds_toArray, List.set_cons_zero, List.set_cons_succ]
  refine wpQ_row rfl w.heap.size 0 rfl _ _ (fun _ h => h.1) Try.underlying23 rfl i23x ?_
  simp only [Act.put, List.setIfInBounds_toArray, List.set_cons_zero, List.set_cons_succ]
  refine wpQ_row rfl (w.heap.size + 1 + 1) 0 rfl _ _ (fun _ h => h.2.2.1) Try.underlying23 rfl i23z ?_
  simp only [Act.put, List.setIfInBounds_toArray, List.set_cons_zero, List.set_cons_succ]
  refine wpQ_call2 rfl _ _ rfl rfl _ Try.func4 (by kernel_rfl) (by kernel_rfl) _ (call xs zs HX.out HZL.out) ?_
  simp only [Act.put, List.setIfInBounds_toArray, List.set_cons_zero, List.set_cons_succ]
  rw [hxz]
  refine wpQ_val (.bool true) rfl (fun w _ => by simp [execOp, go_sem]) ?_
  simp only [Act.put, List.setIfInBounds_toArray, List.set_cons_zero, List.set_cons_succ]
  refine wpQ_pick true rfl rfl ?_
  simp only [Act.put, List.setIfInBounds_toArray, List.set_cons_zero, List.set_cons_succ, if_true]
  refine wpQ_move rfl ?_
  simp only [Act.put, List.setIfInBounds_toArray, List.set_cons_zero, List.set_cons_succ]
  refine wpQ_row rfl (w.heap.size + 1 + 1) 0 rfl _ _ (fun _ h => h.2.2.1) Try.underlying23 rfl i23z ?_
  simp only [Act.put, List.setIfInBounds_toArray, List.set_cons_zero, List.set_cons_succ]
  refine wpQ_row rfl w.heap.size 0 rfl _ _ (fun _ h => h.1) Try.underlying23 rfl i23x ?_
  simp only [Act.put, List.setIfInBounds_toArray, List.set_cons_zero, List.set_cons_succ]
  refine wpQ_call2 rfl _ _ rfl rfl _ Try.func4 (by kernel_rfl) (by kernel_rfl) _ (call zs xs HZL.out HX.out) ?_
  simp only [Act.put, List.setIfInBounds_toArray, List.set_cons_zero, List.set_cons_succ]
  rw [hzx]
  refine wpQ_val (.bool true) rfl (fun w _ => by simp [execOp, go_sem]) ?_
  simp only [Act.put, List.setIfInBounds_toArray, List.set_cons_zero, List.set_cons_succ]
  refine wpQ_pick true rfl rfl ?_
  simp only [Act.put, List.setIfInBounds_toArray, List.set_cons_zero, List.set_cons_succ, if_true]
  refine wpQ_assign rfl ?_
  simp only [Act.put, List.setIfInBounds_toArray, List.set_cons_zero, List.set_cons_succ]
  refine wpQuiet_nil ?_
  intro w' hw'
  go_wp2_with fail
  go_ret
  exact ⟨rfl, hw'.2.2.2⟩
end Go.Proofs.Ytnkhhnfmijljbaa
