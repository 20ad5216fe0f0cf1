/- The sum of a state that is none; a hash's digits. -/
import Derived.Test.YtnkhhnfmijljbaaDoorSum
import Derived.BigRegion
set_option linter.unusedVariables false
set_option linter.unusedSimpArgs false
namespace Go.Proofs.YtnkhhnfmijljbaaDoor
open Go.RowKit Go.Proofs.YtnkhhnfmijljbaaDoorW.PrintWords Go.Proofs.YtnkhhnfmijljbaaDoorW.PrintLast Go.Proofs.YtnkhhnfmijljbaaDoorW.PrintMore
open Extern.Stop (cell)

def zeroHash : List UInt8 := List.replicate 32 0
set_option maxHeartbeats 1000000 in
set_option maxRecDepth 100000 in
theorem sum_none (w : World) : Calls Tryd.prog 21 #[.pointer none] w (fun e w' => e = .returned (hashV zeroHash) ∧ Below w.heap.size w w') := by
  obtain ⟨B, hBdef⟩ : ∃ B, B = w.heap.size := ⟨_, rfl⟩
  have HBD := Aside0.mk hBdef
  go_enter Tryd.func21, Tryd.ntmps21
  go_wp2_with (with_reducible refine gate_dst (N := 12) rfl ?_; refine Aside0.out ?_)
  refine Aside0.mk ?_
  refine wpList_world (fun w1 => Below B w w1 ∧ Row w1 B (z8 32) 28 ∧ Row w1 (B + 1) (z8 32) 28) ⟨?_, ?_, ?_⟩ ?_
  · rw [hBdef]; exact Below.alloc (Below.alloc (Below.refl _ _) (Nat.le_refl _) _) (by simp) _
  · rw [hBdef]; exact (Row.alloc w (z8 32) 28).alloc_other _
  · rw [hBdef, show w.heap.size + 1 = (w.alloc (.cells (z8 32).toArray 28)).heap.size by simp]; exact Row.alloc _ (z8 32) 28
  rintro w1 ⟨hB1, hA1, hC1⟩
  have HB1 := Aside0.mk hB1
  have HA1 := Aside0.mk hA1
  have HC1 := Aside0.mk hC1
  rw [← hBdef]
  clear hBdef hB1 hA1 hC1
  refine wpList_load_row rfl 28 _ rfl (B + 1) rfl 28 (zeroHash.map cell).toArray (0, 0) _ HC1.out Tryd.underlying28 rfl (by kernel_rfl) ?_
  go_wp2_with (with_reducible change wpList _ _ _ (Oper.mk _ (Op.store 28 _ _) _ _ _ _ :: _) _ _; refine Aside0.out ?_)
  refine Aside0.mk ?_
  refine wpList_store_row rfl 28 _ _ rfl B (zeroHash.map cell).toArray rfl (by simp [go_sem]) 28 _ HA1.out (by kernel_rfl) rfl (oneCells _) ?_
  go_wp2
  (try simp only [Exit.inBlock, Exit.then])
  refine bodyPost_ret (results_cell_row rfl _ _ B 28 (zeroHash.map cell).toArray (0, 0) _ rfl (setRow_heap _ _ _ _ _ _ HA1.out) Tryd.underlying28 rfl (by kernel_rfl)) rfl ?_
  refine ⟨rfl, ?_⟩
  rw [← HBD.out]
  exact Below.setRow HB1.out (Nat.le_refl _) _

/-- a digit's byte -/
def hexC (n : Nat) : UInt8 := ([48, 49, 50, 51, 52, 53, 54, 55, 56, 57, 97, 98, 99, 100, 101, 102] : List UInt8).getD n 0
def hexL (h : List UInt8) : List UInt8 := h.flatMap fun (b : UInt8) => [hexC (b >>> 4).toNat, hexC (b &&& 15).toNat]
/-- what is left of a region comes up in one order only, and nothing is to be shown behind it: the walk of the list -/
theorem last_of_seq {P : Program} {md : Region.Mode} {ops : Array Oper} {Q : Exit → Act → World → Prop} {S : World → Prop} {ds : List Nat} : ∀ (l : List Oper) (k : Nat) (listed : Array Bool) (a : Act) (w : World), (∀ j, l[j]? = ops[k + j]?) → (∀ j, j < l.length → k + j ∈ ds) →
    Region.seqB md ops l.length k listed = true → wpList P ops Q l a w → wpAnyLast P md ops Q S ds l.length listed a w
  | [], _, _, _, _, _, _, hB, h => ⟨by simpa [Region.seqB] using hB, h⟩
  | o :: l, k, listed, a, w, hl, hd, hB, h => by
    have h0 : ops[k]? = some o := by simpa using (hl 0).symm
    simp only [List.length_cons, Region.seqB, Bool.and_eq_true, decide_eq_true_eq] at hB
    refine ⟨fun h1 => (by rw [hB.1] at h1; cases h1), fun i hi => ?_⟩
    rw [hB.1, List.mem_singleton] at hi
    subst hi
    have hw : wpOp P ops Q i (wpList P ops Q l) a w := by unfold wpOp; simp only [h0]; exact h
    have hi0 : i ∈ ds := by simpa using hd 0 (by simp)
    refine wpOp_mono (fun a' w' h' => ⟨fun hn => absurd hi0 hn, ?_⟩) hw
    exact last_of_seq l (i + 1) _ a' w' (fun j => by have := hl (j + 1); simpa [Nat.add_assoc, Nat.add_comm 1 j] using this) (fun j hj => by have := hd (j + 1) (by simp; omega); simpa [Nat.add_assoc, Nat.add_comm 1 j] using this) hB.2 h'
theorem info5 : (Tryd.prog.info? 5).map (fun i => (i.zero, i.size, i.bytes)) = some (some (.int .u8 0), 1, 1) := by kernel_rfl
theorem strIdx (q : Nat) (hq : q < 16) (w : World) : (Instr.index 9 (.string { data := #[48, 49, 50, 51, 52, 53, 54, 55, 56, 57, 97, 98, 99, 100, 101, 102] }) (.int .u8 (q : Int))).run Tryd.prog w = .ok (.int .u8 (n8 (hexC q))) w := by
  have h : q = 0 ∨ q = 1 ∨ q = 2 ∨ q = 3 ∨ q = 4 ∨ q = 5 ∨ q = 6 ∨ q = 7 ∨ q = 8 ∨ q = 9 ∨ q = 10 ∨ q = 11 ∨ q = 12 ∨ q = 13 ∨ q = 14 ∨ q = 15 := by omega
  rcases h with rfl | rfl | rfl | rfl | rfl | rfl | rfl | rfl | rfl | rfl | rfl | rfl | rfl | rfl | rfl | rfl <;> rfl
theorem n8_hi (x : UInt8) : n8 x / (16 : Int) = ((x >>> 4).toNat : Int) := by
  unfold n8
  rw [UInt8.toNat_shiftRight, Nat.shiftRight_eq_div_pow]
  show _ = ((x.toNat / 16 : Nat) : Int)
  simp
theorem n8_lo (x : UInt8) : bits .and .u8 (n8 x) (15 : Int) = ((x &&& 15).toNat : Int) := bits_u8_and x 15
theorem hi_lt (x : UInt8) : (x >>> 4).toNat < 16 := by
  rw [UInt8.toNat_shiftRight, Nat.shiftRight_eq_div_pow]
  have := x.toNat_lt
  show x.toNat / 16 < 16
  omega
theorem lo_lt (x : UInt8) : (x &&& 15).toNat < 16 := by
  rw [UInt8.toNat_and]
  exact Nat.lt_of_le_of_lt Nat.and_le_right (by decide)
theorem hexL_length (h : List UInt8) : (hexL h).length = 2 * h.length := by
  induction h with
  | nil => rfl
  | cons a h ih => simp [hexL] at ih ⊢; omega
theorem hexL_snoc (h : List UInt8) (x : UInt8) : hexL (h ++ [x]) = hexL h ++ [hexC (x >>> 4).toNat, hexC (x &&& 15).toNat] := by simp [hexL]
theorem take_snoc (h : List UInt8) (j : Nat) (hj : j < h.length) : h.take (j + 1) = h.take j ++ [h.getD j 0] := by
  rw [List.take_succ_eq_append_getElem hj]; simp [List.getD, hj]
set_option maxHeartbeats 1000000 in
set_option maxRecDepth 100000 in
theorem digits_calls (w : World) (h : List UInt8) (hl : h.length = 32) : Calls Tryd.prog 23 #[hashV h] w (fun e w' => e = .returned (.string (strOfNums (ints (hexL h)))) ∧ Below w.heap.size w w') := by
  obtain ⟨B, hBdef⟩ : ∃ B, B = w.heap.size := ⟨_, rfl⟩
  have HBD := Aside0.mk hBdef
  have hsz : (h.map cell).toArray.size = 32 := by simp [hl]
  have HL := Aside0.mk hl
  unfold hashV
  go_enter Tryd.func23, Tryd.ntmps23
  go_wp2_with fail
  refine wp_world (fun w1 => Below B w w1 ∧ w1.heap.size = B + 1 ∧ Row w1 B (h.map cell) 28) ⟨?_, ?_, ?_⟩ ?_
  · rw [hBdef]; exact Below.alloc (Below.refl _ _) (Nat.le_refl _) _
  · simp [hBdef]
  · rw [hBdef]; exact Row.alloc w _ 28
  rintro w1 ⟨hB1, hS1, hR1⟩
  have HB1 := Aside0.mk hB1
  have HS1 := Aside0.mk hS1
  have HR1 := Aside0.mk hR1
  rw [← hBdef]
  clear hBdef hB1 hS1 hR1 hsz hl
  go_loopw [3, 4] (fun v i wr => ∃ (j : Nat) (vv : Value), j ≤ 32 ∧ vv = v ∧ i = .int .i64 j ∧ wr.ownsRow (B + 1) 5 1 vv (ints (hexL (h.take j))).length (nums .u8 (ints (hexL (h.take j)))) ∧ Below (B + 1) w1 wr)
    (fun _ i _ => 32 - (intOf i).toNat)
  case atStart => exact ⟨0, _, by omega, rfl, rfl, own_nil _ _ _ _, Below.refl _ _⟩
  case round =>
    obtain ⟨j, vv, hj, rfl, rfl, hO, hB⟩ := hrel
    have HO := Aside0.mk hO
    have HB := Aside0.mk hB
    clear hO hB
    by_cases hlt : j < 32
    · have hR := HR1.out.below HB.out (by omega : B < B + 1)
      obtain ⟨x, hx⟩ : ∃ x, x = h.getD j 0 := ⟨_, rfl⟩
      have c0 : wr.cell? ⟨B, j, none⟩ = some (.int .u8 (n8 x)) := hR.cell (by
        have hj' : j < h.length := by rw [HL.out]; exact hlt
        rw [hx]; simp [List.getD, hj', cell, n8])
      obtain ⟨q, hq⟩ : ∃ q, q = (x >>> 4).toNat := ⟨_, rfl⟩
      obtain ⟨r, hr⟩ : ∃ r, r = (x &&& 15).toNat := ⟨_, rfl⟩
      have h1 := n8_hi x
      have h2 := n8_lo x
      rw [← hq] at h1
      rw [← hr] at h2
      have hi1 := strIdx q (by rw [hq]; exact hi_lt x)
      have hi2 := strIdx r (by rw [hr]; exact lo_lt x)
      have b4 : (0 : Int) ≤ j ∧ (j : Int) < 32 := by omega
      have HX := Aside0.mk (show hexL (h.take (j + 1)) = hexL (h.take j) ++ [hexC q, hexC r] by rw [take_snoc h j (by rw [HL.out]; exact hlt), hexL_snoc, ← hx, hq, hr])
      clear hR hx hq hr
      go_wp2_with fail
      refine start_ (n := 14) (S := fun w' => w'.cell? ⟨B, j, none⟩ = some (.int .u8 (n8 x))) (ds := [11, 12, 13]) #[false, false, false, false, false, false, false, false, false, false, false, false, false, false] (by kernel_rfl) rfl rfl c0 (fun _ => ?_)
      refine pure_ (i := 0) (N := some 9) (v := vv) #[true, false, false, false, false, false, false, false, false, false, false, false, false, false] rfl rfl (by kernel_rfl) (fun _ _ _ h => h) (Or.inl ⟨by rfl, fun w' => by simp [go_sem, b4.1, b4.2, b4, h1, h2, hi1, hi2]⟩) rfl ?_
      simp only [Act.put, List.setIfInBounds_toArray, List.set_cons_zero, List.set_cons_succ]
      refine pure_ (i := 1) (N := some 10) (v := .int .i64 j) #[true, true, false, false, false, false, false, false, false, false, false, false, false, false] rfl rfl (by kernel_rfl) (fun _ _ _ h => h) (Or.inl ⟨by rfl, fun w' => by simp [go_sem, b4.1, b4.2, b4, h1, h2, hi1, hi2]⟩) rfl ?_
      simp only [Act.put, List.setIfInBounds_toArray, List.set_cons_zero, List.set_cons_succ]
      refine pure_ (i := 2) (N := some 11) (v := .pointer (some ⟨B, j, none⟩)) #[true, true, true, false, false, false, false, false, false, false, false, false, false, false] rfl rfl (by kernel_rfl) (fun _ _ _ h => h) (Or.inl ⟨by rfl, fun w' => by simp [go_sem, b4.1, b4.2, b4, h1, h2, hi1, hi2]⟩) rfl ?_
      simp only [Act.put, List.setIfInBounds_toArray, List.set_cons_zero, List.set_cons_succ]
      refine take_ (i := 3) (N := some 12) (v := .int .u8 (n8 x)) #[true, true, true, true, false, false, false, false, false, false, false, false, false, false] rfl rfl (by kernel_rfl) (fun _ _ _ h => h) (Or.inl ⟨by rfl, fun w' hw' => by simp [go_sem, hw']⟩) c0 rfl ?_
      simp only [Act.put, List.setIfInBounds_toArray, List.set_cons_zero, List.set_cons_succ]
      refine pure_ (i := 4) (N := some 13) (v := .int .u8 (q : Int)) #[true, true, true, true, true, false, false, false, false, false, false, false, false, false] rfl rfl (by kernel_rfl) (fun _ _ _ h => h) (Or.inl ⟨by rfl, fun w' => by simp [go_sem, b4.1, b4.2, b4, h1, h2, hi1, hi2]⟩) rfl ?_
      simp only [Act.put, List.setIfInBounds_toArray, List.set_cons_zero, List.set_cons_succ]
      refine pure_ (i := 5) (N := some 14) (v := .int .u8 (n8 (hexC q))) #[true, true, true, true, true, true, false, false, false, false, false, false, false, false] rfl rfl (by kernel_rfl) (fun _ _ _ h => h) (Or.inl ⟨by rfl, fun w' => by simp [go_sem, b4.1, b4.2, b4, h1, h2, hi1, hi2]⟩) rfl ?_
      simp only [Act.put, List.setIfInBounds_toArray, List.set_cons_zero, List.set_cons_succ]
      refine pure_ (i := 6) (N := some 15) (v := .int .i64 j) #[true, true, true, true, true, true, true, false, false, false, false, false, false, false] rfl rfl (by kernel_rfl) (fun _ _ _ h => h) (Or.inl ⟨by rfl, fun w' => by simp [go_sem, b4.1, b4.2, b4, h1, h2, hi1, hi2]⟩) rfl ?_
      simp only [Act.put, List.setIfInBounds_toArray, List.set_cons_zero, List.set_cons_succ]
      refine pure_ (i := 7) (N := some 16) (v := .pointer (some ⟨B, j, none⟩)) #[true, true, true, true, true, true, true, true, false, false, false, false, false, false] rfl rfl (by kernel_rfl) (fun _ _ _ h => h) (Or.inl ⟨by rfl, fun w' => by simp [go_sem, b4.1, b4.2, b4, h1, h2, hi1, hi2]⟩) rfl ?_
      simp only [Act.put, List.setIfInBounds_toArray, List.set_cons_zero, List.set_cons_succ]
      refine take_ (i := 8) (N := some 17) (v := .int .u8 (n8 x)) #[true, true, true, true, true, true, true, true, true, false, false, false, false, false] rfl rfl (by kernel_rfl) (fun _ _ _ h => h) (Or.inl ⟨by rfl, fun w' hw' => by simp [go_sem, hw']⟩) c0 rfl ?_
      simp only [Act.put, List.setIfInBounds_toArray, List.set_cons_zero, List.set_cons_succ]
      refine pure_ (i := 9) (N := some 18) (v := .int .u8 (r : Int)) #[true, true, true, true, true, true, true, true, true, true, false, false, false, false] rfl rfl (by kernel_rfl) (fun _ _ _ h => h) (Or.inl ⟨by rfl, fun w' => by simp [go_sem, b4.1, b4.2, b4, h1, h2, hi1, hi2]⟩) rfl ?_
      simp only [Act.put, List.setIfInBounds_toArray, List.set_cons_zero, List.set_cons_succ]
      refine pure_ (i := 10) (N := some 19) (v := .int .u8 (n8 (hexC r))) #[true, true, true, true, true, true, true, true, true, true, true, false, false, false] rfl rfl (by kernel_rfl) (fun _ _ _ h => h) (Or.inl ⟨by rfl, fun w' => by simp [go_sem, b4.1, b4.2, b4, h1, h2, hi1, hi2]⟩) rfl ?_
      simp only [Act.put, List.setIfInBounds_toArray, List.set_cons_zero, List.set_cons_succ]
      refine last_of_seq [_, _, _] 11 _ _ _ (fun m => by match m with | 0 => rfl | 1 => rfl | 2 => rfl | m + 3 => exact (Array.getElem?_eq_none (by simp only [List.size_toArray, List.length_cons, List.length_nil]; omega)).symm) (fun m hm => by match m, hm with | 0, _ => simp | 1, _ => simp | 2, _ => simp) (by kernel_rfl) ?_
      clear c0 h1 h2 hi1 hi2
      have hlen := hexL_length (h.take j)
      have hlen2 : (h.take j).length = j := by rw [List.length_take, HL.out]; omega
      have HLEN := Aside0.mk (show (hexL (h.take j)).length ≤ 64 by omega)
      clear hlen hlen2
      go_wp2_with (with_reducible refine gate_dst (N := 21) rfl ?_; refine Aside0.out ?_)
      refine Aside0.mk ?_
      have hrow2 : Row (wr.drew.alloc (.cells #[.int .u8 (n8 (hexC q)), .int .u8 (n8 (hexC r))] 5)) wr.heap.size ([hexC q, hexC r].map cell) 5 := Row.alloc wr.drew ([hexC q, hexC r].map cell) 5
      have hR2 : ReadsInt (wr.drew.alloc (.cells #[.int .u8 (n8 (hexC q)), .int .u8 (n8 (hexC r))] 5)) .u8 (some ⟨wr.heap.size, 0, none⟩) 2 (ints [hexC q, hexC r]) :=
        ⟨rfl, by omega, fun _ => ⟨_, rfl, fun m hm => by
          rw [show (⟨wr.heap.size, 0, none⟩ : Addr).add m = ⟨wr.heap.size, m, none⟩ by unfold Addr.add; split <;> simp_all]
          refine hrow2.cell ?_
          have : m = 0 ∨ m = 1 := by omega
          rcases this with rfl | rfl <;> rfl⟩⟩
      refine print_append_row (B + 1) rfl _ _ 24 5 .u8 1 rfl Tryd.underlying24 info5 (by omega) vv (ints (hexL (h.take j))) (ints [hexC q, hexC r]) (some ⟨wr.heap.size, 0, none⟩) 2 2 rfl rfl (HO.out.drew.alloc _) hR2 ((HB.out.drew).alloc (by have := HS1.out; have := HB.out.size; show B + 1 ≤ wr.heap.size; omega) _) (by have := HS1.out; have := HB.out.size; simp; omega) (by rw [ints_length]; have := HLEN.out; omega) ?_
      intro v2 w2 hO2 hB2 hg2 hat2
      have HO2 := Aside0.mk hO2
      have HB2 := Aside0.mk hB2
      clear hO2 hB2 hg2 hat2 hR2 hrow2
      go_wp2
      go_roundw
      case rel => exact ⟨j + 1, _, by omega, rfl, by go_num, by rw [HX.out, ints, List.map_append]; exact HO2.out, HB2.out⟩
      case measure => simp [intOf]; omega
    · obtain rfl : j = 32 := by omega
      have htk : h.take 32 = h := List.take_of_length_le (by rw [HL.out]; omega)
      rw [htk] at HO
      have hcv := own_string (P := Tryd.prog) (src := 24) (dst := 9) Tryd.underlying24 Tryd.underlying5 Tryd.underlying9 HO.out
      go_wp2
      go_ret
      refine ⟨rfl, ?_⟩
      rw [← HBD.out]
      exact HB1.out.trans ⟨HB.out.os, HB.out.tape, HB.out.output, HB.out.size, fun k hk => HB.out.block k (by omega)⟩
end Go.Proofs.YtnkhhnfmijljbaaDoor
