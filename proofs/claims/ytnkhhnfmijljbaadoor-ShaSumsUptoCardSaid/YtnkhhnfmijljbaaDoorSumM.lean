/- (*sha.State).Sum: the digest of what the state has taken. -/
import Derived.Test.YtnkhhnfmijljbaaDoorSumA
set_option linter.unusedVariables false
set_option linter.unusedSimpArgs false
namespace Go.Proofs.YtnkhhnfmijljbaaDoor
open Go.RowKit Go.Proofs.YtnkhhnfmijljbaaDoorW.PrintWords Go.Proofs.YtnkhhnfmijljbaaDoorW.PrintLast Go.Proofs.YtnkhhnfmijljbaaDoorW.PrintMore
open Extern.Stop (cell)
attribute [local go_sem] u32_shr24 u32_shr16 u32_shr8 n32_byte

/-- a hash as a value -/
def hashV (h : List UInt8) : Value := .agg (h.map cell).toArray
def z8 (n : Nat) : List Value := List.replicate n (.int .u8 0)

theorem St.alloc {w : World} {g : Nat} {bs : List UInt8} {tk : Int} (h : St w g bs tk) (o : Obj) : St (w.alloc o) g bs tk := by
  obtain ⟨T, hT, hR⟩ := h
  exact ⟨T, hT, hR.alloc_other o⟩
theorem St.other {w : World} {g : Nat} {bs : List UInt8} {tk : Int} (h : St w g bs tk) (a : Addr) (v : Value) (hne : g ≠ a.block) : St (w.setCell a v) g bs tk := by
  obtain ⟨T, hT, hR⟩ := h
  exact ⟨T, hT, hR.other a v hne⟩
theorem St.lt {w : World} {g : Nat} {bs : List UInt8} {tk : Int} (h : St w g bs tk) : g < w.heap.size := by
  obtain ⟨T, hT, hR⟩ := h
  exact hR.lt
theorem St.held {w : World} {g : Nat} {bs : List UInt8} {tk : Int} (h : St w g bs tk) : w.cell? ⟨g, 72, none⟩ = some (.int .i64 ((bs.length % 64 : Nat) : Int)) := by
  obtain ⟨T, hT, hR⟩ := h
  exact hR.cell (stL_held _ _ _ _ hT)
theorem write1 (w : World) (e : Nat) (cs : List UInt8) (x : UInt8) (hK : KTab w) (hE : St w e cs cs.length) (hlen : cs.length + 1 < 4611686018427387904) :
    Calls Tryd.prog 20 #[.pointer (some ⟨e, 0, none⟩), .slice (some ⟨w.heap.size, 0, none⟩) 1 1] (w.alloc (.cells #[.int .u8 (n8 x)] 5)) (fun e' w' => e' = .returned (.tuple #[]) ∧ Only w e w' ∧ St w' e (cs ++ [x]) (cs ++ [x]).length) := by
  have hb : Below w.heap.size w (w.alloc (.cells #[.int .u8 (n8 x)] 5)) := Below.alloc (Below.refl _ _) (Nat.le_refl _) _
  refine (write_calls _ e cs (some ⟨w.heap.size, 0, none⟩) 1 [x] (hK.below hb hK.1) (hE.alloc _) (Bs.of_row (t := 5) (Row.alloc w ([x].map cell) 5) (by simp)) (Nat.le_refl _) (fun ad ha _ => by cases ha; have := hE.lt; show w.heap.size ≠ e; omega) (by simpa using hlen)).mono ?_
  rintro e' w' ⟨rfl, hO, hS⟩
  exact ⟨rfl, (Only.of_below e hb).trans hO, hS⟩

set_option maxHeartbeats 2000000 in
set_option maxRecDepth 100000 in
theorem sum_calls (w : World) (g : Nat) (bs : List UInt8) (hK : KTab w) (hS : St w g bs bs.length) (hlen : bs.length < 500000000000000000) :
    Calls Tryd.prog 21 #[.pointer (some ⟨g, 0, none⟩)] w (fun e w' => e = .returned (hashV (Spec.digest bs)) ∧ Below w.heap.size w w') := by
  have H4 : 4 < w.heap.size := hK.1
  obtain ⟨T, hT, hR⟩ := hS
  have ct := hR.cell (stL_taken _ _ _ _ hT)
  have HT := Aside0.mk hT
  have HR := Aside0.mk hR
  have HK := Aside0.mk hK
  have hz := zero76
  clear hR hT hK
  go_enter Tryd.func21, Tryd.ntmps21
  go_wp2_with (with_reducible refine gate_dst (N := 15) rfl ?_; refine Aside0.out ?_)
  refine Aside0.mk ?_
  obtain ⟨B, hBdef⟩ : ∃ B, B = w.heap.size := ⟨_, rfl⟩
  have HBD := Aside0.mk hBdef
  have H4B : 4 < B := by omega
  refine wpList_world (fun w1 => Below B w w1 ∧ w1.heap.size = B + 2 ∧ Row w1 B (z8 32) 28 ∧ Row w1 (B + 1) (z8 32) 28 ∧ Row w1 g (stL (Spec.wordsOf bs) (Spec.restOf bs ++ T) ((bs.length % 64 : Nat) : Int) bs.length) 76) ⟨?_, ?_, ?_, ?_, ?_⟩ ?_
  · rw [hBdef]; exact Below.alloc (Below.alloc (Below.refl _ _) (Nat.le_refl _) _) (by simp) _
  · simp [hBdef]
  · rw [hBdef]; exact (Row.alloc w (z8 32) 28).alloc_other _
  · rw [hBdef, show w.heap.size + 1 = (w.alloc (.cells (z8 32).toArray 28)).heap.size by simp]; exact Row.alloc _ (z8 32) 28
  · exact (HR.out.alloc_other _).alloc_other _
  rintro w1 ⟨hB1, hS1, hA1, hC1, hR1⟩
  have HB1 := Aside0.mk hB1
  have HS1 := Aside0.mk hS1
  have HA1 := Aside0.mk hA1
  have HC1 := Aside0.mk hC1
  have HR1 := Aside0.mk hR1
  clear hB1 hS1 hA1 hC1 hR1
  rw [← hBdef]
  clear hBdef H4
  refine wpList_load_row rfl 76 _ rfl g rfl 76 (stL (Spec.wordsOf bs) (Spec.restOf bs ++ T) ((bs.length % 64 : Nat) : Int) bs.length).toArray (0, 0) _ HR1.out Tryd.underlying76 rfl (stSize _ _ _ _ HT.out) ?_
  go_wp2_with (with_reducible change wpList _ _ _ (Oper.mk _ (Op.store 76 _ _) _ _ _ _ :: _) _ _; refine Aside0.out ?_)
  refine Aside0.mk ?_
  refine wpList_store_row rfl 76 _ _ rfl w1.heap.size (stL (Spec.wordsOf bs) (Spec.restOf bs ++ T) ((bs.length % 64 : Nat) : Int) bs.length).toArray rfl (by simp [go_sem]) 76 _ (heap_alloc_new _ _) (stSize _ _ _ _ HT.out) (by simp only [List.size_toArray, stL_length, HT.out]; rfl) (stOne _ _ _ _) ?_
  rw [HS1.out]
  refine wpList_world (fun w2 => Below B w w2 ∧ w2.heap.size = B + 3 ∧ Row w2 B (z8 32) 28 ∧ Row w2 (B + 1) (z8 32) 28 ∧ Row w2 g (stL (Spec.wordsOf bs) (Spec.restOf bs ++ T) ((bs.length % 64 : Nat) : Int) bs.length) 76 ∧ St w2 (B + 2) bs bs.length) ⟨?_, ?_, ?_, ?_, ?_, ?_⟩ ?_
  · exact Below.setRow (Below.alloc HB1.out (by rw [HS1.out]; omega) _) (by omega) _
  · simp [World.setRow, HS1.out]
  · unfold Row; rw [setRow_heap_other _ _ _ _ (by omega)]; exact HA1.out.alloc_other _
  · unfold Row; rw [setRow_heap_other _ _ _ _ (by omega)]; exact HC1.out.alloc_other _
  · unfold Row; rw [setRow_heap_other _ _ _ _ (by have := HR.out.lt; have := HBD.out; omega)]; exact HR1.out.alloc_other _
  · refine ⟨T, HT.out, ?_⟩
    have := alloc_setRow w1 (#[.int .u8 0]) (stL (Spec.wordsOf bs) (Spec.restOf bs ++ T) ((bs.length % 64 : Nat) : Int) bs.length) 76
    rw [← HS1.out]; exact alloc_setRow _ _ _ _
  rintro w2 ⟨hB2, hS2, hA2, hC2, hR2, hE2⟩
  have ct := hR2.cell (stL_taken _ _ _ _ HT.out)
  have HB2 := Aside0.mk hB2
  have HS2 := Aside0.mk hS2
  have HA2 := Aside0.mk hA2
  have HC2 := Aside0.mk hC2
  have HE2 := Aside0.mk hE2
  clear hB2 hS2 hA2 hC2 hR2 hE2
  go_wp2_with fail
  refine (write1 w2 (B + 2) bs 128 (HK.out.below HB2.out H4B) HE2.out (by omega)).mono ?_
  rintro e w3 ⟨rfl, hO3, hS3⟩
  have HB3 := Aside0.mk (below_only HB2.out hO3 (by omega) (by rw [HS2.out]; omega))
  have HA3 := Aside0.mk (hO3.row HA2.out (by omega))
  have HC3 := Aside0.mk (hO3.row HC2.out (by omega))
  have HS3 := Aside0.mk hS3
  clear hO3 hS3 ct
  go_wp2
  go_loopw [] (fun wr => ∃ z, z ≤ Spec.zerosFor bs.length ∧ Below B w wr ∧ Row wr B (z8 32) 28 ∧ Row wr (B + 1) (z8 32) 28 ∧ St wr (B + 2) (bs ++ [0x80] ++ List.replicate z 0) (bs ++ [0x80] ++ List.replicate z 0).length)
    (fun wr => bs.length + 1 + Spec.zerosFor bs.length - takenAt wr (B + 2))
  case atStart => exact ⟨0, by omega, HB3.out, HA3.out, HC3.out, by simpa using HS3.out⟩
  case round =>
    obtain ⟨z, hz, hB, hA, hC, hS⟩ := hrel
    have ch := hS.held
    have hzf : (bs ++ [0x80] ++ List.replicate z 0).length = bs.length + 1 + z := by simp; omega
    have hz2 : Spec.zerosFor bs.length = (119 - bs.length % 64) % 64 := rfl
    obtain ⟨h, hh⟩ : ∃ h, h = (bs ++ [0x80] ++ List.replicate z 0).length % 64 := ⟨_, rfl⟩
    rw [← hh] at ch
    rw [hzf] at hh
    have HZF := Aside0.mk hzf
    have HB := Aside0.mk hB
    have HA := Aside0.mk hA
    have HC := Aside0.mk hC
    have HS := Aside0.mk hS
    have HH := Aside0.mk hh
    have HZ2 := Aside0.mk hz2
    by_cases hlt : z < Spec.zerosFor bs.length
    · have hn56 : ¬ ((h : Int) = 56) := by omega
      clear hB hA hC hS hh hz2 hzf
      go_wp2_with fail
      refine (write1 wr (B + 2) _ 0 (HK.out.below HB.out H4B) HS.out (by rw [HZF.out]; have := HZ2.out; omega)).mono ?_
      rintro e w4 ⟨rfl, hO4, hS4⟩
      have HB4 := Aside0.mk (below_only HB.out hO4 (by omega) (by have := HB.out.size; have := HBD.out; omega))
      have HA4 := Aside0.mk (hO4.row HA.out (by omega))
      have HC4 := Aside0.mk (hO4.row HC.out (by omega))
      have HS4 := Aside0.mk hS4
      clear hO4 hS4 ch
      go_wp2
      go_roundw
      case rel =>
        refine ⟨z + 1, by omega, HB4.out, HA4.out, HC4.out, ?_⟩
        have h1 := HS4.out
        rwa [List.append_assoc (bs ++ [0x80]), ← List.replicate_succ'] at h1
      case measure =>
        rw [HS.out.takenAt, HS4.out.takenAt, List.length_append, HZF.out]
        simp; omega
    · have hn56 : h = 56 := by omega
      subst hn56
      obtain rfl : z = Spec.zerosFor bs.length := by omega
      clear hB hA hC hS hh hz2 hzf
      obtain ⟨P, hP⟩ : ∃ P, P = bs ++ [0x80] ++ List.replicate (Spec.zerosFor bs.length) 0 := ⟨_, rfl⟩
      have hPl : P.length = bs.length + 1 + Spec.zerosFor bs.length := by rw [hP]; exact HZF.out
      rw [← hP] at HS
      obtain ⟨D, hD⟩ : ∃ D, D = wr.heap.size := ⟨_, rfl⟩
      have hD3 : B + 3 ≤ D := by have := HS.out.lt; omega
      have HP := Aside0.mk hP
      have HPL := Aside0.mk hPl
      clear hP hPl
      go_wp2_with fail
      refine wp_world (fun w4 => Below B w w4 ∧ Row w4 B (z8 32) 28 ∧ Row w4 (B + 1) (z8 32) 28 ∧ St w4 (B + 2) P P.length ∧ Row w4 D (sizeL (8 * bs.length) 0) 80) ⟨?_, ?_, ?_, ?_, ?_⟩ ?_
      · exact Below.alloc HB.out (by omega) _
      · exact HA.out.alloc_other _
      · exact HC.out.alloc_other _
      · exact HS.out.alloc _
      · rw [hD]; exact Row.alloc wr (z8 8) 80
      rintro w4 ⟨hB4, hA4, hC4, hS4, hD4⟩
      have HB4 := Aside0.mk hB4
      have HA4 := Aside0.mk hA4
      have HC4 := Aside0.mk hC4
      have HS4 := Aside0.mk hS4
      have HD4 := Aside0.mk hD4
      rw [← hD]
      clear hB4 hA4 hC4 hS4 hD4 hD
      go_loopw [29] (fun i wq => ∃ j : Nat, j ≤ 8 ∧ i = .int .i64 j ∧ Below B w wq ∧ Row wq B (z8 32) 28 ∧ Row wq (B + 1) (z8 32) 28 ∧ St wq (B + 2) P P.length ∧ Row wq D (sizeL (8 * bs.length) j) 80)
        (fun i _ => 8 - (intOf i).toNat)
      case atStart => exact ⟨0, by omega, rfl, HB4.out, HA4.out, HC4.out, HS4.out, HD4.out⟩
      case round =>
        obtain ⟨j, hj, rfl, hB, hA, hC, hS, hR⟩ := hrel
        by_cases hj8 : j < 8
        · obtain ⟨y, hy⟩ : ∃ y, (sizeL (8 * bs.length) j)[j]? = some y := ⟨_, List.getElem?_eq_getElem (by rw [sizeL_length _ _ hj]; exact hj8)⟩
          have cw := hR.cell hy
          have cf := hR.free j
          have b4 : (0 : Int) ≤ j ∧ (j : Int) < 8 := by omega
          have b5 : ¬ ((56 : Int) - 8 * j < 0) := by omega
          have HB5 := Aside0.mk hB
          have HA5 := Aside0.mk hA
          have HC5 := Aside0.mk hC
          have HS5 := Aside0.mk hS
          have HR5 := Aside0.mk hR
          clear hB hA hC hS hR hy
          go_wp2_with fail
          rw [show (8 * (bs.length : Int)) = ((8 * bs.length : Nat) : Int) by simp, byteOf]
          refine ⟨⟨j + 1, by omega, by simp, HB5.out.setCell (p := ⟨D, j, none⟩) (by show B ≤ D; omega) _, HA5.out.other _ _ (by show B ≠ D; omega), HC5.out.other _ _ (by show B + 1 ≠ D; omega), HS5.out.other _ _ (by show B + 2 ≠ D; omega), ?_⟩, by simp [intOf]; omega⟩
          rw [← sizeL_set _ j hj8]
          exact HR5.out.set j _
        · obtain rfl : j = 8 := by omega
          have hD8 := hR
          rw [sizeL_8] at hD8
          have HB5 := Aside0.mk hB
          have HA5 := Aside0.mk hA
          have HC5 := Aside0.mk hC
          have HS5 := Aside0.mk hS
          have HD8 := Aside0.mk hD8
          clear hB hA hC hS hR hD8
          go_wp2_with fail
          refine (write_calls wr (B + 2) P (some ⟨D, 0, none⟩) 8 (Spec.be64 (8 * bs.length)) (HK.out.below HB5.out H4B) HS5.out (Bs.of_row HD8.out (by simp [Spec.be64])) (Nat.le_refl _) (fun ad ha _ => by cases ha; show D ≠ B + 2; omega) (by rw [HPL.out]; have := HZ2.out; show _ + 8 < _; omega)).mono ?_
          rintro e w5 ⟨rfl, hO5, hS5⟩
          have hpad : P ++ Spec.be64 (8 * bs.length) = Spec.padded bs := by rw [HP.out]; rfl
          rw [hpad] at hS5
          obtain ⟨V, hV⟩ : ∃ V, V = Spec.wordsOf (Spec.padded bs) := ⟨_, rfl⟩
          obtain ⟨T5, hT5, hR5⟩ := hS5
          rw [← hV] at hR5
          have HV := Aside0.mk hV
          have HVR : Aside0 (w5.rangeAt (B + 2) 0 (V.list.map u)) := Aside0.mk fun j x hx => by
            refine hR5.cell ?_
            rw [stL, Nat.zero_add, List.getElem?_append_left (List.getElem?_eq_some_iff.1 hx).1]; exact hx
          have HB6 := Aside0.mk (below_only HB5.out hO5 (by omega) (by have := HB5.out.size; have := HBD.out; omega))
          have HA6 := Aside0.mk (hO5.row HA5.out (by omega))
          have HC6 := Aside0.mk (show Row w5 (B + 1) (hashL V 0) 28 from hO5.row HC5.out (by omega))
          clear hO5 hT5 hR5 hpad hV
          go_wp2_with (with_reducible refine gate_dst (N := 44) rfl ?_; refine Aside0.out ?_)
          refine Aside0.mk ?_
          refine wpList_load_mid rfl 71 _ rfl (B + 2) 0 rfl (V.list.map u) _ HVR.out Tryd.underlying71 rfl (by kernel_rfl) ?_
          go_wp2_with fail
          go_loopw [45] (fun i wq => ∃ j : Nat, j ≤ 8 ∧ i = .int .i64 j ∧ Below B w wq ∧ Row wq B (z8 32) 28 ∧ Row wq (B + 1) (hashL V j) 28)
            (fun i _ => 8 - (intOf i).toNat)
          case atStart => exact ⟨0, by omega, rfl, HB6.out, HA6.out, HC6.out⟩
          case round =>
            obtain ⟨j, hj, rfl, hB, hA, hR⟩ := hrel
            by_cases hj8 : j < 8
            · obtain ⟨x, hx⟩ : ∃ x, x = V.list.getD j 0 := ⟨_, rfl⟩
              have hix := run_index_row (P := Tryd.prog) 71 53 8 _ Tryd.underlying71 Tryd.underlying53 rfl (fun w => by kernel_rfl) (V.list.map u).toArray j (.int .u32 (n32 x)) hj8 (by
                have hl : j < V.list.length := hj8
                rw [hx, List.getElem?_toArray, List.getElem?_map, List.getD, List.getElem?_eq_getElem hl]; rfl) wr
              obtain ⟨y0, hy0⟩ := hashL_some V j (4 * j) hj (by omega)
              obtain ⟨y1, hy1⟩ := hashL_some V j (4 * j + 1) hj (by omega)
              obtain ⟨y2, hy2⟩ := hashL_some V j (4 * j + 2) hj (by omega)
              obtain ⟨y3, hy3⟩ := hashL_some V j (4 * j + 3) hj (by omega)
              have c0 := hR.cell hy0
              have c1 := hR.cell hy1
              have c2 := hR.cell hy2
              have c3 := hR.cell hy3
              have f0 := hR.free (4 * j)
              have f1 := hR.free (4 * j + 1)
              have f2 := hR.free (4 * j + 2)
              have f3 := hR.free (4 * j + 3)
              have HB7 := Aside0.mk hB
              have HA7 := Aside0.mk hA
              have HR7 := Aside0.mk hR
              have HX := Aside0.mk hx
              have b4 : (0 : Int) ≤ j ∧ (j : Int) < 8 := by omega
              clear hB hA hR hy0 hy1 hy2 hy3 hx
              go_wp2_with fail
              have hle : B ≤ B + 1 := by omega
              have hne : B ≠ B + 1 := by omega
              refine ⟨⟨j + 1, by omega, by simp, (((HB7.out.setCell (p := ⟨B + 1, 4 * j, none⟩) hle _).setCell (p := ⟨B + 1, 4 * j + 1, none⟩) hle _).setCell (p := ⟨B + 1, 4 * j + 2, none⟩) hle _).setCell (p := ⟨B + 1, 4 * j + 3, none⟩) hle _, (((HA7.out.other _ _ hne).other _ _ hne).other _ _ hne).other _ _ hne, ?_⟩, by simp [intOf]; omega⟩
              rw [← hashL_set V j hj8 x HX.out]
              exact (((HR7.out.set _ _).set _ _).set _ _).set _ _
            · obtain rfl : j = 8 := by omega
              have HB7 := Aside0.mk hB
              have HA7 := Aside0.mk hA
              have HR7 := Aside0.mk hR
              clear hB hA hR
              go_wp2_with (with_reducible refine gate_dst (N := 76) rfl ?_; refine Aside0.out ?_)
              refine Aside0.mk ?_
              refine wpList_load_row rfl 28 _ rfl (B + 1) rfl 28 (V.bytes.map cell).toArray (0, 0) _ HR7.out Tryd.underlying28 rfl (by kernel_rfl) ?_
              go_wp2_with (with_reducible change wpList _ _ _ (Oper.mk _ (Op.store 28 _ _) _ _ _ _ :: _) _ _; refine Aside0.out ?_)
              refine Aside0.mk ?_
              refine wpList_store_row rfl 28 _ _ rfl B (V.bytes.map cell).toArray rfl (by simp [go_sem]) 28 _ HA7.out (by kernel_rfl) rfl (oneCells _) ?_
              go_wp2
              (try simp only [Exit.inBlock, Exit.then])
              refine bodyPost_ret (results_cell_row rfl _ _ B 28 (V.bytes.map cell).toArray (0, 0) _ rfl (setRow_heap _ _ _ _ _ _ HA7.out) Tryd.underlying28 rfl (by kernel_rfl)) rfl ?_
              refine ⟨by rw [HV.out]; rfl, ?_⟩
              rw [← HBD.out]
              exact Below.setRow HB7.out (Nat.le_refl _) _
end Go.Proofs.YtnkhhnfmijljbaaDoor
