/- Parts of the proof: (*sha.State).Sum: the digest of what the state has taken. sha.Sum: the digest of parts, one behind the other; the sum of a state that is none. The sum of a state that is none; a hash's digits. cairnlaw02.awake: true: the program knows the published sums. cairnlaw02.ShaKnown: true. From the rows' lists of package-level variables to the tables that the contracts ask for. -/
import Derived.Test.YtnkhhnfmijljbaaDoorZExacta
import Derived.BigRegion
import Derived.Lib.LaidTab
set_option linter.unusedVariables false
set_option linter.unusedSimpArgs false
namespace Go.Proofs.YtnkhhnfmijljbaaDoor
open Go.RowKit Go.Proofs.YtnkhhnfmijljbaaDoorW.PrintWords Go.Proofs.YtnkhhnfmijljbaaDoorW.PrintLast Go.Proofs.YtnkhhnfmijljbaaDoorW.PrintMore
open Extern.Stop (cell)
attribute [local go_sem] u32_shr24 u32_shr16 u32_shr8 n32_byte

/-- a hash as a value -/
def hashV (h : List UInt8) : Value := .agg (h.map cell).toArray
def z8 (n : Nat) : List Value := List.replicate n (.int .u8 0)

theorem St.alloc {w : World} {g : Nat} {bs : List UInt8} {tk : Int} (h : St w g bs tk) (o : Obj) : St (w.alloc o) g bs tk := by
  obtain ⟨T, hT, hR⟩ := h
  exact ⟨T, hT, hR.alloc_other o⟩
theorem St.other {w : World} {g : Nat} {bs : List UInt8} {tk : Int} (h : St w g bs tk) (a : Addr) (v : Value) (hne : g ≠ a.block) : St (w.setCell a v) g bs tk := by
  obtain ⟨T, hT, hR⟩ := h
  exact ⟨T, hT, hR.other a v hne⟩
theorem St.lt {w : World} {g : Nat} {bs : List UInt8} {tk : Int} (h : St w g bs tk) : g < w.heap.size := by
  obtain ⟨T, hT, hR⟩ := h
  exact hR.lt
theorem St.held {w : World} {g : Nat} {bs : List UInt8} {tk : Int} (h : St w g bs tk) : w.cell? ⟨g, 72, none⟩ = some (.int .i64 ((bs.length % 64 : Nat) : Int)) := by
  obtain ⟨T, hT, hR⟩ := h
  exact hR.cell (stL_held _ _ _ _ hT)
theorem write1 (w : World) (e : Nat) (cs : List UInt8) (x : UInt8) (hK : KTab w) (hE : St w e cs cs.length) (hlen : cs.length + 1 < 4611686018427387904) :
    Calls Tryd.prog 20 #[.pointer (some ⟨e, 0, none⟩), .slice (some ⟨w.heap.size, 0, none⟩) 1 1] (w.alloc (.cells #[.int .u8 (n8 x)] 5)) (fun e' w' => e' = .returned (.tuple #[]) ∧ Only w e w' ∧ St w' e (cs ++ [x]) (cs ++ [x]).length) := by
  have hb : Below w.heap.size w (w.alloc (.cells #[.int .u8 (n8 x)] 5)) := Below.alloc (Below.refl _ _) (Nat.le_refl _) _
  refine (write_calls _ e cs (some ⟨w.heap.size, 0, none⟩) 1 [x] (hK.below hb hK.1) (hE.alloc _) (Bs.of_row (t := 5) (Row.alloc w ([x].map cell) 5) (by simp)) (Nat.le_refl _) (fun ad ha _ => by cases ha; have := hE.lt; show w.heap.size ≠ e; omega) (by simpa using hlen)).mono ?_
  rintro e' w' ⟨rfl, hO, hS⟩
  exact ⟨rfl, (Only.of_below e hb).trans hO, hS⟩

set_option maxHeartbeats 2000000 in
set_option maxRecDepth 100000 in
theorem sum_calls (w : World) (g : Nat) (bs : List UInt8) (hK : KTab w) (hS : St w g bs bs.length) (hlen : bs.length < 500000000000000000) :
    Calls Tryd.prog 21 #[.pointer (some ⟨g, 0, none⟩)] w (fun e w' => e = .returned (hashV (Spec.digest bs)) ∧ Below w.heap.size w w') := by
  have H4 : 4 < w.heap.size := hK.1
  obtain ⟨T, hT, hR⟩ := hS
  have ct := hR.cell (stL_taken _ _ _ _ hT)
  have HT := Aside0.mk hT
  have HR := Aside0.mk hR
  have HK := Aside0.mk hK
  have hz := zero76
  clear hR hT hK
  go_enter Tryd.func21, Tryd.ntmps21
  go_wp2_with (with_reducible refine gate_dst (N := 15) rfl ?_; refine Aside0.out ?_)
  refine Aside0.mk ?_
  obtain ⟨B, hBdef⟩ : ∃ B, B = w.heap.size := ⟨_, rfl⟩
  have HBD := Aside0.mk hBdef
  have H4B : 4 < B := by omega
  refine wpList_world (fun w1 => Below B w w1 ∧ w1.heap.size = B + 2 ∧ Row w1 B (z8 32) 28 ∧ Row w1 (B + 1) (z8 32) 28 ∧ Row w1 g (stL (Spec.wordsOf bs) (Spec.restOf bs ++ T) ((bs.length % 64 : Nat) : Int) bs.length) 76) ⟨?_, ?_, ?_, ?_, ?_⟩ ?_
  · rw [hBdef]; exact Below.alloc (Below.alloc (Below.refl _ _) (Nat.le_refl _) _) (by simp) _
  · simp [hBdef]
  · rw [hBdef]; exact (Row.alloc w (z8 32) 28).alloc_other _
  · rw [hBdef, show w.heap.size + 1 = (w.alloc (.cells (z8 32).toArray 28)).heap.size by simp]; exact Row.alloc _ (z8 32) 28
  · exact (HR.out.alloc_other _).alloc_other _
  rintro w1 ⟨hB1, hS1, hA1, hC1, hR1⟩
  have HB1 := Aside0.mk hB1
  have HS1 := Aside0.mk hS1
  have HA1 := Aside0.mk hA1
  have HC1 := Aside0.mk hC1
  have HR1 := Aside0.mk hR1
  clear hB1 hS1 hA1 hC1 hR1
  rw [← hBdef]
  clear hBdef H4
  refine wpList_load_row rfl 76 _ rfl g rfl 76 (stL (Spec.wordsOf bs) (Spec.restOf bs ++ T) ((bs.length % 64 : Nat) : Int) bs.length).toArray (0, 0) _ HR1.out Tryd.underlying76 rfl (stSize _ _ _ _ HT.out) ?_
  go_wp2_with (with_reducible change wpList _ _ _ (Oper.mk _ (Op.store 76 _ _) _ _ _ _ :: _) _ _; refine Aside0.out ?_)
  refine Aside0.mk ?_
  refine wpList_store_row rfl 76 _ _ rfl w1.heap.size (stL (Spec.wordsOf bs) (Spec.restOf bs ++ T) ((bs.length % 64 : Nat) : Int) bs.length).toArray rfl (by simp [go_sem]) 76 _ (heap_alloc_new _ _) (stSize _ _ _ _ HT.out) (by simp only [List.size_toArray, stL_length, HT.out]; rfl) (stOne _ _ _ _) ?_
  rw [HS1.out]
  refine wpList_world (fun w2 => Below B w w2 ∧ w2.heap.size = B + 3 ∧ Row w2 B (z8 32) 28 ∧ Row w2 (B + 1) (z8 32) 28 ∧ Row w2 g (stL (Spec.wordsOf bs) (Spec.restOf bs ++ T) ((bs.length % 64 : Nat) : Int) bs.length) 76 ∧ St w2 (B + 2) bs bs.length) ⟨?_, ?_, ?_, ?_, ?_, ?_⟩ ?_
  · exact Below.setRow (Below.alloc HB1.out (by rw [HS1.out]; omega) _) (by omega) _
  · simp [World.setRow, HS1.out]
  · unfold Row; rw [setRow_heap_other _ _ _ _ (by omega)]; exact HA1.out.alloc_other _
  · unfold Row; rw [setRow_heap_other _ _ _ _ (by omega)]; exact HC1.out.alloc_other _
  · unfold Row; rw [setRow_heap_other _ _ _ _ (by have := HR.out.lt; have := HBD.out; omega)]; exact HR1.out.alloc_other _
  · refine ⟨T, HT.out, ?_⟩
    have := alloc_setRow w1 (#[.int .u8 0]) (stL (Spec.wordsOf bs) (Spec.restOf bs ++ T) ((bs.length % 64 : Nat) : Int) bs.length) 76
    rw [← HS1.out]; exact alloc_setRow _ _ _ _
  rintro w2 ⟨hB2, hS2, hA2, hC2, hR2, hE2⟩
  have ct := hR2.cell (stL_taken _ _ _ _ HT.out)
  have HB2 := Aside0.mk hB2
  have HS2 := Aside0.mk hS2
  have HA2 := Aside0.mk hA2
  have HC2 := Aside0.mk hC2
  have HE2 := Aside0.mk hE2
  clear hB2 hS2 hA2 hC2 hR2 hE2
  go_wp2_with fail
  refine (write1 w2 (B + 2) bs 128 (HK.out.below HB2.out H4B) HE2.out (by omega)).mono ?_
  rintro e w3 ⟨rfl, hO3, hS3⟩
  have HB3 := Aside0.mk (below_only HB2.out hO3 (by omega) (by rw [HS2.out]; omega))
  have HA3 := Aside0.mk (hO3.row HA2.out (by omega))
  have HC3 := Aside0.mk (hO3.row HC2.out (by omega))
  have HS3 := Aside0.mk hS3
  clear hO3 hS3 ct
  go_wp2
  go_loopw [] (fun wr => ∃ z, z ≤ Spec.zerosFor bs.length ∧ Below B w wr ∧ Row wr B (z8 32) 28 ∧ Row wr (B + 1) (z8 32) 28 ∧ St wr (B + 2) (bs ++ [0x80] ++ List.replicate z 0) (bs ++ [0x80] ++ List.replicate z 0).length)
    (fun wr => bs.length + 1 + Spec.zerosFor bs.length - takenAt wr (B + 2))
  case atStart => exact ⟨0, by omega, HB3.out, HA3.out, HC3.out, by simpa using HS3.out⟩
  case round =>
    obtain ⟨z, hz, hB, hA, hC, hS⟩ := hrel
    have ch := hS.held
    have hzf : (bs ++ [0x80] ++ List.replicate z 0).length = bs.length + 1 + z := by simp; omega
    have hz2 : Spec.zerosFor bs.length = (119 - bs.length % 64) % 64 := rfl
    obtain ⟨h, hh⟩ : ∃ h, h = (bs ++ [0x80] ++ List.replicate z 0).length % 64 := ⟨_, rfl⟩
    rw [← hh] at ch
    rw [hzf] at hh
    have HZF := Aside0.mk hzf
    have HB := Aside0.mk hB
    have HA := Aside0.mk hA
    have HC := Aside0.mk hC
    have HS := Aside0.mk hS
    have HH := Aside0.mk hh
    have HZ2 := Aside0.mk hz2
    by_cases hlt : z < Spec.zerosFor bs.length
    · have hn56 : ¬ ((h : Int) = 56) := by omega
      clear hB hA hC hS hh hz2 hzf
      go_wp2_with fail
      refine (write1 wr (B + 2) _ 0 (HK.out.below HB.out H4B) HS.out (by rw [HZF.out]; have := HZ2.out; omega)).mono ?_
      rintro e w4 ⟨rfl, hO4, hS4⟩
      have HB4 := Aside0.mk (below_only HB.out hO4 (by omega) (by have := HB.out.size; have := HBD.out; omega))
      have HA4 := Aside0.mk (hO4.row HA.out (by omega))
      have HC4 := Aside0.mk (hO4.row HC.out (by omega))
      have HS4 := Aside0.mk hS4
      clear hO4 hS4 ch
      go_wp2
      go_roundw
      case rel =>
        refine ⟨z + 1, by omega, HB4.out, HA4.out, HC4.out, ?_⟩
        have h1 := HS4.out
        rwa [List.append_assoc (bs ++ [0x80]), ← List.replicate_succ'] at h1
      case measure =>
        rw [HS.out.takenAt, HS4.out.takenAt, List.length_append, HZF.out]
        simp; omega
    · have hn56 : h = 56 := by omega
      subst hn56
      obtain rfl : z = Spec.zerosFor bs.length := by omega
      clear hB hA hC hS hh hz2 hzf
      obtain ⟨P, hP⟩ : ∃ P, P = bs ++ [0x80] ++ List.replicate (Spec.zerosFor bs.length) 0 := ⟨_, rfl⟩
      have hPl : P.length = bs.length + 1 + Spec.zerosFor bs.length := by rw [hP]; exact HZF.out
      rw [← hP] at HS
      obtain ⟨D, hD⟩ : ∃ D, D = wr.heap.size := ⟨_, rfl⟩
      have hD3 : B + 3 ≤ D := by have := HS.out.lt; omega
      have HP := Aside0.mk hP
      have HPL := Aside0.mk hPl
      clear hP hPl
      go_wp2_with fail
      refine wp_world (fun w4 => Below B w w4 ∧ Row w4 B (z8 32) 28 ∧ Row w4 (B + 1) (z8 32) 28 ∧ St w4 (B + 2) P P.length ∧ Row w4 D (sizeL (8 * bs.length) 0) 80) ⟨?_, ?_, ?_, ?_, ?_⟩ ?_
      · exact Below.alloc HB.out (by omega) _
      · exact HA.out.alloc_other _
      · exact HC.out.alloc_other _
      · exact HS.out.alloc _
      · rw [hD]; exact Row.alloc wr (z8 8) 80
      rintro w4 ⟨hB4, hA4, hC4, hS4, hD4⟩
      have HB4 := Aside0.mk hB4
      have HA4 := Aside0.mk hA4
      have HC4 := Aside0.mk hC4
      have HS4 := Aside0.mk hS4
      have HD4 := Aside0.mk hD4
      rw [← hD]
      clear hB4 hA4 hC4 hS4 hD4 hD
      go_loopw [29] (fun i wq => ∃ j : Nat, j ≤ 8 ∧ i = .int .i64 j ∧ Below B w wq ∧ Row wq B (z8 32) 28 ∧ Row wq (B + 1) (z8 32) 28 ∧ St wq (B + 2) P P.length ∧ Row wq D (sizeL (8 * bs.length) j) 80)
        (fun i _ => 8 - (intOf i).toNat)
      case atStart => exact ⟨0, by omega, rfl, HB4.out, HA4.out, HC4.out, HS4.out, HD4.out⟩
      case round =>
        obtain ⟨j, hj, rfl, hB, hA, hC, hS, hR⟩ := hrel
        by_cases hj8 : j < 8
        · obtain ⟨y, hy⟩ : ∃ y, (sizeL (8 * bs.length) j)[j]? = some y := ⟨_, List.getElem?_eq_getElem (by rw [sizeL_length _ _ hj]; exact hj8)⟩
          have cw := hR.cell hy
          have cf := hR.free j
          have b4 : (0 : Int) ≤ j ∧ (j : Int) < 8 := by omega
          have b5 : ¬ ((56 : Int) - 8 * j < 0) := by omega
          have HB5 := Aside0.mk hB
          have HA5 := Aside0.mk hA
          have HC5 := Aside0.mk hC
          have HS5 := Aside0.mk hS
          have HR5 := Aside0.mk hR
          clear hB hA hC hS hR hy
          go_wp2_with fail
          rw [show (8 * (bs.length : Int)) = ((8 * bs.length : Nat) : Int) by simp, byteOf]
          refine ⟨⟨j + 1, by omega, by simp, HB5.out.setCell (p := ⟨D, j, none⟩) (by show B ≤ D; omega) _, HA5.out.other _ _ (by show B ≠ D; omega), HC5.out.other _ _ (by show B + 1 ≠ D; omega), HS5.out.other _ _ (by show B + 2 ≠ D; omega), ?_⟩, by simp [intOf]; omega⟩
          rw [← sizeL_set _ j hj8]
          exact HR5.out.set j _
        · obtain rfl : j = 8 := by omega
          have hD8 := hR
          rw [sizeL_8] at hD8
          have HB5 := Aside0.mk hB
          have HA5 := Aside0.mk hA
          have HC5 := Aside0.mk hC
          have HS5 := Aside0.mk hS
          have HD8 := Aside0.mk hD8
          clear hB hA hC hS hR hD8
          go_wp2_with fail
          refine (write_calls wr (B + 2) P (some ⟨D, 0, none⟩) 8 (Spec.be64 (8 * bs.length)) (HK.out.below HB5.out H4B) HS5.out (Bs.of_row HD8.out (by simp [Spec.be64])) (Nat.le_refl _) (fun ad ha _ => by cases ha; show D ≠ B + 2; omega) (by rw [HPL.out]; have := HZ2.out; show _ + 8 < _; omega)).mono ?_
          rintro e w5 ⟨rfl, hO5, hS5⟩
          have hpad : P ++ Spec.be64 (8 * bs.length) = Spec.padded bs := by rw [HP.out]; rfl
          rw [hpad] at hS5
          obtain ⟨V, hV⟩ : ∃ V, V = Spec.wordsOf (Spec.padded bs) := ⟨_, rfl⟩
          obtain ⟨T5, hT5, hR5⟩ := hS5
          rw [← hV] at hR5
          have HV := Aside0.mk hV
          have HVR : Aside0 (w5.rangeAt (B + 2) 0 (V.list.map u)) := Aside0.mk fun j x hx => by
            refine hR5.cell ?_
            rw [stL, Nat.zero_add, List.getElem?_append_left (List.getElem?_eq_some_iff.1 hx).1]; exact hx
          have HB6 := Aside0.mk (below_only HB5.out hO5 (by omega) (by have := HB5.out.size; have := HBD.out; omega))
          have HA6 := Aside0.mk (hO5.row HA5.out (by omega))
          have HC6 := Aside0.mk (show Row w5 (B + 1) (hashL V 0) 28 from hO5.row HC5.out (by omega))
          clear hO5 hT5 hR5 hpad hV
          go_wp2_with (with_reducible refine gate_dst (N := 44) rfl ?_; refine Aside0.out ?_)
          refine Aside0.mk ?_
          refine wpList_load_mid rfl 71 _ rfl (B + 2) 0 rfl (V.list.map u) _ HVR.out Tryd.underlying71 rfl (by kernel_rfl) ?_
          go_wp2_with fail
          go_loopw [45] (fun i wq => ∃ j : Nat, j ≤ 8 ∧ i = .int .i64 j ∧ Below B w wq ∧ Row wq B (z8 32) 28 ∧ Row wq (B + 1) (hashL V j) 28)
            (fun i _ => 8 - (intOf i).toNat)
          case atStart => exact ⟨0, by omega, rfl, HB6.out, HA6.out, HC6.out⟩
          case round =>
            obtain ⟨j, hj, rfl, hB, hA, hR⟩ := hrel
            by_cases hj8 : j < 8
            · obtain ⟨x, hx⟩ : ∃ x, x = V.list.getD j 0 := ⟨_, rfl⟩
              have hix := run_index_row (P := Tryd.prog) 71 53 8 _ Tryd.underlying71 Tryd.underlying53 rfl (fun w => by kernel_rfl) (V.list.map u).toArray j (.int .u32 (n32 x)) hj8 (by
                have hl : j < V.list.length := hj8
                rw [hx, List.getElem?_toArray, List.getElem?_map, List.getD, List.getElem?_eq_getElem hl]; rfl) wr
              obtain ⟨y0, hy0⟩ := hashL_some V j (4 * j) hj (by omega)
              obtain ⟨y1, hy1⟩ := hashL_some V j (4 * j + 1) hj (by omega)
              obtain ⟨y2, hy2⟩ := hashL_some V j (4 * j + 2) hj (by omega)
              obtain ⟨y3, hy3⟩ := hashL_some V j (4 * j + 3) hj (by omega)
              have c0 := hR.cell hy0
              have c1 := hR.cell hy1
              have c2 := hR.cell hy2
              have c3 := hR.cell hy3
              have f0 := hR.free (4 * j)
              have f1 := hR.free (4 * j + 1)
              have f2 := hR.free (4 * j + 2)
              have f3 := hR.free (4 * j + 3)
              have HB7 := Aside0.mk hB
              have HA7 := Aside0.mk hA
              have HR7 := Aside0.mk hR
              have HX := Aside0.mk hx
              have b4 : (0 : Int) ≤ j ∧ (j : Int) < 8 := by omega
              clear hB hA hR hy0 hy1 hy2 hy3 hx
              go_wp2_with fail
              have hle : B ≤ B + 1 := by omega
              have hne : B ≠ B + 1 := by omega
              refine ⟨⟨j + 1, by omega, by simp, (((HB7.out.setCell (p := ⟨B + 1, 4 * j, none⟩) hle _).setCell (p := ⟨B + 1, 4 * j + 1, none⟩) hle _).setCell (p := ⟨B + 1, 4 * j + 2, none⟩) hle _).setCell (p := ⟨B + 1, 4 * j + 3, none⟩) hle _, (((HA7.out.other _ _ hne).other _ _ hne).other _ _ hne).other _ _ hne, ?_⟩, by simp [intOf]; omega⟩
              rw [← hashL_set V j hj8 x HX.out]
              exact (((HR7.out.set _ _).set _ _).set _ _).set _ _
            · obtain rfl : j = 8 := by omega
              have HB7 := Aside0.mk hB
              have HA7 := Aside0.mk hA
              have HR7 := Aside0.mk hR
              clear hB hA hR
              go_wp2_with (with_reducible refine gate_dst (N := 76) rfl ?_; refine Aside0.out ?_)
              refine Aside0.mk ?_
              refine wpList_load_row rfl 28 _ rfl (B + 1) rfl 28 (V.bytes.map cell).toArray (0, 0) _ HR7.out Tryd.underlying28 rfl (by kernel_rfl) ?_
              go_wp2_with (with_reducible change wpList _ _ _ (Oper.mk _ (Op.store 28 _ _) _ _ _ _ :: _) _ _; refine Aside0.out ?_)
              refine Aside0.mk ?_
              refine wpList_store_row rfl 28 _ _ rfl B (V.bytes.map cell).toArray rfl (by simp [go_sem]) 28 _ HA7.out (by kernel_rfl) rfl (oneCells _) ?_
              go_wp2
              (try simp only [Exit.inBlock, Exit.then])
              refine bodyPost_ret (results_cell_row rfl _ _ B 28 (V.bytes.map cell).toArray (0, 0) _ rfl (setRow_heap _ _ _ _ _ _ HA7.out) Tryd.underlying28 rfl (by kernel_rfl)) rfl ?_
              refine ⟨by rw [HV.out]; rfl, ?_⟩
              rw [← HBD.out]
              exact Below.setRow HB7.out (Nat.le_refl _) _
end Go.Proofs.YtnkhhnfmijljbaaDoor
set_option linter.unusedVariables false
set_option linter.unusedSimpArgs false
namespace Go.Proofs.YtnkhhnfmijljbaaDoor
open Go.RowKit Go.Proofs.YtnkhhnfmijljbaaDoorW.PrintWords Go.Proofs.YtnkhhnfmijljbaaDoorW.PrintLast Go.Proofs.YtnkhhnfmijljbaaDoorW.PrintMore
open Extern.Stop (cell)

/-- the slice (A, n) holds the slices of bytes ps -/
def Bss (w : World) (A : Option Addr) (n : Nat) (ps : List (List UInt8)) : Prop := (Kd.slice 5 (Kd.int .u8)).C w A n (ps.map ints)
theorem Bss.len {w : World} {A : Option Addr} {n : Nat} {ps : List (List UInt8)} (h : Bss w A n ps) : n = ps.length := by have := Kd.C_len h; rw [List.length_map] at this; exact this.symm
theorem Bss.max {w : World} {A : Option Addr} {n : Nat} {ps : List (List UInt8)} (h : Bss w A n ps) : n ≤ 9223372036854775807 := Kd.C_max h
theorem Bss.below {w w' : World} {A : Option Addr} {n : Nat} {ps : List (List UInt8)} (h : Bss w A n ps) (hb : Below w.heap.size w w') : Bss w' A n ps := Kd.C_below h hb
theorem Bss.at_ {w : World} {A : Option Addr} {n : Nat} {ps : List (List UInt8)} (h : Bss w A n ps) (i : Nat) (hi : i < n) :
    ∃ ad A' c', A = some ad ∧ w.cell? (ad.add i) = some (.slice A' (ps.getD i []).length c') ∧ (ps.getD i []).length ≤ c' ∧ Bs w A' (ps.getD i []).length (ps.getD i []) := by
  obtain ⟨ad, c, hA, _, ⟨A', c', rfl, hc, hC⟩, hcell⟩ := Kd.C_get h ([] : List Int) (i : Int) (by omega) (by exact_mod_cast hi)
  have hl := h.len
  have e : (ps.map ints).getD (i : Int).toNat [] = ints (ps.getD i []) := by
    have hi' : i < ps.length := by omega
    simp [List.getD, hi']
  rw [e, ints_length] at hC hc
  have := hcell 0 _ rfl
  rw [e, ints_length] at this
  refine ⟨ad, A', c', hA, ?_, hc, hC⟩
  rw [← this]
  congr 2
  show i = (i : Int).toNat * 1 + 0
  omega

set_option maxHeartbeats 1000000 in
set_option maxRecDepth 100000 in
theorem shaSum_calls (w : World) (A : Option Addr) (c : Nat) (ps : List (List UInt8)) (hK : KTab w) (hF : FTab w) (hx : Bss w A ps.length ps) (hlen : ps.flatten.length < 500000000000000000) :
    Calls Tryd.prog 16 #[.slice A ps.length c] w (fun e w' => e = .returned (hashV (Spec.digest ps.flatten)) ∧ Below w.heap.size w w') := by
  obtain ⟨B, hBdef⟩ : ∃ B, B = w.heap.size := ⟨_, rfl⟩
  have H4 : 4 < B := by have := hK.1; omega
  have HBD := Aside0.mk hBdef
  have HK := Aside0.mk hK
  have HF := Aside0.mk hF
  have HX := Aside0.mk hx
  have hmax := hx.max
  clear hK hF hx
  go_enter Tryd.func16, Tryd.ntmps16
  go_wp2_with fail
  have hb0 : Below w.heap.size w (w.alloc (.cells (z8 32).toArray 28)) := Below.alloc (Below.refl _ _) (Nat.le_refl _) _
  refine (new_calls _ (HF.out.below hb0 (by omega))).mono ?_
  rintro e w1 ⟨rfl, hB1, hS1, hSt1⟩
  have hz1 : (w.alloc (.cells (z8 32).toArray 28)).heap.size = B + 1 := by simp [hBdef]
  have HB1 := Aside0.mk (show Below B w w1 by rw [hBdef]; exact below_step hb0 hB1)
  have HR1 := Aside0.mk (show Row w1 B (z8 32) 28 by rw [hBdef]; exact (Row.alloc w (z8 32) 28).below hB1 (by simp))
  rw [hz1] at hSt1 ⊢
  have HST1 := Aside0.mk hSt1
  rw [← hBdef]
  clear hb0 hB1 hS1 hSt1 hz1 hBdef
  go_wp2_with fail
  go_loopw [9] (fun i wr => ∃ k : Nat, k ≤ ps.length ∧ i = .int .i64 k ∧ Below B w wr ∧ Row wr B (z8 32) 28 ∧ St wr (B + 1) (ps.take k).flatten (ps.take k).flatten.length)
    (fun i _ => ps.length - (intOf i).toNat)
  case atStart => exact ⟨0, by omega, rfl, HB1.out, HR1.out, HST1.out⟩
  case round =>
    obtain ⟨k, hk, rfl, hB, hR, hS⟩ := hrel
    have hxw := HX.out.below (show Below w.heap.size w wr by rw [← HBD.out]; exact hB)
    have hfl : (ps.take k).flatten.length ≤ ps.flatten.length := by
      conv => rhs; rw [← List.take_append_drop k ps, List.flatten_append, List.length_append]
      omega
    by_cases hlt : k < ps.length
    · obtain ⟨ad, A', c', rfl, hcell, hc', hbs⟩ := hxw.at_ k hlt
      have hnx : (ps.take (k + 1)).flatten = (ps.take k).flatten ++ ps.getD k [] := by
        rw [List.take_succ_eq_append_getElem hlt, List.flatten_append]
        simp [List.getD, hlt]
      have hfl1 : (ps.take (k + 1)).flatten.length ≤ ps.flatten.length := by
        conv => rhs; rw [← List.take_append_drop (k + 1) ps, List.flatten_append, List.length_append]
        omega
      obtain ⟨p, hp⟩ : ∃ p, p = ps.getD k [] := ⟨_, rfl⟩
      rw [← hp] at hcell hc' hbs hnx
      obtain ⟨cs, hcs⟩ : ∃ cs, cs = (ps.take k).flatten := ⟨_, rfl⟩
      rw [← hcs] at hS hnx hfl
      have hlen2 : cs.length + p.length < 4611686018427387904 := by rw [hnx, List.length_append] at hfl1; omega
      have hne : ∀ a, A' = some a → 0 < p.length → a.block ≠ B + 1 := by
        intro a ha hp0
        have hold : Bs w A' p.length p := by
          obtain ⟨ad2, A2, c2, h1, h2, h3, h4⟩ := HX.out.at_ k hlt
          cases h1
          have e := (hB.cell (p := ad.add k) (by
            have := Go.World.block_lt_of_cell? _ _ h2
            rw [HBD.out]; exact this)).symm.trans hcell
          rw [← hp] at h2 h4
          rw [h2] at e
          cases e
          exact h4
        obtain ⟨ad3, h5, h6⟩ := hold.cells hp0
        rw [ha] at h5
        cases h5
        have h7 := Go.World.block_lt_of_cell? _ _ (h6 0 _ (by rw [List.getElem?_map, List.getElem?_eq_getElem hp0]; rfl))
        rw [add_block, ← HBD.out] at h7
        omega
      have HB2 := Aside0.mk hB
      have HR2 := Aside0.mk hR
      have HS2 := Aside0.mk hS
      have HNX := Aside0.mk hnx
      have HBS := Aside0.mk hbs
      have HC := Aside0.mk hc'
      have HNE := Aside0.mk hne
      have HP := Aside0.mk hp
      have HLN := Aside0.mk hlen2
      have HCS := Aside0.mk hcs
      clear hB hR hS hnx hbs hc' hne hfl hfl1 hcs hxw hp
      go_wp2_with fail
      refine (write_calls wr (B + 1) cs A' c' p (HK.out.below HB2.out H4) HS2.out HBS.out HC.out HNE.out hlen2).mono ?_
      rintro e w2 ⟨rfl, hO, hS⟩
      have HB3 := Aside0.mk (below_only HB2.out hO (by omega) (by have := HB2.out.size; have := HBD.out; omega))
      have HR3 := Aside0.mk (hO.row HR2.out (by omega))
      have HS3 := Aside0.mk hS
      clear hO hS
      go_wp2
      go_roundw
      case rel => exact ⟨k + 1, by omega, by simp, HB3.out, HR3.out, by rw [HNX.out]; exact HS3.out⟩
      case measure => simp [intOf]; omega
    · obtain rfl : k = ps.length := by omega
      rw [List.take_of_length_le (Nat.le_refl _)] at hS
      have HB2 := Aside0.mk hB
      have HR2 := Aside0.mk hR
      have HS2 := Aside0.mk hS
      clear hB hR hS hxw
      go_wp2_with fail
      refine (sum_calls wr (B + 1) ps.flatten (HK.out.below HB2.out H4) HS2.out hlen).mono ?_
      rintro e w2 ⟨rfl, hB3⟩
      have HB3 := Aside0.mk (show Below B w w2 from (HB2.out.trans ⟨hB3.os, hB3.tape, hB3.output, hB3.size, fun k hk => hB3.block k (by have := HB2.out.size; have := HBD.out; omega)⟩))
      have HR3 := Aside0.mk (HR2.out.below hB3 HR2.out.lt)
      clear hB3
      go_wp2_with (with_reducible change wpList _ _ _ (Oper.mk _ (Op.store 28 _ _) _ _ _ _ :: _) _ _; refine Aside0.out ?_)
      refine Aside0.mk ?_
      refine wpList_store_row rfl 28 _ _ rfl B ((Spec.digest ps.flatten).map cell).toArray rfl (by simp [go_sem, hashV]) 28 _ HR3.out (by kernel_rfl) rfl (oneCells _) ?_
      go_wp2
      (try simp only [Exit.inBlock, Exit.then])
      refine bodyPost_ret (results_cell_row rfl _ _ B 28 ((Spec.digest ps.flatten).map cell).toArray (0, 0) _ rfl (setRow_heap _ _ _ _ _ _ HR3.out) Tryd.underlying28 rfl (by kernel_rfl)) rfl ?_
      refine ⟨rfl, ?_⟩
      rw [← HBD.out]
      exact Below.setRow HB3.out (Nat.le_refl _) _
end Go.Proofs.YtnkhhnfmijljbaaDoor
set_option linter.unusedVariables false
set_option linter.unusedSimpArgs false
namespace Go.Proofs.YtnkhhnfmijljbaaDoor
open Go.RowKit Go.Proofs.YtnkhhnfmijljbaaDoorW.PrintWords Go.Proofs.YtnkhhnfmijljbaaDoorW.PrintLast Go.Proofs.YtnkhhnfmijljbaaDoorW.PrintMore
open Extern.Stop (cell)

def zeroHash : List UInt8 := List.replicate 32 0
set_option maxHeartbeats 1000000 in
set_option maxRecDepth 100000 in
theorem sum_none (w : World) : Calls Tryd.prog 21 #[.pointer none] w (fun e w' => e = .returned (hashV zeroHash) ∧ Below w.heap.size w w') := by
  obtain ⟨B, hBdef⟩ : ∃ B, B = w.heap.size := ⟨_, rfl⟩
  have HBD := Aside0.mk hBdef
  go_enter Tryd.func21, Tryd.ntmps21
  go_wp2_with (with_reducible refine gate_dst (N := 12) rfl ?_; refine Aside0.out ?_)
  refine Aside0.mk ?_
  refine wpList_world (fun w1 => Below B w w1 ∧ Row w1 B (z8 32) 28 ∧ Row w1 (B + 1) (z8 32) 28) ⟨?_, ?_, ?_⟩ ?_
  · rw [hBdef]; exact Below.alloc (Below.alloc (Below.refl _ _) (Nat.le_refl _) _) (by simp) _
  · rw [hBdef]; exact (Row.alloc w (z8 32) 28).alloc_other _
  · rw [hBdef, show w.heap.size + 1 = (w.alloc (.cells (z8 32).toArray 28)).heap.size by simp]; exact Row.alloc _ (z8 32) 28
  rintro w1 ⟨hB1, hA1, hC1⟩
  have HB1 := Aside0.mk hB1
  have HA1 := Aside0.mk hA1
  have HC1 := Aside0.mk hC1
  rw [← hBdef]
  clear hBdef hB1 hA1 hC1
  refine wpList_load_row rfl 28 _ rfl (B + 1) rfl 28 (zeroHash.map cell).toArray (0, 0) _ HC1.out Tryd.underlying28 rfl (by kernel_rfl) ?_
  go_wp2_with (with_reducible change wpList _ _ _ (Oper.mk _ (Op.store 28 _ _) _ _ _ _ :: _) _ _; refine Aside0.out ?_)
  refine Aside0.mk ?_
  refine wpList_store_row rfl 28 _ _ rfl B (zeroHash.map cell).toArray rfl (by simp [go_sem]) 28 _ HA1.out (by kernel_rfl) rfl (oneCells _) ?_
  go_wp2
  (try simp only [Exit.inBlock, Exit.then])
  refine bodyPost_ret (results_cell_row rfl _ _ B 28 (zeroHash.map cell).toArray (0, 0) _ rfl (setRow_heap _ _ _ _ _ _ HA1.out) Tryd.underlying28 rfl (by kernel_rfl)) rfl ?_
  refine ⟨rfl, ?_⟩
  rw [← HBD.out]
  exact Below.setRow HB1.out (Nat.le_refl _) _

/-- a digit's byte -/
def hexC (n : Nat) : UInt8 := ([48, 49, 50, 51, 52, 53, 54, 55, 56, 57, 97, 98, 99, 100, 101, 102] : List UInt8).getD n 0
def hexL (h : List UInt8) : List UInt8 := h.flatMap fun (b : UInt8) => [hexC (b >>> 4).toNat, hexC (b &&& 15).toNat]
/-- what is left of a region comes up in one order only, and nothing is to be shown behind it: the walk of the list -/
theorem last_of_seq {P : Program} {md : Region.Mode} {ops : Array Oper} {Q : Exit → Act → World → Prop} {S : World → Prop} {ds : List Nat} : ∀ (l : List Oper) (k : Nat) (listed : Array Bool) (a : Act) (w : World), (∀ j, l[j]? = ops[k + j]?) → (∀ j, j < l.length → k + j ∈ ds) →
    Region.seqB md ops l.length k listed = true → wpList P ops Q l a w → wpAnyLast P md ops Q S ds l.length listed a w
  | [], _, _, _, _, _, _, hB, h => ⟨by simpa [Region.seqB] using hB, h⟩
  | o :: l, k, listed, a, w, hl, hd, hB, h => by
    have h0 : ops[k]? = some o := by simpa using (hl 0).symm
    simp only [List.length_cons, Region.seqB, Bool.and_eq_true, decide_eq_true_eq] at hB
    refine ⟨fun h1 => (by rw [hB.1] at h1; cases h1), fun i hi => ?_⟩
    rw [hB.1, List.mem_singleton] at hi
    subst hi
    have hw : wpOp P ops Q i (wpList P ops Q l) a w := by unfold wpOp; simp only [h0]; exact h
    have hi0 : i ∈ ds := by simpa using hd 0 (by simp)
    refine wpOp_mono (fun a' w' h' => ⟨fun hn => absurd hi0 hn, ?_⟩) hw
    exact last_of_seq l (i + 1) _ a' w' (fun j => by have := hl (j + 1); simpa [Nat.add_assoc, Nat.add_comm 1 j] using this) (fun j hj => by have := hd (j + 1) (by simp; omega); simpa [Nat.add_assoc, Nat.add_comm 1 j] using this) hB.2 h'
theorem info5 : (Tryd.prog.info? 5).map (fun i => (i.zero, i.size, i.bytes)) = some (some (.int .u8 0), 1, 1) := by kernel_rfl
theorem strIdx (q : Nat) (hq : q < 16) (w : World) : (Instr.index 9 (.string { data := #[48, 49, 50, 51, 52, 53, 54, 55, 56, 57, 97, 98, 99, 100, 101, 102] }) (.int .u8 (q : Int))).run Tryd.prog w = .ok (.int .u8 (n8 (hexC q))) w := by
  have h : q = 0 ∨ q = 1 ∨ q = 2 ∨ q = 3 ∨ q = 4 ∨ q = 5 ∨ q = 6 ∨ q = 7 ∨ q = 8 ∨ q = 9 ∨ q = 10 ∨ q = 11 ∨ q = 12 ∨ q = 13 ∨ q = 14 ∨ q = 15 := by omega
  rcases h with rfl | rfl | rfl | rfl | rfl | rfl | rfl | rfl | rfl | rfl | rfl | rfl | rfl | rfl | rfl | rfl <;> rfl
theorem n8_hi (x : UInt8) : n8 x / (16 : Int) = ((x >>> 4).toNat : Int) := by
  unfold n8
  rw [UInt8.toNat_shiftRight, Nat.shiftRight_eq_div_pow]
  show _ = ((x.toNat / 16 : Nat) : Int)
  simp
theorem n8_lo (x : UInt8) : bits .and .u8 (n8 x) (15 : Int) = ((x &&& 15).toNat : Int) := bits_u8_and x 15
theorem hi_lt (x : UInt8) : (x >>> 4).toNat < 16 := by
  rw [UInt8.toNat_shiftRight, Nat.shiftRight_eq_div_pow]
  have := x.toNat_lt
  show x.toNat / 16 < 16
  omega
theorem lo_lt (x : UInt8) : (x &&& 15).toNat < 16 := by
  rw [UInt8.toNat_and]
  exact Nat.lt_of_le_of_lt Nat.and_le_right (by decide)
theorem hexL_length (h : List UInt8) : (hexL h).length = 2 * h.length := by
  induction h with
  | nil => rfl
  | cons a h ih => simp [hexL] at ih ⊢; omega
theorem hexL_snoc (h : List UInt8) (x : UInt8) : hexL (h ++ [x]) = hexL h ++ [hexC (x >>> 4).toNat, hexC (x &&& 15).toNat] := by simp [hexL]
theorem take_snoc (h : List UInt8) (j : Nat) (hj : j < h.length) : h.take (j + 1) = h.take j ++ [h.getD j 0] := by
  rw [List.take_succ_eq_append_getElem hj]; simp [List.getD, hj]
set_option maxHeartbeats 1000000 in
set_option maxRecDepth 100000 in
theorem digits_calls (w : World) (h : List UInt8) (hl : h.length = 32) : Calls Tryd.prog 23 #[hashV h] w (fun e w' => e = .returned (.string (strOfNums (ints (hexL h)))) ∧ Below w.heap.size w w') := by
  obtain ⟨B, hBdef⟩ : ∃ B, B = w.heap.size := ⟨_, rfl⟩
  have HBD := Aside0.mk hBdef
  have hsz : (h.map cell).toArray.size = 32 := by simp [hl]
  have HL := Aside0.mk hl
  unfold hashV
  go_enter Tryd.func23, Tryd.ntmps23
  go_wp2_with fail
  refine wp_world (fun w1 => Below B w w1 ∧ w1.heap.size = B + 1 ∧ Row w1 B (h.map cell) 28) ⟨?_, ?_, ?_⟩ ?_
  · rw [hBdef]; exact Below.alloc (Below.refl _ _) (Nat.le_refl _) _
  · simp [hBdef]
  · rw [hBdef]; exact Row.alloc w _ 28
  rintro w1 ⟨hB1, hS1, hR1⟩
  have HB1 := Aside0.mk hB1
  have HS1 := Aside0.mk hS1
  have HR1 := Aside0.mk hR1
  rw [← hBdef]
  clear hBdef hB1 hS1 hR1 hsz hl
  go_loopw [3, 4] (fun v i wr => ∃ (j : Nat) (vv : Value), j ≤ 32 ∧ vv = v ∧ i = .int .i64 j ∧ wr.ownsRow (B + 1) 5 1 vv (ints (hexL (h.take j))).length (nums .u8 (ints (hexL (h.take j)))) ∧ Below (B + 1) w1 wr)
    (fun _ i _ => 32 - (intOf i).toNat)
  case atStart => exact ⟨0, _, by omega, rfl, rfl, own_nil _ _ _ _, Below.refl _ _⟩
  case round =>
    obtain ⟨j, vv, hj, rfl, rfl, hO, hB⟩ := hrel
    have HO := Aside0.mk hO
    have HB := Aside0.mk hB
    clear hO hB
    by_cases hlt : j < 32
    · have hR := HR1.out.below HB.out (by omega : B < B + 1)
      obtain ⟨x, hx⟩ : ∃ x, x = h.getD j 0 := ⟨_, rfl⟩
      have c0 : wr.cell? ⟨B, j, none⟩ = some (.int .u8 (n8 x)) := hR.cell (by
        have hj' : j < h.length := by rw [HL.out]; exact hlt
        rw [hx]; simp [List.getD, hj', cell, n8])
      obtain ⟨q, hq⟩ : ∃ q, q = (x >>> 4).toNat := ⟨_, rfl⟩
      obtain ⟨r, hr⟩ : ∃ r, r = (x &&& 15).toNat := ⟨_, rfl⟩
      have h1 := n8_hi x
      have h2 := n8_lo x
      rw [← hq] at h1
      rw [← hr] at h2
      have hi1 := strIdx q (by rw [hq]; exact hi_lt x)
      have hi2 := strIdx r (by rw [hr]; exact lo_lt x)
      have b4 : (0 : Int) ≤ j ∧ (j : Int) < 32 := by omega
      have HX := Aside0.mk (show hexL (h.take (j + 1)) = hexL (h.take j) ++ [hexC q, hexC r] by rw [take_snoc h j (by rw [HL.out]; exact hlt), hexL_snoc, ← hx, hq, hr])
      clear hR hx hq hr
      go_wp2_with fail
      refine start_ (n := 14) (S := fun w' => w'.cell? ⟨B, j, none⟩ = some (.int .u8 (n8 x))) (ds := [11, 12, 13]) #[false, false, false, false, false, false, false, false, false, false, false, false, false, false] (by kernel_rfl) rfl rfl c0 (fun _ => ?_)
      refine pure_ (i := 0) (N := some 9) (v := vv) #[true, false, false, false, false, false, false, false, false, false, false, false, false, false] rfl rfl (by kernel_rfl) (fun _ _ _ h => h) (Or.inl ⟨by rfl, fun w' => by simp [go_sem, b4.1, b4.2, b4, h1, h2, hi1, hi2]⟩) rfl ?_
      simp only [Act.put, List.setIfInBounds_toArray, List.set_cons_zero, List.set_cons_succ]
      refine pure_ (i := 1) (N := some 10) (v := .int .i64 j) #[true, true, false, false, false, false, false, false, false, false, false, false, false, false] rfl rfl (by kernel_rfl) (fun _ _ _ h => h) (Or.inl ⟨by rfl, fun w' => by simp [go_sem, b4.1, b4.2, b4, h1, h2, hi1, hi2]⟩) rfl ?_
      simp only [Act.put, List.setIfInBounds_toArray, List.set_cons_zero, List.set_cons_succ]
      refine pure_ (i := 2) (N := some 11) (v := .pointer (some ⟨B, j, none⟩)) #[true, true, true, false, false, false, false, false, false, false, false, false, false, false] rfl rfl (by kernel_rfl) (fun _ _ _ h => h) (Or.inl ⟨by rfl, fun w' => by simp [go_sem, b4.1, b4.2, b4, h1, h2, hi1, hi2]⟩) rfl ?_
      simp only [Act.put, List.setIfInBounds_toArray, List.set_cons_zero, List.set_cons_succ]
      refine take_ (i := 3) (N := some 12) (v := .int .u8 (n8 x)) #[true, true, true, true, false, false, false, false, false, false, false, false, false, false] rfl rfl (by kernel_rfl) (fun _ _ _ h => h) (Or.inl ⟨by rfl, fun w' hw' => by simp [go_sem, hw']⟩) c0 rfl ?_
      simp only [Act.put, List.setIfInBounds_toArray, List.set_cons_zero, List.set_cons_succ]
      refine pure_ (i := 4) (N := some 13) (v := .int .u8 (q : Int)) #[true, true, true, true, true, false, false, false, false, false, false, false, false, false] rfl rfl (by kernel_rfl) (fun _ _ _ h => h) (Or.inl ⟨by rfl, fun w' => by simp [go_sem, b4.1, b4.2, b4, h1, h2, hi1, hi2]⟩) rfl ?_
      simp only [Act.put, List.setIfInBounds_toArray, List.set_cons_zero, List.set_cons_succ]
      refine pure_ (i := 5) (N := some 14) (v := .int .u8 (n8 (hexC q))) #[true, true, true, true, true, true, false, false, false, false, false, false, false, false] rfl rfl (by kernel_rfl) (fun _ _ _ h => h) (Or.inl ⟨by rfl, fun w' => by simp [go_sem, b4.1, b4.2, b4, h1, h2, hi1, hi2]⟩) rfl ?_
      simp only [Act.put, List.setIfInBounds_toArray, List.set_cons_zero, List.set_cons_succ]
      refine pure_ (i := 6) (N := some 15) (v := .int .i64 j) #[true, true, true, true, true, true, true, false, false, false, false, false, false, false] rfl rfl (by kernel_rfl) (fun _ _ _ h => h) (Or.inl ⟨by rfl, fun w' => by simp [go_sem, b4.1, b4.2, b4, h1, h2, hi1, hi2]⟩) rfl ?_
      simp only [Act.put, List.setIfInBounds_toArray, List.set_cons_zero, List.set_cons_succ]
      refine pure_ (i := 7) (N := some 16) (v := .pointer (some ⟨B, j, none⟩)) #[true, true, true, true, true, true, true, true, false, false, false, false, false, false] rfl rfl (by kernel_rfl) (fun _ _ _ h => h) (Or.inl ⟨by rfl, fun w' => by simp [go_sem, b4.1, b4.2, b4, h1, h2, hi1, hi2]⟩) rfl ?_
      simp only [Act.put, List.setIfInBounds_toArray, List.set_cons_zero, List.set_cons_succ]
      refine take_ (i := 8) (N := some 17) (v := .int .u8 (n8 x)) #[true, true, true, true, true, true, true, true, true, false, false, false, false, false] rfl rfl (by kernel_rfl) (fun _ _ _ h => h) (Or.inl ⟨by rfl, fun w' hw' => by simp [go_sem, hw']⟩) c0 rfl ?_
      simp only [Act.put, List.setIfInBounds_toArray, List.set_cons_zero, List.set_cons_succ]
      refine pure_ (i := 9) (N := some 18) (v := .int .u8 (r : Int)) #[true, true, true, true, true, true, true, true, true, true, false, false, false, false] rfl rfl (by kernel_rfl) (fun _ _ _ h => h) (Or.inl ⟨by rfl, fun w' => by simp [go_sem, b4.1, b4.2, b4, h1, h2, hi1, hi2]⟩) rfl ?_
      simp only [Act.put, List.setIfInBounds_toArray, List.set_cons_zero, List.set_cons_succ]
      refine pure_ (i := 10) (N := some 19) (v := .int .u8 (n8 (hexC r))) #[true, true, true, true, true, true, true, true, true, true, true, false, false, false] rfl rfl (by kernel_rfl) (fun _ _ _ h => h) (Or.inl ⟨by rfl, fun w' => by simp [go_sem, b4.1, b4.2, b4, h1, h2, hi1, hi2]⟩) rfl ?_
      simp only [Act.put, List.setIfInBounds_toArray, List.set_cons_zero, List.set_cons_succ]
      refine last_of_seq [_, _, _] 11 _ _ _ (fun m => by match m with | 0 => rfl | 1 => rfl | 2 => rfl | m + 3 => exact (Array.getElem?_eq_none (by simp only [List.size_toArray, List.length_cons, List.length_nil]; omega)).symm) (fun m hm => by match m, hm with | 0, _ => simp | 1, _ => simp | 2, _ => simp) (by kernel_rfl) ?_
      clear c0 h1 h2 hi1 hi2
      have hlen := hexL_length (h.take j)
      have hlen2 : (h.take j).length = j := by rw [List.length_take, HL.out]; omega
      have HLEN := Aside0.mk (show (hexL (h.take j)).length ≤ 64 by omega)
      clear hlen hlen2
      go_wp2_with (with_reducible refine gate_dst (N := 21) rfl ?_; refine Aside0.out ?_)
      refine Aside0.mk ?_
      have hrow2 : Row (wr.drew.alloc (.cells #[.int .u8 (n8 (hexC q)), .int .u8 (n8 (hexC r))] 5)) wr.heap.size ([hexC q, hexC r].map cell) 5 := Row.alloc wr.drew ([hexC q, hexC r].map cell) 5
      have hR2 : ReadsInt (wr.drew.alloc (.cells #[.int .u8 (n8 (hexC q)), .int .u8 (n8 (hexC r))] 5)) .u8 (some ⟨wr.heap.size, 0, none⟩) 2 (ints [hexC q, hexC r]) :=
        ⟨rfl, by omega, fun _ => ⟨_, rfl, fun m hm => by
          rw [show (⟨wr.heap.size, 0, none⟩ : Addr).add m = ⟨wr.heap.size, m, none⟩ by unfold Addr.add; split <;> simp_all]
          refine hrow2.cell ?_
          have : m = 0 ∨ m = 1 := by omega
          rcases this with rfl | rfl <;> rfl⟩⟩
      refine print_append_row (B + 1) rfl _ _ 24 5 .u8 1 rfl Tryd.underlying24 info5 (by omega) vv (ints (hexL (h.take j))) (ints [hexC q, hexC r]) (some ⟨wr.heap.size, 0, none⟩) 2 2 rfl rfl (HO.out.drew.alloc _) hR2 ((HB.out.drew).alloc (by have := HS1.out; have := HB.out.size; show B + 1 ≤ wr.heap.size; omega) _) (by have := HS1.out; have := HB.out.size; simp; omega) (by rw [ints_length]; have := HLEN.out; omega) ?_
      intro v2 w2 hO2 hB2 hg2 hat2
      have HO2 := Aside0.mk hO2
      have HB2 := Aside0.mk hB2
      clear hO2 hB2 hg2 hat2 hR2 hrow2
      go_wp2
      go_roundw
      case rel => exact ⟨j + 1, _, by omega, rfl, by go_num, by rw [HX.out, ints, List.map_append]; exact HO2.out, HB2.out⟩
      case measure => simp [intOf]; omega
    · obtain rfl : j = 32 := by omega
      have htk : h.take 32 = h := List.take_of_length_le (by rw [HL.out]; omega)
      rw [htk] at HO
      have hcv := own_string (P := Tryd.prog) (src := 24) (dst := 9) Tryd.underlying24 Tryd.underlying5 Tryd.underlying9 HO.out
      go_wp2
      go_ret
      refine ⟨rfl, ?_⟩
      rw [← HBD.out]
      exact HB1.out.trans ⟨HB.out.os, HB.out.tape, HB.out.output, HB.out.size, fun k hk => HB.out.block k (by omega)⟩
end Go.Proofs.YtnkhhnfmijljbaaDoor
set_option linter.unusedVariables false
set_option linter.unusedSimpArgs false
namespace Go.Proofs.YtnkhhnfmijljbaaDoor
open Go.RowKit Go.Proofs.YtnkhhnfmijljbaaDoorW.PrintWords Go.Proofs.YtnkhhnfmijljbaaDoorW.PrintLast Go.Proofs.YtnkhhnfmijljbaaDoorW.PrintMore
open Extern.Stop (cell)

def knownB : List (List UInt8) := [[], [97, 98, 99], [97, 98, 99, 100, 98, 99, 100, 101, 99, 100, 101, 102, 100, 101, 102, 103, 101, 102, 103, 104, 102, 103, 104, 105, 103, 104, 105, 106, 104, 105, 106, 107, 105, 106, 107, 108, 106, 107, 108, 109, 107, 108, 109, 110, 108, 109, 110, 111, 109, 110, 111, 112, 110, 111, 112, 113]]
def sumsB : List (List UInt8) := [
  [101, 51, 98, 48, 99, 52, 52, 50, 57, 56, 102, 99, 49, 99, 49, 52, 57, 97, 102, 98, 102, 52, 99, 56, 57, 57, 54, 102, 98, 57, 50, 52, 50, 55, 97, 101, 52, 49, 101, 52, 54, 52, 57, 98, 57, 51, 52, 99, 97, 52, 57, 53, 57, 57, 49, 98, 55, 56, 53, 50, 98, 56, 53, 53],
  [98, 97, 55, 56, 49, 54, 98, 102, 56, 102, 48, 49, 99, 102, 101, 97, 52, 49, 52, 49, 52, 48, 100, 101, 53, 100, 97, 101, 50, 50, 50, 51, 98, 48, 48, 51, 54, 49, 97, 51, 57, 54, 49, 55, 55, 97, 57, 99, 98, 52, 49, 48, 102, 102, 54, 49, 102, 50, 48, 48, 49, 53, 97, 100],
  [50, 52, 56, 100, 54, 97, 54, 49, 100, 50, 48, 54, 51, 56, 98, 56, 101, 53, 99, 48, 50, 54, 57, 51, 48, 99, 51, 101, 54, 48, 51, 57, 97, 51, 51, 99, 101, 52, 53, 57, 54, 52, 102, 102, 50, 49, 54, 55, 102, 54, 101, 99, 101, 100, 100, 52, 49, 57, 100, 98, 48, 54, 99, 49]]
def strB (l : List UInt8) : ByteArray := ⟨l.toArray⟩
set_option maxRecDepth 100000 in
theorem sums_ok (j : Nat) (hj : j < 3) : hexL (Spec.digest (knownB.getD j [])) = sumsB.getD j [] := by
  have h : j = 0 ∨ j = 1 ∨ j = 2 := by omega
  rcases h with rfl | rfl | rfl <;> decide +kernel
/-- the tables of messages and sums lie where the program keeps them -/
structure LTab (w : World) : Prop where
  lt : 1 < w.heap.size
  known : w.rangeAt 0 0 (knownB.map fun l => .string (strB l))
  sums : w.rangeAt 1 0 (sumsB.map fun l => .string (strB l))
theorem LTab.below {w w' : World} {B : Nat} (h : LTab w) (hb : Below B w w') (hB : 1 < B) : LTab w' :=
  ⟨Nat.lt_of_lt_of_le h.lt hb.size, fun j v hv => by rw [cell_block (a := ⟨0, 0 + j, none⟩) (hb.block 0 (by omega))]; exact h.known j v hv, fun j v hv => by rw [cell_block (a := ⟨1, 0 + j, none⟩) (hb.block 1 hB)]; exact h.sums j v hv⟩
theorem strB_size (l : List UInt8) : (strB l).size = l.length := by show l.toArray.size = _; simp
theorem bytesOf_strB (l : List UInt8) : bytesOf (strB l) = ints l := by
  simp [bytesOf, strB, ints]
  exact fun a _ => rfl
theorem Bs.of_bytes (W : World) (m : List UInt8) (hl : m.length ≤ 9223372036854775807) : Bs (Lib.bytesWorld W 5 (strB m)) (some ⟨W.heap.size, 0, none⟩) m.length m := by
  have h := bytes_reads W 5 (strB m) (by rw [strB_size]; exact hl)
  rw [strB_size, bytesOf_strB] at h
  exact Kd.C_of_reads (h1 := fun _ => rfl) (d := (0 : Int)) h
theorem Bss.of_row {w : World} {b : Nat} {t : TypeId} {ls : List (Option Addr × Nat × List UInt8)} (h : Row w b (ls.map fun l => .slice l.1 l.2.2.length l.2.1) t) (hr : ∀ l ∈ ls, l.2.2.length ≤ l.2.1 ∧ Bs w l.1 l.2.2.length l.2.2) (hmax : ls.length ≤ 9223372036854775807) :
    Bss w (some ⟨b, 0, none⟩) ls.length (ls.map (·.2.2)) := by
  refine ⟨by simp, hmax, fun _ => ⟨_, rfl, fun j p hj => ?_⟩⟩
  obtain ⟨hjl, hp⟩ := List.getElem?_eq_some_iff.1 hj
  have hjl' : j < ls.length := by simpa using hjl
  obtain ⟨h1, h2⟩ := hr ls[j] (List.getElem_mem _)
  have hpe : p = ints ls[j].2.2 := by rw [← hp]; simp
  subst hpe
  refine ⟨[.slice ls[j].1 ls[j].2.2.length ls[j].2.1], rfl, ⟨ls[j].1, ls[j].2.1, by rw [ints_length], by rw [ints_length]; exact h1, by rw [ints_length]; exact h2⟩, fun i u hu => ?_⟩
  have hi : i = 0 := by
    have := (List.getElem?_eq_some_iff.1 hu).1
    simpa using this
  subst hi
  have hu' : u = .slice ls[j].1 ls[j].2.2.length ls[j].2.1 := by simpa using hu.symm
  rw [hu', show (⟨b, 0, none⟩ : Addr).add (j * (Kd.slice 5 (Kd.int .u8)).sz + 0) = ⟨b, j, none⟩ by show (⟨b, 0, none⟩ : Addr).add (j * 1 + 0) = _; unfold Addr.add; split <;> simp_all]
  exact h.cell (by simp [hjl'])
theorem strOf_strB (l : List UInt8) : strOfNums (ints l) = strB l := by
  unfold strOfNums strB ints
  rw [List.map_map]
  have h : l.map ((fun n => UInt8.ofNat n.toNat) ∘ n8) = l := by
    conv => rhs; rw [← List.map_id l]
    exact List.map_congr_left (fun x _ => by simp [n8])
  rw [h]

set_option maxHeartbeats 1000000 in
set_option maxRecDepth 100000 in
theorem awake_calls (w : World) (hK : KTab w) (hF : FTab w) (hL : LTab w) : Calls Tryd.prog 12 #[] w (fun e w' => e = .returned (.bool true) ∧ Below w.heap.size w w') := by
  obtain ⟨B, hBdef⟩ : ∃ B, B = w.heap.size := ⟨_, rfl⟩
  have HBD := Aside0.mk hBdef
  have HK := Aside0.mk hK
  have HF := Aside0.mk hF
  have HL := Aside0.mk hL
  clear hK hF hL hBdef
  go_enter Tryd.func12, Tryd.ntmps12
  go_wp2_with fail
  go_loopw [1] (fun i wr => ∃ j : Nat, j ≤ 3 ∧ i = .int .i64 j ∧ Below w.heap.size w wr) (fun i _ => 3 - (intOf i).toNat)
  case atStart => exact ⟨0, by omega, rfl, Below.refl _ _⟩
  case round =>
    obtain ⟨j, hj, rfl, hB⟩ := hrel
    have HB := Aside0.mk hB
    clear hB
    by_cases hlt : j < 3
    · have hLw := HL.out.below HB.out HL.out.lt
      obtain ⟨m, hm⟩ : ∃ m, m = knownB.getD j [] := ⟨_, rfl⟩
      obtain ⟨s, hs⟩ : ∃ s, s = sumsB.getD j [] := ⟨_, rfl⟩
      have c0 : wr.cell? ⟨0, j, none⟩ = some (.string (strB m)) := by
        have := hLw.known j (.string (strB m)) (by have h3 : j < knownB.length := hlt; rw [hm, List.getElem?_map, List.getD, List.getElem?_eq_getElem h3]; rfl)
        simpa using this
      have hso := sums_ok j hlt
      rw [← hm, ← hs] at hso
      have HSO := Aside0.mk hso
      have HS := Aside0.mk hs
      have b4 : (0 : Int) ≤ j ∧ (j : Int) < 3 := by omega
      have hml : m.length ≤ 56 := by
        rw [hm]; have h : j = 0 ∨ j = 1 ∨ j = 2 := by omega
        rcases h with rfl | rfl | rfl <;> decide
      have hcv := print_bytes (P := Tryd.prog) 9 24 5 Tryd.underlying9 Tryd.underlying24 Tryd.underlying5 (strB m) wr
      rw [strB_size] at hcv
      have HML := Aside0.mk hml
      clear hLw hm hs hso hml
      go_wp2_with fail
      have hb1 : Below wr.heap.size wr (Lib.bytesWorld wr 5 (strB m)) := bytes_below (Below.refl _ _) (Nat.le_refl _) 5 (strB m)
      have hs1 : wr.heap.size < (Lib.bytesWorld wr 5 (strB m)).heap.size := by rw [Lib.bytesWorld_size]; omega
      have hb2 : Below wr.heap.size wr ((Lib.bytesWorld wr 5 (strB m)).alloc (.cells #[.slice (some ⟨wr.heap.size, 0, none⟩) m.length (grownCap wr m.length 0 5)] 24)) := hb1.alloc (by omega) _
      have hbs : Bs ((Lib.bytesWorld wr 5 (strB m)).alloc (.cells #[.slice (some ⟨wr.heap.size, 0, none⟩) m.length (grownCap wr m.length 0 5)] 24)) (some ⟨wr.heap.size, 0, none⟩) m.length m :=
        (Bs.of_bytes wr m (by have := HML.out; omega)).below (Below.alloc (Below.refl _ _) (Nat.le_refl _) _)
      have hbss : Bss ((Lib.bytesWorld wr 5 (strB m)).alloc (.cells #[.slice (some ⟨wr.heap.size, 0, none⟩) m.length (grownCap wr m.length 0 5)] 24)) (some ⟨(Lib.bytesWorld wr 5 (strB m)).heap.size, 0, none⟩) 1 [m] :=
        Bss.of_row (t := 24) (ls := [(some ⟨wr.heap.size, 0, none⟩, grownCap wr m.length 0 5, m)]) (Row.alloc _ [.slice (some ⟨wr.heap.size, 0, none⟩) m.length (grownCap wr m.length 0 5)] 24) (fun l hl => by
          rw [List.mem_singleton] at hl; subst hl
          exact ⟨grownCap_ge _ _ _ _, hbs⟩) (by simp)
      have hlt4 : 4 < wr.heap.size := Nat.lt_of_lt_of_le HK.out.1 HB.out.size
      refine (shaSum_calls _ _ 1 [m] ((HK.out.below HB.out HK.out.1).below hb2 hlt4) ((HF.out.below HB.out HF.out.1).below hb2 (by omega)) hbss (by simpa using (by have := HML.out; omega : m.length < 500000000000000000))).mono ?_
      rintro e w3 ⟨rfl, hB3⟩
      rw [show [m].flatten = m by simp]
      have HB3 := Aside0.mk (show Below w.heap.size w w3 from HB.out.trans (⟨hb2.os, hb2.tape, hb2.output, hb2.size, fun k hk => hb2.block k (by have := HB.out.size; omega)⟩ : Below w.heap.size wr _) |>.trans ⟨hB3.os, hB3.tape, hB3.output, hB3.size, fun k hk => hB3.block k (by have := HB.out.size; have := hb2.size; omega)⟩)
      clear hb1 hs1 hb2 hbs hbss hB3 hcv c0
      go_wp2_with (with_reducible change wpList _ _ _ (Oper.mk _ (Op.store 28 _ _) _ _ _ _ :: _) _ _; refine Aside0.out ?_)
      refine Aside0.mk ?_
      refine wpList_store_row rfl 28 _ _ rfl w3.heap.size ((Spec.digest m).map cell).toArray rfl (by simp [go_sem, hashV]) 28 _ (heap_alloc_new _ _) (by kernel_rfl) rfl (oneCells _) ?_
      go_wp2_with fail
      refine wp_world (fun w4 => Below w.heap.size w w4 ∧ Row w4 w3.heap.size ((Spec.digest m).map cell) 28) ⟨Below.setRow (HB3.out.alloc HB3.out.size _) HB3.out.size _, alloc_setRow _ _ _ _⟩ ?_
      rintro w4 ⟨hB4, hR4⟩
      have hcall : ∀ w0, (Below w.heap.size w w0 ∧ Row w0 w3.heap.size ((Spec.digest m).map cell) 28) → Calls Tryd.prog 23 #[hashV (Spec.digest m)] w0 fun e w' => e = .returned (.string (strB s)) ∧ (Below w.heap.size w w' ∧ Row w' w3.heap.size ((Spec.digest m).map cell) 28) := fun w0 ⟨h0, h1⟩ =>
        (digits_calls w0 _ (Spec.digest_length m)).mono fun e w' ⟨he, hb⟩ => ⟨by rw [he, strOf_strB, HSO.out], h0.trans ⟨hb.os, hb.tape, hb.output, hb.size, fun k hk => hb.block k (by have := h0.size; omega)⟩, h1.below hb h1.lt⟩
      have hsum : ∀ w0, Below w.heap.size w w0 → w0.cell? ⟨1, j, none⟩ = some (.string (strB s)) := fun w0 h0 => by
        have := (HL.out.below h0 HL.out.lt).sums j (.string (strB s)) (by have h3 : j < sumsB.length := hlt; rw [HS.out, List.getElem?_map, List.getD, List.getElem?_eq_getElem h3]; rfl)
        simpa using this
      refine wp_region_quiet (C := fun w0 => Below w.heap.size w w0 ∧ Row w0 w3.heap.size ((Spec.digest m).map cell) 28) (by kernel_rfl) (by kernel_rfl) ⟨hB4.drew, hR4.drew⟩ ?_
      clear hB4 hR4
      refine wpQ_row rfl w3.heap.size 0 rfl ((Spec.digest m).map cell) _ (fun _ h => rangeOfRow h.2) Tryd.underlying28 rfl (by kernel_rfl) ?_
      simp only [Act.put, List.setIfInBounds_toArray, List.set_cons_zero, List.set_cons_succ]
      refine wpQ_call1 rfl (hashV (Spec.digest m)) rfl _ Tryd.func23 (by kernel_rfl) (by kernel_rfl) _ hcall ?_
      simp only [Act.put, List.setIfInBounds_toArray, List.set_cons_zero, List.set_cons_succ]
      refine wpQ_move rfl ?_
      simp only [Act.put, List.setIfInBounds_toArray, List.set_cons_zero, List.set_cons_succ]
      refine wpQ_val (.pointer (some ⟨1, j, none⟩)) rfl (fun w _ => by simp [go_sem, b4]) ?_
      simp only [Act.put, List.setIfInBounds_toArray, List.set_cons_zero, List.set_cons_succ]
      refine wpQ_val (.string (strB s)) rfl (fun w h => by simp [go_sem, hsum w h.1]) ?_
      simp only [Act.put, List.setIfInBounds_toArray, List.set_cons_zero, List.set_cons_succ]
      refine wpQ_val (.bool false) rfl (fun w h => by simp [go_sem]) ?_
      simp only [Act.put, List.setIfInBounds_toArray, List.set_cons_zero, List.set_cons_succ]
      refine wpQuiet_nil ?_
      rintro w5 ⟨hB5, _⟩
      have HB5 := Aside0.mk hB5
      clear hB5 hcall hsum
      go_wp2
      exact ⟨⟨j + 1, by omega, by simp, HB5.out⟩, by simp [intOf]; omega⟩
    · obtain rfl : j = 3 := by omega
      go_wp2
      go_ret
      exact ⟨rfl, HB.out⟩
end Go.Proofs.YtnkhhnfmijljbaaDoor
set_option linter.unusedVariables false
set_option linter.unusedSimpArgs false
namespace Go.Proofs.YtnkhhnfmijljbaaDoor
open Go.RowKit Go.Proofs.YtnkhhnfmijljbaaDoorW.PrintWords Go.Proofs.YtnkhhnfmijljbaaDoorW.PrintLast Go.Proofs.YtnkhhnfmijljbaaDoorW.PrintMore
open Extern.Stop (cell)

theorem zero28 (w : World) : (zeroValue 28).run Tryd.prog w = .ok (.agg (zeroHash.map cell).toArray) w := by kernel_rfl
section
variable {P : Program} {ops : Array Oper} {Q : Exit → Act → World → Prop} {a : Act} {w w1 : World} {rest : List Oper} {dst : Option Tmp} {ty : TypeId} {pos : String} {after : Array Edge} {guard : Option (Nat × Bool)}
theorem wpL_val {op : Op} (v : Value) (hw : Region.wanted ⟨dst, op, ty, pos, after, guard⟩ (yielded ops a.tmps) = true) (hv : (execOp a.eval ⟨dst, op, ty, pos, after, guard⟩).run P w = .ok (.value v) w1)
    (h : wpList P ops Q rest (a.put dst v) w1) : wpList P ops Q (⟨dst, op, ty, pos, after, guard⟩ :: rest) a w :=
  wpList_step fun K hK => value_ hw rfl hv (hK _ _ h)
theorem wpL_row {t : TypeId} {x : Operand} (hw : Region.wanted ⟨dst, .load t x, ty, pos, after, guard⟩ (yielded ops a.tmps) = true) (b o : Nat) (hx : a.eval x = .pointer (some ⟨b, o, none⟩)) (cs : List Value) (d : TypeDesc)
    (hc : w.rangeAt b o cs) (hu : P.underlying t = some d) (hd : d.isRow = true) (hi : (P.info? t).map (·.size) = some cs.length)
    (h : wpList P ops Q rest (a.put dst (.agg cs.toArray)) w) : wpList P ops Q (⟨dst, .load t x, ty, pos, after, guard⟩ :: rest) a w :=
  wpL_val _ hw (by
    unfold execOp
    simp only [hx, Instr.loadAt, Instr.sureAddr, Sem.run_bind, Sem.run_pure, Result.andThen_ok, run_loadVar_mid w b o t cs d hc hu hd hi]) h
end
theorem eq28 (w : World) (xs ys : List UInt8) (hx : xs.length = 32) (hy : ys.length = 32) :
    (Op.equalIn 10000 28 (.agg (xs.map cell).toArray) (.agg (ys.map cell).toArray)).run Tryd.prog w = .ok (xs == ys) w :=
  run_equalIn_bytes w 9998 28 5 32 Tryd.underlying28 Tryd.underlying5 (fun w => by kernel_rfl) xs ys hx hy
set_option maxHeartbeats 1000000 in
set_option maxRecDepth 100000 in
theorem known_calls (w : World) (hK : KTab w) (hF : FTab w) (hL : LTab w) : Calls Tryd.prog 6 #[] w (fun e w' => e = .returned (.bool true) ∧ Below w.heap.size w w') := by
  have HK := Aside0.mk hK
  have HF := Aside0.mk hF
  have HL := Aside0.mk hL
  clear hK hF hL
  go_enter Tryd.func6, Tryd.ntmps6
  go_wp2_with fail
  have hb0 : Below w.heap.size w (w.alloc (.cells #[.int .u8 1] 5)) := Below.alloc (Below.refl _ _) (Nat.le_refl _) _
  refine (write_none _ _ _ _).mono ?_
  rintro e w1 ⟨rfl, rfl⟩
  go_wp2_with fail
  refine (sum_none _).mono ?_
  rintro e w1 ⟨rfl, hB1⟩
  have HB1 := Aside0.mk (show Below w.heap.size w w1 from hb0.trans ⟨hB1.os, hB1.tape, hB1.output, hB1.size, fun k hk => hB1.block k (by simp; omega)⟩)
  clear hb0 hB1
  go_wp2_with (with_reducible change wpList _ _ _ (Oper.mk _ (Op.store 28 _ _) _ _ _ _ :: _) _ _; refine Aside0.out ?_)
  refine Aside0.mk ?_
  refine wpList_store_row rfl 28 _ _ rfl w1.heap.size (zeroHash.map cell).toArray rfl (by simp [go_sem, hashV]) 28 _ (heap_alloc_new _ _) (by kernel_rfl) rfl (oneCells _) ?_
  go_wp2_with fail
  refine (len_none _).mono ?_
  rintro e w2 ⟨rfl, rfl⟩
  go_wp2_with fail
  refine (copy_none _).mono ?_
  rintro e w2 ⟨rfl, rfl⟩
  go_wp2_with fail
  have hb2 : Below w.heap.size w ((w1.alloc (.cells (z8 32).toArray 28)).setRow w1.heap.size (zeroHash.map cell).toArray) := Below.setRow (HB1.out.alloc HB1.out.size _) HB1.out.size _
  have hr2 : Row ((w1.alloc (.cells (z8 32).toArray 28)).setRow w1.heap.size (zeroHash.map cell).toArray) w1.heap.size (zeroHash.map cell) 28 := alloc_setRow _ _ _ _
  refine (awake_calls _ (HK.out.below hb2 HK.out.1) (HF.out.below hb2 HF.out.1) (HL.out.below hb2 HL.out.lt)).mono ?_
  rintro e w3 ⟨rfl, hB3⟩
  have HR3 := Aside0.mk (hr2.below hB3 hr2.lt)
  have HB3 := Aside0.mk (show Below w.heap.size w w3 from hb2.trans ⟨hB3.os, hB3.tape, hB3.output, hB3.size, fun k hk => hB3.block k (by have := hb2.size; omega)⟩)
  clear hb2 hr2 hB3
  have hz := zero28
  have he := eq28 w3 zeroHash zeroHash rfl rfl
  rw [beq_self_eq_true] at he
  have HE := Aside0.mk he
  clear he
  go_wp2_with (with_reducible refine gate_dst (N := 16) rfl ?_; refine Aside0.out ?_)
  refine Aside0.mk ?_
  refine wpL_row (by rfl) w1.heap.size 0 rfl (zeroHash.map cell) _ (rangeOfRow HR3.out) Tryd.underlying28 rfl (by kernel_rfl) ?_
  go_wp2_with (with_reducible refine gate_dst (N := 18) rfl ?_; refine Aside0.out ?_)
  refine Aside0.mk ?_
  refine wpL_val (.bool true) (w1 := w3) (by rfl) (by simp [execOp, HE.out, go_sem]) ?_
  go_wp2
  go_ret
  exact ⟨rfl, HB3.out⟩
end Go.Proofs.YtnkhhnfmijljbaaDoor
set_option linter.unusedVariables false
set_option linter.unusedSimpArgs false
namespace Go.Proofs.YtnkhhnfmijljbaaDoor
open Go.RowKit Go.Lib

def strData {H : Type} (ss : List (List UInt8)) : DataW H := .agg (ss.map fun s => .lit (.string s))
theorem cells_of_strs {H : Type} {enc : TypeId × Value → H} {P : Program} {w : World} {base : Nat} {sp : Nat → Bool} {held : Bool} {fuel : Nat} {t e : TypeId} {n : Nat} {cs : List Value} {ss : List (List UInt8)} {p : List MemPlace}
    (ht : P.underlying t = some (.array n e)) (he : P.underlying e = some .string) (hce : P.cellsOf e = 1) (hct : P.cellsOf t = n)
    (h : DataW.trod enc P w base sp held fuel t cs = some (strData ss, p)) : cs = ss.map fun s => Value.string (strB s) := by
  cases fuel with
  | zero => simp [DataW.trod] at h
  | succ fuel =>
    simp only [DataW.trod, ht, hce, hct, Nat.mul_one] at h
    split at h
    · rename_i hl
      obtain ⟨xs, hm, hx⟩ := Option.map_eq_some_iff.1 h
      have hxs : xs.map (·.1) = ss.map fun s => (DataW.lit (.string s) : DataW H) := by
        have := congrArg Prod.fst hx
        simpa [strData] using this
      have hxl : xs.length = n := by simpa using mapM_length hm
      have hsl : ss.length = n := by
        have := congrArg List.length hxs
        simp at this
        omega
      apply List.ext_getElem?
      intro i
      by_cases hi : i < n
      · obtain ⟨b, hb, hf⟩ := mapM_at hm i i (by simp [hi])
        obtain ⟨s, hc, rfl, _⟩ := DataW.trod_string he hf
        have h1 : cs[i]? = some (.string s) := by
          have := congrArg (·[0]?) hc
          simpa [List.getElem?_take, List.getElem?_drop] using this
        have h2 : (xs.map (·.1))[i]? = some (DataW.lit (.string s.data.toList) : DataW H) := by simp [hb]
        rw [hxs] at h2
        simp only [List.getElem?_map, Option.map_eq_some_iff, DataW.lit.injEq, Lit.string.injEq] at h2
        obtain ⟨z', hz', hzz⟩ := h2
        rw [h1, List.getElem?_map, hz', hzz]
        simp [strB]
      · rw [List.getElem?_eq_none (by omega), List.getElem?_eq_none (by simp; omega)]
    · cases h
theorem lv_num {P : Program} {W : World} {name : String} {k : IntKind} {zs : List Int} {rest : List (String × DataW Unit)} {g : Nat} {t e : TypeId} {n : Nat} {ps : List MemPlace}
    (hg : P.globalNamed name = some g) (hty : (P.globals[g]?).map (·.type) = some t) (ht : P.underlying t = some (.array n e)) (he : P.underlying e = some (.int k)) (hce : P.cellsOf e = 1) (hct : P.cellsOf t = n)
    (h : DataW.LaidVars P W ((name, tabData k zs) :: rest) ps) : W.var? P name = some (zs.map fun z => Value.int k z).toArray ∧ ∃ q, DataW.LaidVars P W rest q := by
  obtain ⟨g', t', cs, fuel, p, q, hg', ht', hvar, hd, hq, _⟩ := h
  obtain rfl := Option.some.inj (hg.symm.trans hg')
  obtain rfl := Option.some.inj (hty.symm.trans ht')
  exact ⟨by rw [hvar, ← cells_of_tab ht he hce hct hd], q, hq⟩
theorem lv_str {P : Program} {W : World} {name : String} {ss : List (List UInt8)} {rest : List (String × DataW Unit)} {g : Nat} {t e : TypeId} {n : Nat} {ps : List MemPlace}
    (hg : P.globalNamed name = some g) (hty : (P.globals[g]?).map (·.type) = some t) (ht : P.underlying t = some (.array n e)) (he : P.underlying e = some .string) (hce : P.cellsOf e = 1) (hct : P.cellsOf t = n)
    (h : DataW.LaidVars P W ((name, strData ss) :: rest) ps) : W.var? P name = some (ss.map fun s => Value.string (strB s)).toArray ∧ ∃ q, DataW.LaidVars P W rest q := by
  obtain ⟨g', t', cs, fuel, p, q, hg', ht', hvar, hd, hq, _⟩ := h
  obtain rfl := Option.some.inj (hg.symm.trans hg')
  obtain rfl := Option.some.inj (hty.symm.trans ht')
  exact ⟨by rw [hvar, ← cells_of_strs ht he hce hct hd], q, hq⟩
theorem range_of_var {P : Program} {W : World} {name : String} {g : Nat} {L : List Value} (hg : P.globalNamed name = some g) (h : W.var? P name = some L.toArray) : W.rangeAt g 0 L := fun j v hv => by
  have := World.var?_cell hg h j
  rw [Nat.zero_add, this]; simpa using hv

theorem gK : Tryd.prog.globalNamed "cairn/sha.k" = some 4 := by kernel_rfl
theorem gF : Tryd.prog.globalNamed "cairn/sha.first" = some 2 := by kernel_rfl
theorem gN : Tryd.prog.globalNamed "cairn/cairnlaw02.known" = some 0 := by kernel_rfl
theorem gS : Tryd.prog.globalNamed "cairn/cairnlaw02.sums" = some 1 := by kernel_rfl
theorem kLaid {H : Type} : (Rows.laid_cairn_sha_k : DataW H) = tabData .u32 (Spec.K.map n32) := by kernel_rfl
theorem fLaid {H : Type} : (Rows.laid_cairn_sha_first : DataW H) = tabData .u32 (Spec.first.list.map n32) := by kernel_rfl
theorem nLaid {H : Type} : (Rows.laid_cairn_cairnlaw02_known : DataW H) = strData knownB := by kernel_rfl
theorem sLaid {H : Type} : (Rows.laid_cairn_cairnlaw02_sums : DataW H) = strData sumsB := by kernel_rfl
theorem i64_of_wf {a : Int} (h : (Lit.int .i64 a).wf = true) : -9223372036854775808 ≤ a ∧ a ≤ 9223372036854775807 := by
  simp [Lit.wf, IntKind.min, IntKind.max, IntKind.signed, IntKind.bits] at h
  omega
/-- the document's rounds lie where the program keeps them -/
def RTab (w : World) : Prop := 3 < w.heap.size ∧ w.rangeAt 3 0 (Spec.K.map u)
theorem gR : Tryd.prog.globalNamed "cairn/cairnref02.rounds" = some 3 := by kernel_rfl
theorem rLaid {H : Type} : (Rows.laid_cairn_cairnref02_rounds : DataW H) = tabData .u32 (Spec.K.map n32) := by kernel_rfl
end Go.Proofs.YtnkhhnfmijljbaaDoor
