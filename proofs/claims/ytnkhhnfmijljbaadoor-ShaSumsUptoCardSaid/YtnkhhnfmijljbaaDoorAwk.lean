/- cairnlaw02.awake: true: the program knows the published sums. -/
import Derived.Test.YtnkhhnfmijljbaaDoorDig
set_option linter.unusedVariables false
set_option linter.unusedSimpArgs false
namespace Go.Proofs.YtnkhhnfmijljbaaDoor
open Go.RowKit Go.Proofs.YtnkhhnfmijljbaaDoorW.PrintWords Go.Proofs.YtnkhhnfmijljbaaDoorW.PrintLast Go.Proofs.YtnkhhnfmijljbaaDoorW.PrintMore
open Extern.Stop (cell)

def knownB : List (List UInt8) := [[], [97, 98, 99], [97, 98, 99, 100, 98, 99, 100, 101, 99, 100, 101, 102, 100, 101, 102, 103, 101, 102, 103, 104, 102, 103, 104, 105, 103, 104, 105, 106, 104, 105, 106, 107, 105, 106, 107, 108, 106, 107, 108, 109, 107, 108, 109, 110, 108, 109, 110, 111, 109, 110, 111, 112, 110, 111, 112, 113]]
def sumsB : List (List UInt8) := [
  [101, 51, 98, 48, 99, 52, 52, 50, 57, 56, 102, 99, 49, 99, 49, 52, 57, 97, 102, 98, 102, 52, 99, 56, 57, 57, 54, 102, 98, 57, 50, 52, 50, 55, 97, 101, 52, 49, 101, 52, 54, 52, 57, 98, 57, 51, 52, 99, 97, 52, 57, 53, 57, 57, 49, 98, 55, 56, 53, 50, 98, 56, 53, 53],
  [98, 97, 55, 56, 49, 54, 98, 102, 56, 102, 48, 49, 99, 102, 101, 97, 52, 49, 52, 49, 52, 48, 100, 101, 53, 100, 97, 101, 50, 50, 50, 51, 98, 48, 48, 51, 54, 49, 97, 51, 57, 54, 49, 55, 55, 97, 57, 99, 98, 52, 49, 48, 102, 102, 54, 49, 102, 50, 48, 48, 49, 53, 97, 100],
  [50, 52, 56, 100, 54, 97, 54, 49, 100, 50, 48, 54, 51, 56, 98, 56, 101, 53, 99, 48, 50, 54, 57, 51, 48, 99, 51, 101, 54, 48, 51, 57, 97, 51, 51, 99, 101, 52, 53, 57, 54, 52, 102, 102, 50, 49, 54, 55, 102, 54, 101, 99, 101, 100, 100, 52, 49, 57, 100, 98, 48, 54, 99, 49]]
def strB (l : List UInt8) : ByteArray := ⟨l.toArray⟩
set_option maxRecDepth 100000 in
theorem sums_ok (j : Nat) (hj : j < 3) : hexL (Spec.digest (knownB.getD j [])) = sumsB.getD j [] := by
  have h : j = 0 ∨ j = 1 ∨ j = 2 := by omega
  rcases h with rfl | rfl | rfl <;> decide +kernel
/-- the tables of messages and sums lie where the program keeps them -/
structure LTab (w : World) : Prop where
  lt : 1 < w.heap.size
  known : w.rangeAt 0 0 (knownB.map fun l => .string (strB l))
  sums : w.rangeAt 1 0 (sumsB.map fun l => .string (strB l))
theorem LTab.below {w w' : World} {B : Nat} (h : LTab w) (hb : Below B w w') (hB : 1 < B) : LTab w' :=
  ⟨Nat.lt_of_lt_of_le h.lt hb.size, fun j v hv => by rw [cell_block (a := ⟨0, 0 + j, none⟩) (hb.block 0 (by omega))]; exact h.known j v hv, fun j v hv => by rw [cell_block (a := ⟨1, 0 + j, none⟩) (hb.block 1 hB)]; exact h.sums j v hv⟩
theorem strB_size (l : List UInt8) : (strB l).size = l.length := by show l.toArray.size = _; simp
theorem bytesOf_strB (l : List UInt8) : bytesOf (strB l) = ints l := by
  simp [bytesOf, strB, ints]
  exact fun a _ => rfl
theorem Bs.of_bytes (W : World) (m : List UInt8) (hl : m.length ≤ 9223372036854775807) : Bs (Lib.bytesWorld W 5 (strB m)) (some ⟨W.heap.size, 0, none⟩) m.length m := by
  have h := bytes_reads W 5 (strB m) (by rw [strB_size]; exact hl)
  rw [strB_size, bytesOf_strB] at h
  exact Kd.C_of_reads (h1 := fun _ => rfl) (d := (0 : Int)) h
theorem Bss.of_row {w : World} {b : Nat} {t : TypeId} {ls : List (Option Addr × Nat × List UInt8)} (h : Row w b (ls.map fun l => .slice l.1 l.2.2.length l.2.1) t) (hr : ∀ l ∈ ls, l.2.2.length ≤ l.2.1 ∧ Bs w l.1 l.2.2.length l.2.2) (hmax : ls.length ≤ 9223372036854775807) :
    Bss w (some ⟨b, 0, none⟩) ls.length (ls.map (·.2.2)) := by
  refine ⟨by simp, hmax, fun _ => ⟨_, rfl, fun j p hj => ?_⟩⟩
  obtain ⟨hjl, hp⟩ := List.getElem?_eq_some_iff.1 hj
  have hjl' : j < ls.length := by simpa using hjl
  obtain ⟨h1, h2⟩ := hr ls[j] (List.getElem_mem _)
  have hpe : p = ints ls[j].2.2 := by rw [← hp]; simp
  subst hpe
  refine ⟨[.slice ls[j].1 ls[j].2.2.length ls[j].2.1], rfl, ⟨ls[j].1, ls[j].2.1, by rw [ints_length], by rw [ints_length]; exact h1, by rw [ints_length]; exact h2⟩, fun i u hu => ?_⟩
  have hi : i = 0 := by
    have := (List.getElem?_eq_some_iff.1 hu).1
    simpa using this
  subst hi
  have hu' : u = .slice ls[j].1 ls[j].2.2.length ls[j].2.1 := by simpa using hu.symm
  rw [hu', show (⟨b, 0, none⟩ : Addr).add (j * (Kd.slice 5 (Kd.int .u8)).sz + 0) = ⟨b, j, none⟩ by show (⟨b, 0, none⟩ : Addr).add (j * 1 + 0) = _; unfold Addr.add; split <;> simp_all]
  exact h.cell (by simp [hjl'])
theorem strOf_strB (l : List UInt8) : strOfNums (ints l) = strB l := by
  unfold strOfNums strB ints
  rw [List.map_map]
  have h : l.map ((fun n => UInt8.ofNat n.toNat) ∘ n8) = l := by
    conv => rhs; rw [← List.map_id l]
    exact List.map_congr_left (fun x _ => by simp [n8])
  rw [h]

set_option maxHeartbeats 1000000 in
set_option maxRecDepth 100000 in
theorem awake_calls (w : World) (hK : KTab w) (hF : FTab w) (hL : LTab w) : Calls Tryd.prog 12 #[] w (fun e w' => e = .returned (.bool true) ∧ Below w.heap.size w w') := by
  obtain ⟨B, hBdef⟩ : ∃ B, B = w.heap.size := ⟨_, rfl⟩
  have HBD := Aside0.mk hBdef
  have HK := Aside0.mk hK
  have HF := Aside0.mk hF
  have HL := Aside0.mk hL
  clear hK hF hL hBdef
  go_enter Tryd.func12, Tryd.ntmps12
  go_wp2_with fail
  go_loopw [1] (fun i wr => ∃ j : Nat, j ≤ 3 ∧ i = .int .i64 j ∧ Below w.heap.size w wr) (fun i _ => 3 - (intOf i).toNat)
  case atStart => exact ⟨0, by omega, rfl, Below.refl _ _⟩
  case round =>
    obtain ⟨j, hj, rfl, hB⟩ := hrel
    have HB := Aside0.mk hB
    clear hB
    by_cases hlt : j < 3
    · have hLw := HL.out.below HB.out HL.out.lt
      obtain ⟨m, hm⟩ : ∃ m, m = knownB.getD j [] := ⟨_, rfl⟩
      obtain ⟨s, hs⟩ : ∃ s, s = sumsB.getD j [] := ⟨_, rfl⟩
      have c0 : wr.cell? ⟨0, j, none⟩ = some (.string (strB m)) := by
        have := hLw.known j (.string (strB m)) (by have h3 : j < knownB.length := hlt; rw [hm, List.getElem?_map, List.getD, List.getElem?_eq_getElem h3]; rfl)
        simpa using this
      have hso := sums_ok j hlt
      rw [← hm, ← hs] at hso
      have HSO := Aside0.mk hso
      have HS := Aside0.mk hs
      have b4 : (0 : Int) ≤ j ∧ (j : Int) < 3 := by omega
      have hml : m.length ≤ 56 := by
        rw [hm]; have h : j = 0 ∨ j = 1 ∨ j = 2 := by omega
        rcases h with rfl | rfl | rfl <;> decide
      have hcv := print_bytes (P := Tryd.prog) 9 24 5 Tryd.underlying9 Tryd.underlying24 Tryd.underlying5 (strB m) wr
      rw [strB_size] at hcv
      have HML := Aside0.mk hml
      clear hLw hm hs hso hml
      go_wp2_with fail
      have hb1 : Below wr.heap.size wr (Lib.bytesWorld wr 5 (strB m)) := bytes_below (Below.refl _ _) (Nat.le_refl _) 5 (strB m)
      have hs1 : wr.heap.size < (Lib.bytesWorld wr 5 (strB m)).heap.size := by rw [Lib.bytesWorld_size]; omega
      have hb2 : Below wr.heap.size wr ((Lib.bytesWorld wr 5 (strB m)).alloc (.cells #[.slice (some ⟨wr.heap.size, 0, none⟩) m.length (grownCap wr m.length 0 5)] 24)) := hb1.alloc (by omega) _
      have hbs : Bs ((Lib.bytesWorld wr 5 (strB m)).alloc (.cells #[.slice (some ⟨wr.heap.size, 0, none⟩) m.length (grownCap wr m.length 0 5)] 24)) (some ⟨wr.heap.size, 0, none⟩) m.length m :=
        (Bs.of_bytes wr m (by have := HML.out; omega)).below (Below.alloc (Below.refl _ _) (Nat.le_refl _) _)
      have hbss : Bss ((Lib.bytesWorld wr 5 (strB m)).alloc (.cells #[.slice (some ⟨wr.heap.size, 0, none⟩) m.length (grownCap wr m.length 0 5)] 24)) (some ⟨(Lib.bytesWorld wr 5 (strB m)).heap.size, 0, none⟩) 1 [m] :=
        Bss.of_row (t := 24) (ls := [(some ⟨wr.heap.size, 0, none⟩, grownCap wr m.length 0 5, m)]) (Row.alloc _ [.slice (some ⟨wr.heap.size, 0, none⟩) m.length (grownCap wr m.length 0 5)] 24) (fun l hl => by
          rw [List.mem_singleton] at hl; subst hl
          exact ⟨grownCap_ge _ _ _ _, hbs⟩) (by simp)
      have hlt4 : 4 < wr.heap.size := Nat.lt_of_lt_of_le HK.out.1 HB.out.size
      refine (shaSum_calls _ _ 1 [m] ((HK.out.below HB.out HK.out.1).below hb2 hlt4) ((HF.out.below HB.out HF.out.1).below hb2 (by omega)) hbss (by simpa using (by have := HML.out; omega : m.length < 500000000000000000))).mono ?_
      rintro e w3 ⟨rfl, hB3⟩
      rw [show [m].flatten = m by simp]
      have HB3 := Aside0.mk (show Below w.heap.size w w3 from HB.out.trans (⟨hb2.os, hb2.tape, hb2.output, hb2.size, fun k hk => hb2.block k (by have := HB.out.size; omega)⟩ : Below w.heap.size wr _) |>.trans ⟨hB3.os, hB3.tape, hB3.output, hB3.size, fun k hk => hB3.block k (by have := HB.out.size; have := hb2.size; omega)⟩)
      clear hb1 hs1 hb2 hbs hbss hB3 hcv c0
      go_wp2_with (with_reducible change wpList _ _ _ (Oper.mk _ (Op.store 28 _ _) _ _ _ _ :: _) _ _; refine Aside0.out ?_)
      refine Aside0.mk ?_
      refine wpList_store_row rfl 28 _ _ rfl w3.heap.size ((Spec.digest m).map cell).toArray rfl (by simp [go_sem, hashV]) 28 _ (heap_alloc_new _ _) (by kernel_rfl) rfl (oneCells _) ?_
      go_wp2_with fail
      refine wp_world (fun w4 => Below w.heap.size w w4 ∧ Row w4 w3.heap.size ((Spec.digest m).map cell) 28) ⟨Below.setRow (HB3.out.alloc HB3.out.size _) HB3.out.size _, alloc_setRow _ _ _ _⟩ ?_
      rintro w4 ⟨hB4, hR4⟩
      have hcall : ∀ w0, (Below w.heap.size w w0 ∧ Row w0 w3.heap.size ((Spec.digest m).map cell) 28) → Calls Tryd.prog 23 #[hashV (Spec.digest m)] w0 fun e w' => e = .returned (.string (strB s)) ∧ (Below w.heap.size w w' ∧ Row w' w3.heap.size ((Spec.digest m).map cell) 28) := fun w0 ⟨h0, h1⟩ =>
        (digits_calls w0 _ (Spec.digest_length m)).mono fun e w' ⟨he, hb⟩ => ⟨by rw [he, strOf_strB, HSO.out], h0.trans ⟨hb.os, hb.tape, hb.output, hb.size, fun k hk => hb.block k (by have := h0.size; omega)⟩, h1.below hb h1.lt⟩
      have hsum : ∀ w0, Below w.heap.size w w0 → w0.cell? ⟨1, j, none⟩ = some (.string (strB s)) := fun w0 h0 => by
        have := (HL.out.below h0 HL.out.lt).sums j (.string (strB s)) (by have h3 : j < sumsB.length := hlt; rw [HS.out, List.getElem?_map, List.getD, List.getElem?_eq_getElem h3]; rfl)
        simpa using this
      refine wp_region_quiet (C := fun w0 => Below w.heap.size w w0 ∧ Row w0 w3.heap.size ((Spec.digest m).map cell) 28) (by kernel_rfl) (by kernel_rfl) ⟨hB4.drew, hR4.drew⟩ ?_
      clear hB4 hR4
      refine wpQ_row rfl w3.heap.size 0 rfl ((Spec.digest m).map cell) _ (fun _ h => rangeOfRow h.2) Tryd.underlying28 rfl (by kernel_rfl) ?_
      simp only [Act.put, List.setIfInBounds_toArray, List.set_cons_zero, List.set_cons_succ]
      refine wpQ_call1 rfl (hashV (Spec.digest m)) rfl _ Tryd.func23 (by kernel_rfl) (by kernel_rfl) _ hcall ?_
      simp only [Act.put, List.setIfInBounds_toArray, List.set_cons_zero, List.set_cons_succ]
      refine wpQ_move rfl ?_
      simp only [Act.put, List.setIfInBounds_toArray, List.set_cons_zero, List.set_cons_succ]
      refine wpQ_val (.pointer (some ⟨1, j, none⟩)) rfl (fun w _ => by simp [go_sem, b4]) ?_
      simp only [Act.put, List.setIfInBounds_toArray, List.set_cons_zero, List.set_cons_succ]
      refine wpQ_val (.string (strB s)) rfl (fun w h => by simp [go_sem, hsum w h.1]) ?_
      simp only [Act.put, List.setIfInBounds_toArray, List.set_cons_zero, List.set_cons_succ]
      refine wpQ_val (.bool false) rfl (fun w h => by simp [go_sem]) ?_
      simp only [Act.put, List.setIfInBounds_toArray, List.set_cons_zero, List.set_cons_succ]
      refine wpQuiet_nil ?_
      rintro w5 ⟨hB5, _⟩
      have HB5 := Aside0.mk hB5
      clear hB5 hcall hsum
      go_wp2
      exact ⟨⟨j + 1, by omega, by simp, HB5.out⟩, by simp [intOf]; omega⟩
    · obtain rfl : j = 3 := by omega
      go_wp2
      go_ret
      exact ⟨rfl, HB.out⟩
end Go.Proofs.YtnkhhnfmijljbaaDoor
