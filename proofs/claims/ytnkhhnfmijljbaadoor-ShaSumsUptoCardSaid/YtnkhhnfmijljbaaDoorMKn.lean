/- cairnlaw03.known: true where the code is the published one. -/
import Derived.Test.YtnkhhnfmijljbaaDoorMCp
set_option linter.unusedVariables false
set_option linter.unusedSimpArgs false
namespace Go.Proofs.YtnkhhnfmijljbaaDoor
open Go.RowKit Go.Proofs.YtnkhhnfmijljbaaDoorW.PrintWords Go.Proofs.YtnkhhnfmijljbaaDoorW.PrintLast Go.Proofs.YtnkhhnfmijljbaaDoorW.PrintMore
open Extern.Stop (cell)
attribute [local go_sem] u8_conv u32_shl24 u32_shl16 u32_shl8 bits_u32_or

theorem ext_bytes (w : World) (s : ByteArray) : Ext w (Lib.bytesWorld w 5 s) := bytes_below (Below.refl _ _) (Nat.le_refl _) 5 s
set_option maxHeartbeats 1000000 in
set_option maxRecDepth 100000 in
theorem mknown_calls (w : World) (s t : List UInt8) (f : UInt32) (l : UInt8) (hK : KTab w) (hF : FTab w) (hs : s.length ≤ 1048576) (ht : t.length ≤ 1048576)
    (hbe : Spec.be ((Spec.code s t).getD 0 0) ((Spec.code s t).getD 1 0) ((Spec.code s t).getD 2 0) ((Spec.code s t).getD 3 0) = f) (hl : (Spec.code s t).getD 31 0 = l) :
    Calls Tryd.prog 27 #[.string (strB s), .string (strB t), .int .u32 (n32 f), .int .u8 (n8 l)] w (fun e w' => e = .returned (.bool true) ∧ Ext w w') := by
  have HK := Aside0.mk hK
  have HF := Aside0.mk hF
  have HBE := Aside0.mk hbe
  have HLL := Aside0.mk hl
  have hcv1 := print_bytes (P := Tryd.prog) 9 24 5 Tryd.underlying9 Tryd.underlying24 Tryd.underlying5 (strB s) w
  have hcv2 := print_bytes (P := Tryd.prog) 9 24 5 Tryd.underlying9 Tryd.underlying24 Tryd.underlying5 (strB t) (Lib.bytesWorld w 5 (strB s))
  rw [strB_size] at hcv1 hcv2
  clear hK hF hbe hl
  go_enter Tryd.func27, Tryd.ntmps27
  go_wp2_with fail
  have h1 : Bs (Lib.bytesWorld w 5 (strB s)) (some ⟨w.heap.size, 0, none⟩) s.length s := Bs.of_bytes w s (by omega)
  have h2 : Bs (Lib.bytesWorld (Lib.bytesWorld w 5 (strB s)) 5 (strB t)) (some ⟨(Lib.bytesWorld w 5 (strB s)).heap.size, 0, none⟩) t.length t := Bs.of_bytes _ t (by omega)
  have hE1 := ext_bytes w (strB s)
  have hE2 := ext_bytes (Lib.bytesWorld w 5 (strB s)) (strB t)
  have hb := bss_one (c := grownCap (Lib.bytesWorld w 5 (strB s)) t.length 0 5) h2 (grownCap_ge _ _ _ _)
  have hE3 : Ext w ((Lib.bytesWorld (Lib.bytesWorld w 5 (strB s)) 5 (strB t)).alloc (.cells #[.slice (some ⟨(Lib.bytesWorld w 5 (strB s)).heap.size, 0, none⟩) t.length (grownCap (Lib.bytesWorld w 5 (strB s)) t.length 0 5)] 24)) := (hE1.trans hE2).alloc _
  have hcall := mcode_calls _ (some ⟨w.heap.size, 0, none⟩) (grownCap w s.length 0 5) s _ 1 [t] (HK.out.ext hE3) (HF.out.ext hE3) ((h1.ext hE2).ext ((Ext.refl _).alloc _)) (grownCap_ge _ _ _ _) (by omega) hb (by simp; omega)
  rw [show [t].flatten = t by simp] at hcall
  refine hcall.mono ?_
  rintro e w1 ⟨rfl, hE4⟩
  obtain ⟨cs, hcs⟩ : ∃ cs, cs = Spec.code s t := ⟨_, rfl⟩
  have hcl : cs.length = 32 := by rw [hcs]; exact Spec.code_length s t
  have HBE2 := Aside0.mk (by have h := HBE.out; rw [← hcs] at h; exact h)
  have HLL2 := Aside0.mk (by have h := HLL.out; rw [← hcs] at h; exact h)
  rw [← hcs]
  have HE4 := Aside0.mk (hE3.trans hE4)
  have HCL := Aside0.mk hcl
  have HCZ := Aside0.mk (show (cs.map cell).toArray.size = 32 by simp [hcl])
  clear hcall hE4 hE3 hb hE2 hE1 h1 h2 hcv1 hcv2 hcl hcs HBE HLL
  go_wp2_with (with_reducible change wpList _ _ _ (Oper.mk _ (Op.store 28 _ _) _ _ _ _ :: _) _ _; refine Aside0.out ?_)
  refine Aside0.mk ?_
  refine wpList_store_row rfl 28 _ _ rfl w1.heap.size (cs.map cell).toArray rfl (by simp only [go_sem, hashV, Act.eval, Act.put]; rfl) 28 _ (heap_alloc_new _ _) (by rw [HCZ.out]; kernel_rfl) (by rw [HCZ.out]; rfl) (oneCells _) ?_
  obtain ⟨R, hR⟩ : ∃ R, R = w1.heap.size := ⟨_, rfl⟩
  have hEr : Ext w1 ((w1.alloc (.cells (z8 32).toArray 28)).setRow w1.heap.size (cs.map cell).toArray) := below_alloc_setRow _ _ _
  refine wpList_world (fun w3 => Ext w w3 ∧ Row w3 R (cs.map cell) 28) ⟨HE4.out.trans hEr, by rw [hR]; exact alloc_setRow _ _ _ _⟩ ?_
  rintro w3 ⟨hE3, hR3⟩
  rw [← hR]
  have key : ∀ i, i < 32 → w3.cell? ⟨R, i, none⟩ = some (.int .u8 (n8 (cs.getD i 0))) := fun i hi => hR3.cell (by
    rw [List.getElem?_map, List.getElem?_eq_getElem (by rw [HCL.out]; exact hi)]
    simp [List.getD, HCL.out, hi, cell, n8])
  have c0 := key 0 (by omega)
  have c1 := key 1 (by omega)
  have c2 := key 2 (by omega)
  have c3 := key 3 (by omega)
  have c31 := key 31 (by omega)
  obtain ⟨x0, hx0⟩ : ∃ x, x = cs.getD 0 0 := ⟨_, rfl⟩
  obtain ⟨x1, hx1⟩ : ∃ x, x = cs.getD 1 0 := ⟨_, rfl⟩
  obtain ⟨x2, hx2⟩ : ∃ x, x = cs.getD 2 0 := ⟨_, rfl⟩
  obtain ⟨x3, hx3⟩ : ∃ x, x = cs.getD 3 0 := ⟨_, rfl⟩
  have hbe := HBE2.out
  rw [← hx0, ← hx1, ← hx2, ← hx3, Spec.be] at hbe
  rw [← hx0] at c0
  rw [← hx1] at c1
  rw [← hx2] at c2
  rw [← hx3] at c3
  rw [HLL2.out] at c31
  have HE5 := Aside0.mk hE3
  clear hE3 hR3 hR hEr key hx0 hx1 hx2 hx3
  go_wp2
  go_ret
  exact ⟨rfl, HE5.out⟩
end Go.Proofs.YtnkhhnfmijljbaaDoor
