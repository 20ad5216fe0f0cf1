/- (*mac.Keyed).Write, Code, Copy; of a code that is none. -/
import Derived.Test.YtnkhhnfmijljbaaDoorMNw
set_option linter.unusedVariables false
set_option linter.unusedSimpArgs false
namespace Go.Proofs.YtnkhhnfmijljbaaDoor
open Go.RowKit Go.Proofs.YtnkhhnfmijljbaaDoorW.PrintWords Go.Proofs.YtnkhhnfmijljbaaDoorW.PrintLast Go.Proofs.YtnkhhnfmijljbaaDoorW.PrintMore
open Extern.Stop (cell)

theorem kyL_0 (s : Nat) (o : List UInt8) : (kyL s o)[0]? = some (.pointer (some ⟨s, 0, none⟩)) := rfl
/-- the outer block of a Keyed -/
theorem Bs.at1 {w : World} {g s n : Nat} {xs : List UInt8} {t : TypeId} (h : Row w g (kyL s xs) t) (hn : n = xs.length) (hl : xs.length ≤ 9223372036854775807 := by first | omega | (simp [Spec.xorL_length, Spec.key_length])) : Bs w (some ⟨g, 1, none⟩) n xs := by
  subst hn
  refine Kd.C_of_reads (h1 := fun _ => rfl) (d := (0 : Int)) ⟨ints_length xs, hl, fun hp => ⟨_, rfl, fun j hj => ?_⟩⟩
  rw [addr_add, Nat.add_comm]
  refine h.cell ?_
  rw [kyL, List.getElem?_cons_succ, List.getElem?_map, List.getElem?_eq_getElem hj]
  simp [ints, List.getD, hj, Extern.Stop.cell, n8]
theorem kwrite_none (w : World) (A : Option Addr) (n c : Nat) : Calls Tryd.prog 32 #[.pointer none, .slice A n c] w (fun e w' => e = .returned (.tuple #[]) ∧ w' = w) := by
  go_enter Tryd.func32, Tryd.ntmps32
  go_wp2
  go_end0
  exact ⟨rfl, rfl⟩
theorem kcopy_none (w : World) : Calls Tryd.prog 30 #[.pointer none] w (fun e w' => e = .returned (.pointer none) ∧ w' = w) := by
  go_enter Tryd.func30, Tryd.ntmps30
  go_wp2
  go_ret
  exact ⟨rfl, rfl⟩
set_option maxHeartbeats 1000000 in
set_option maxRecDepth 100000 in
theorem kwrite_calls (w : World) (g s : Nat) (sec bs : List UInt8) (A : Option Addr) (c : Nat) (xs : List UInt8) (hK : KTab w) (hY : Ky w g s sec bs) (hx : Bs w A xs.length xs) (hc : xs.length ≤ c)
    (hne : ∀ ad, A = some ad → 0 < xs.length → ad.block ≠ s) (hlen : bs.length + xs.length < 4611686018427387000) :
    Calls Tryd.prog 32 #[.pointer (some ⟨g, 0, none⟩), .slice A xs.length c] w (fun e w' => e = .returned (.tuple #[]) ∧ Only w s w' ∧ Ky w' g s sec (bs ++ xs)) := by
  have c0 := hY.row.cell (kyL_0 s _)
  have HK := Aside0.mk hK
  have HY := Aside0.mk hY
  have HX := Aside0.mk hx
  have HNE := Aside0.mk hne
  clear hK hY hx hne
  go_enter Tryd.func32, Tryd.ntmps32
  go_wp2_with fail
  refine (write_calls w s (Spec.xorL 0x36 (Spec.key sec) ++ bs) A c xs HK.out HY.out.st HX.out hc HNE.out (by rw [List.length_append, Spec.xorL_length, Spec.key_length]; omega)).mono ?_
  rintro e w1 ⟨rfl, hO, hS⟩
  have HO := Aside0.mk hO
  have HS := Aside0.mk hS
  clear hO hS c0
  go_wp2
  go_end0
  exact ⟨rfl, HO.out, HO.out.row HY.out.row (fun e => HY.out.ne e.symm), by rw [← List.append_assoc]; exact HS.out, HY.out.ne⟩
set_option maxHeartbeats 1000000 in
set_option maxRecDepth 100000 in
theorem kcode_none (w : World) : Calls Tryd.prog 31 #[.pointer none] w (fun e w' => e = .returned (hashV zeroHash) ∧ Below w.heap.size w w') := by
  obtain ⟨B, hBdef⟩ : ∃ B, B = w.heap.size := ⟨_, rfl⟩
  have HBD := Aside0.mk hBdef
  go_enter Tryd.func31, Tryd.ntmps31
  go_wp2_with (with_reducible change wpList _ _ _ (Oper.mk _ (Op.store 28 _ _) _ _ _ _ :: _) _ _; refine Aside0.out ?_)
  refine Aside0.mk ?_
  refine wpList_store_row rfl 28 _ _ rfl w.heap.size (zeroHash.map cell).toArray rfl (by simp only [go_sem, Act.eval, Act.put]; rfl) 28 _ (heap_alloc_new _ _) (by kernel_rfl) rfl (oneCells _) ?_
  go_wp2
  (try simp only [Exit.inBlock, Exit.then])
  refine bodyPost_ret (results_cell_row rfl _ _ w.heap.size 28 (zeroHash.map cell).toArray (0, 0) _ rfl (setRow_heap _ _ _ _ _ _ (heap_alloc_new _ _)) Tryd.underlying28 rfl (by kernel_rfl)) rfl ?_
  exact ⟨rfl, below_alloc_setRow _ _ _⟩
set_option maxHeartbeats 1000000 in
set_option maxRecDepth 100000 in
theorem kcode_calls (w : World) (g s : Nat) (sec bs : List UInt8) (hK : KTab w) (hF : FTab w) (hY : Ky w g s sec bs) (hlen : bs.length < 400000000000000000) :
    Calls Tryd.prog 31 #[.pointer (some ⟨g, 0, none⟩)] w (fun e w' => e = .returned (hashV (Spec.code sec bs)) ∧ Below w.heap.size w w') := by
  obtain ⟨B, hBdef⟩ : ∃ B, B = w.heap.size := ⟨_, rfl⟩
  have HBD := Aside0.mk hBdef
  have HK := Aside0.mk hK
  have HF := Aside0.mk hF
  have HY := Aside0.mk hY
  clear hK hF hY
  go_enter Tryd.func31, Tryd.ntmps31
  go_wp2_with (with_reducible refine gate_dst (N := 5) rfl ?_; refine Aside0.out ?_)
  refine Aside0.mk ?_
  refine wpList_world (fun w1 => Ext w w1 ∧ w1.heap.size = B + 1 ∧ Row w1 B (z8 32) 28) ⟨(Ext.refl w).alloc _, by simp [hBdef], by rw [hBdef]; exact Row.alloc w (z8 32) 28⟩ ?_
  rintro w1 ⟨hE1, hS1, hA1⟩
  rw [← hBdef]
  have HE1 := Aside0.mk hE1
  have HS1 := Aside0.mk hS1
  have HA1 := Aside0.mk hA1
  have c0 := (HY.out.row.ext hE1).cell (kyL_0 s _)
  clear hE1 hS1 hA1 hBdef
  go_wp2_with fail
  refine (sum_calls w1 s (Spec.xorL 0x36 (Spec.key sec) ++ bs) (HK.out.ext HE1.out) (HY.out.st.ext HE1.out) (by rw [List.length_append, Spec.xorL_length, Spec.key_length]; omega)).mono ?_
  rintro e w2 ⟨rfl, hE2⟩
  obtain ⟨ds, hds⟩ : ∃ ds, ds = Spec.digest (Spec.xorL 0x36 (Spec.key sec) ++ bs) := ⟨_, rfl⟩
  rw [← hds]
  have HE2 := Aside0.mk (HE1.out.trans hE2)
  have HA2 := Aside0.mk (HA1.out.ext hE2)
  have HDS := Aside0.mk hds
  have HDL := Aside0.mk (show ds.length = 32 by rw [hds]; exact Spec.digest_length _)
  have hsz2 : B < w2.heap.size := (HA1.out.ext hE2).lt
  have HDZ := Aside0.mk (show (ds.map cell).toArray.size = 32 by simp [HDL.out])
  clear hE2 hds c0
  go_wp2_with (with_reducible change wpList _ _ _ (Oper.mk _ (Op.store 28 _ _) _ _ _ _ :: _) _ _; refine Aside0.out ?_)
  refine Aside0.mk ?_
  refine wpList_store_row rfl 28 _ _ rfl w2.heap.size (ds.map cell).toArray rfl (by simp only [go_sem, hashV, Act.eval, Act.put]; rfl) 28 _ (heap_alloc_new _ _) (by rw [HDZ.out]; kernel_rfl) (by rw [HDZ.out]; rfl) (oneCells _) ?_
  obtain ⟨R, hR⟩ : ∃ R, R = w2.heap.size := ⟨_, rfl⟩
  have hEr : Ext w2 ((w2.alloc (.cells (z8 32).toArray 28)).setRow w2.heap.size (ds.map cell).toArray) := below_alloc_setRow _ _ _
  refine wpList_world (fun w3 => Ext w w3 ∧ Row w3 R (ds.map cell) 28 ∧ Row w3 B (z8 32) 28) ⟨HE2.out.trans hEr, by rw [hR]; exact alloc_setRow _ _ _ _, HA2.out.ext hEr⟩ ?_
  rintro w3 ⟨hE3, hR3, hA3⟩
  rw [← hR]
  have HE3 := Aside0.mk hE3
  have HR3 := Aside0.mk hR3
  have HA3 := Aside0.mk hA3
  clear hE3 hR3 hA3 hEr hR
  go_wp2_with fail
  refine ext_tail 8 [(0, 12), (1, 13), (2, 14), (3, 15), (4, 16), (5, 17), (6, 18)] [0, 1, 2, 3, 4, 5, 6] (fun i w v => match i with | 0 => v = .pointer (some ⟨g, 0, none⟩) | 1 => v = .pointer (some ⟨g, 0, none⟩) | 2 => v = .pointer (some ⟨g, 1, none⟩) | 3 => v = .slice (some ⟨g, 1, none⟩) 64 64 | 4 => v = .slice (some ⟨R, 0, none⟩) 32 32 | 5 => ∃ b, v = .slice (some ⟨b, 0, none⟩) 2 2 ∧ Bss w (some ⟨b, 0, none⟩) 2 [(Spec.xorL 0x5c (Spec.key sec)), ds] | 6 => v = hashV (Spec.code sec bs) | _ => True) (by kernel_rfl) (by kernel_rfl) (by rfl) rfl ?mono4 ?steps4 ?fin4
  case mono4 =>
    intro i w w' v h hE
    match i with
    | 0 => exact h
    | 1 => exact h
    | 2 => exact h
    | 3 => exact h
    | 4 => exact h
    | 5 => exact (by obtain ⟨b, h1, h2⟩ := h; exact ⟨b, h1, h2.below hE⟩)
    | 6 => exact h
    | _ + 7 => trivial
  case steps4 =>
    refine stepE_cons ⟨_, rfl, fun a w hE hH => ?_⟩ ?_
    ·
      have e0 : a.tmps[0]? = some (.pointer (some ⟨g, 0, none⟩)) := hH.old 0 rfl
      exact Or.inl ⟨rfl, goodE_move _ rfl (eval_of e0) rfl⟩
    refine stepE_cons ⟨_, rfl, fun a w hE hH => ?_⟩ ?_
    ·
      obtain ⟨v12, e12, g12⟩ := hH.dep 0 12 rfl (by kernel_rfl)
      have q12 : v12 = .pointer (some ⟨g, 0, none⟩) := g12
      subst q12
      exact Or.inl ⟨rfl, goodE_val (.pointer (some ⟨g, 0, none⟩)) (by simp [execOp, Act.eval, e12, go_sem]) rfl⟩
    refine stepE_cons ⟨_, rfl, fun a w hE hH => ?_⟩ ?_
    ·
      obtain ⟨v13, e13, g13⟩ := hH.dep 1 13 rfl (by kernel_rfl)
      have q13 : v13 = .pointer (some ⟨g, 0, none⟩) := g13
      subst q13
      exact Or.inl ⟨rfl, goodE_val (.pointer (some ⟨g, 1, none⟩)) (by simp [execOp, Act.eval, e13, go_sem]) rfl⟩
    refine stepE_cons ⟨_, rfl, fun a w hE hH => ?_⟩ ?_
    ·
      obtain ⟨v14, e14, g14⟩ := hH.dep 2 14 rfl (by kernel_rfl)
      have q14 : v14 = .pointer (some ⟨g, 1, none⟩) := g14
      subst q14
      exact Or.inl ⟨rfl, goodE_val (.slice (some ⟨g, 1, none⟩) 64 64) (by simp [execOp, Act.eval, e14, go_sem]) rfl⟩
    refine stepE_cons ⟨_, rfl, fun a w hE hH => ?_⟩ ?_
    ·
      have e3 : a.tmps[3]? = some (.pointer (some ⟨R, 0, none⟩)) := hH.old 3 rfl
      exact Or.inl ⟨rfl, goodE_val (.slice (some ⟨R, 0, none⟩) 32 32) (by simp [execOp, Act.eval, e3, go_sem]) rfl⟩
    refine stepE_cons ⟨_, rfl, fun a w hE hH => ?_⟩ ?_
    ·
      obtain ⟨v15, e15, g15⟩ := hH.dep 3 15 rfl (by kernel_rfl)
      have q15 : v15 = .slice (some ⟨g, 1, none⟩) 64 64 := g15
      subst q15
      obtain ⟨v16, e16, g16⟩ := hH.dep 4 16 rfl (by kernel_rfl)
      have q16 : v16 = .slice (some ⟨R, 0, none⟩) 32 32 := g16
      subst q16
      have hg := (HY.out.row.ext HE3.out).drew.ext hE
      have h1 : Bs w (some ⟨g, 1, none⟩) 64 (Spec.xorL 0x5c (Spec.key sec)) := Bs.at1 hg (by rw [Spec.xorL_length, Spec.key_length])
      have h2 : Bs w (some ⟨R, 0, none⟩) 32 ds := Bs.row (HR3.out.drew.ext hE) HDL.out.symm (by rw [HDL.out]; omega)
      refine Or.inl ⟨(rfl), goodE_new (.slice (some ⟨w.heap.size, 0, none⟩) 2 2) (w.alloc (.cells #[.slice (some ⟨g, 1, none⟩) 64 64, .slice (some ⟨R, 0, none⟩) 32 32] 24)) (by simp [execOp, Act.eval, e15, e16, go_sem]) ((Ext.refl w).alloc _) ⟨_, rfl, bss_two h1 (Nat.le_refl _) h2 (Nat.le_refl _)⟩⟩
    refine stepE_cons ⟨_, rfl, fun a w hE hH => ?_⟩ ?_
    ·
      obtain ⟨v17, e17, g17⟩ := hH.dep 5 17 rfl (by kernel_rfl)
      obtain ⟨b, rfl, hb⟩ := g17
      refine Or.inl ⟨(rfl), goodE_call rfl #[.slice (some ⟨b, 0, none⟩) 2 2] (by simp [Act.eval, e17]) _ Tryd.func16 (by kernel_rfl) (by kernel_rfl) ?_⟩
      refine (shaSum_calls w (some ⟨b, 0, none⟩) 2 [(Spec.xorL 0x5c (Spec.key sec)), ds] (HK.out.ext (HE3.out.trans ((Ext.to_drew _).trans hE))) (HF.out.ext (HE3.out.trans ((Ext.to_drew _).trans hE))) hb (by simp [Spec.xorL_length, Spec.key_length, HDL.out])).mono ?_
      rintro e w' ⟨rfl, h⟩
      exact ⟨_, rfl, h, by show hashV _ = hashV _; rw [Spec.code, ← HDS.out]; simp⟩
    exact stepE_nil
  refine ⟨⟨none, .store 28 (.tmp 2) (.tmp 18), _, _, _, none⟩, rfl, ?_⟩
  rintro vals wz hE hV
  have k18 : vals 6 = hashV (Spec.code sec bs) := hV 6 (by simp) rfl
  refine ⟨rfl, ?_⟩
  intro KK hKK
  simp only [List.map_cons, List.map_nil, putAll, Act.put, List.setIfInBounds_toArray, List.set_cons_zero, List.set_cons_succ, k18]
  have HAz := Aside0.mk ((HA3.out.drew).ext hE)
  have HEz := Aside0.mk (HE3.out.trans ((Ext.to_drew _).trans hE))
  have HCZ := Aside0.mk (show ((Spec.code sec bs).map cell).toArray.size = 32 by simp [Spec.code_length])
  refine wp_store_row 28 _ _ rfl B ((Spec.code sec bs).map cell).toArray rfl (by simp only [go_sem, hashV, Act.eval, Act.put]; rfl) 28 _ HAz.out (by rw [HCZ.out]; kernel_rfl) (by rw [HCZ.out]; rfl) (oneCells _) (hKK _ _ ?_)
  clear hE hV k18 hKK
  go_wp2
  (try simp only [Exit.inBlock, Exit.then])
  refine bodyPost_ret (results_cell_row rfl _ _ B 28 ((Spec.code sec bs).map cell).toArray (0, 0) _ rfl (setRow_heap _ _ _ _ _ _ HAz.out) Tryd.underlying28 rfl (by rw [HCZ.out]; kernel_rfl)) rfl ?_
  exact ⟨rfl, Below.setRow HEz.out (by rw [HBD.out]; exact Nat.le_refl _) _⟩
end Go.Proofs.YtnkhhnfmijljbaaDoor
