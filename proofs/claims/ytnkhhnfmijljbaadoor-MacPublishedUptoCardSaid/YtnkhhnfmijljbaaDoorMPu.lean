/- cairnlaw03.MacPublished: true. -/
import Derived.Test.YtnkhhnfmijljbaaDoorLBl
set_option linter.unusedVariables false
set_option linter.unusedSimpArgs false
namespace Go.Proofs.YtnkhhnfmijljbaaDoor.Spec
theorem key_long (s : List UInt8) (h : 64 < s.length) : key (digest s) = key s := by
  have hd := digest_length s
  rw [key, key, if_neg (by omega), if_pos h]
theorem code_long (s m : List UInt8) (h : 64 < s.length) : code (digest s) m = code s m := by rw [code, code, key_long s h]
theorem key_zero (s : List UInt8) (h : s.length < 64) : key (s ++ [0]) = key s := by
  have h1 : ¬ 64 < (s ++ [0]).length := by simp; omega
  rw [key, key, if_neg h1, if_neg (by omega), List.length_append, List.append_assoc]
  congr 1
  rw [show 64 - s.length = (64 - (s.length + [(0 : UInt8)].length)) + 1 by simp; omega, List.replicate_succ]
  rfl
theorem code_zero (s m : List UInt8) (h : s.length < 64) : code (s ++ [0]) m = code s m := by rw [code, code, key_zero s h]
end Go.Proofs.YtnkhhnfmijljbaaDoor.Spec
namespace Go.Proofs.YtnkhhnfmijljbaaDoor
open Go.RowKit Go.Proofs.YtnkhhnfmijljbaaDoorW.PrintWords Go.Proofs.YtnkhhnfmijljbaaDoorW.PrintLast Go.Proofs.YtnkhhnfmijljbaaDoorW.PrintMore
open Extern.Stop (cell)

/-- a fresh copy, its spare room zeros -/
def CopyZ (w : World) (v : Value) (xs : List UInt8) : Prop :=
  (∃ ad, v = .slice (some ad) 0 0 ∧ xs = []) ∨ ∃ b c, v = .slice (some ⟨b, 0, none⟩) xs.length c ∧ xs.length ≤ c ∧ c ≤ maxLen ∧ w.heap[b]? = some (.cells (xs.map cell ++ List.replicate (c - xs.length) (Value.int .u8 0)).toArray 5 (0, 0))
theorem CopyZ.ext {w w' : World} {v : Value} {xs : List UInt8} (h : CopyZ w v xs) (hE : Ext w w') : CopyZ w' v xs := by
  rcases h with h | ⟨b, c, h1, h2, h3, h4⟩
  · exact .inl h
  · exact .inr ⟨b, c, h1, h2, h3, heap_below h4 hE⟩
theorem run_copyZ (W : World) (ty : TypeId) (ad : Addr) (A : Option Addr) (c : Nat) (ys : List UInt8) (h : Bs W A ys.length ys) (hl : ys.length ≤ 140737488355328) :
    ∃ v1 w1, (Builtin.append_ #[24, 24] ty #[.slice (some ad) 0 0, .slice A ys.length c]).run Tryd.prog W = .ok v1 w1 ∧ Ext W w1 ∧ CopyZ w1 v1 ys := by
  obtain ⟨i, hi, hz, hsz, hby⟩ := i5
  rcases Nat.eq_zero_or_pos ys.length with h0 | h0
  · obtain rfl : ys = [] := List.eq_nil_of_length_eq_zero h0
    refine ⟨.slice (some ad) 0 0, W, ?_, Ext.refl W, .inl ⟨ad, rfl, rfl⟩⟩
    cases A with
    | none => simp [Builtin.append_, run_underlying Tryd.underlying24, sizeOf, typeInfo, hi, Builtin.lenOf, Builtin.firstCells, storeCells]
    | some a => simp [Builtin.append_, run_underlying Tryd.underlying24, sizeOf, typeInfo, hi, Builtin.lenOf, Builtin.firstCells, storeCells, loadCells, loadCellsFrom]
  · obtain ⟨a, rfl, _⟩ := h.cells h0
    have hr := run_append_grow (P := Tryd.prog) W 24 ty 5 i (.int .u8 0) Tryd.underlying24 hi hz ad 0 0 [] (by simp) (by intro j v hj; simp at hj) a ys.length c (ys.map cell) (by rw [List.length_map, hsz, Nat.mul_one]) (cells_of_bs h) (by omega) (by omega) (growslice_fits (by omega) (by rw [hby]; omega))
    simp only [Nat.zero_add] at hr
    have hge := grownCap_ge W ys.length 0 5
    refine ⟨_, _, hr, ((Ext.refl W).drew).alloc _, .inr ⟨_, _, rfl, hge, grownCap_le_maxLen _ _ _ _ (by unfold maxLen; omega), ?_⟩⟩
    have e := heap_alloc_new W.drew (.cells (#[] ++ (ys.map cell).toArray ++ Builtin.zeroCells (Value.int .u8 0).cells (grownCap W ys.length 0 5 - ys.length)) 5)
    refine e.trans ?_
    congr 2
    rw [Array.empty_append]
    apply Array.ext'
    simp [Builtin.zeroCells, Value.cells]
    apply List.ext_getElem
    · simp
    · intro k h1 h2
      simp [Nat.mod_one]
theorem run_app0 (W : World) (ty : TypeId) (v : Value) (xs : List UInt8) (b : Nat) (h : CopyZ W v xs) (hb : W.cell? ⟨b, 0, none⟩ = some (.int .u8 0)) (hl : xs.length + 1 ≤ 140737488355328) :
    ∃ v1 w1, (Builtin.append_ #[24, 24] ty #[v, .slice (some ⟨b, 0, none⟩) 1 1]).run Tryd.prog W = .ok v1 w1 ∧ Ext W w1 ∧ Fr 0 w1 v1 (xs ++ [0]) := by
  obtain ⟨i, hi, hz, hsz, hby⟩ := i5
  have hnews : ∀ j u, ([.int .u8 0] : List Value)[j]? = some u → W.cell? ((⟨b, 0, none⟩ : Addr).add j) = some u := by
    intro j u hj
    have h1 := (List.getElem?_eq_some_iff.1 hj).1
    obtain rfl : j = 0 := by simpa using h1
    rw [addr_add]
    simp at hj
    rw [← hj]; exact hb
  have made : ∀ (cap : Nat) (w1 : World), w1.heap[W.heap.size]? = some (.cells ((xs.map cell).toArray ++ #[.int .u8 0] ++ Builtin.zeroCells (Value.int .u8 0).cells cap) 5 (0, 0)) → xs.length + 1 ≤ cap + (xs.length + 1) →
      Bs w1 (some ⟨W.heap.size, 0, none⟩) (xs ++ [0]).length (xs ++ [0]) := by
    intro cap w1 hw _
    refine Kd.C_of_reads (h1 := fun _ => rfl) (d := (0 : Int)) ⟨ints_length _, by simp; omega, fun _ => ⟨_, rfl, fun j hj => ?_⟩⟩
    rw [addr_add, Nat.zero_add, cell_of_row _ _ _ _ _ _ hw]
    have e : (xs.map cell).toArray ++ #[Value.int .u8 0] = ((xs ++ [0]).map cell).toArray := by simp [cell]
    rw [e, Array.getElem?_append_left (by simpa using hj)]
    simp only [List.getElem?_toArray, List.getElem?_map, List.getElem?_eq_getElem hj, Option.map_some, ints, List.getD]
    rfl
  rcases h with ⟨ad, rfl, rfl⟩ | ⟨g, c, rfl, hc, hcm, hg⟩
  · have hr := run_append_grow (P := Tryd.prog) W 24 ty 5 i (.int .u8 0) Tryd.underlying24 hi hz ad 0 0 [] (by simp) (by intro j v hj; simp at hj) ⟨b, 0, none⟩ 1 1 [.int .u8 0] (by rw [hsz]; rfl) hnews (by omega) (by omega) (growslice_fits (by omega) (by rw [hby]; omega))
    refine ⟨_, _, hr, ((Ext.refl W).drew).alloc _, _, _, rfl, grownCap_ge W 1 0 5, ?_, fun _ _ _ => Nat.zero_le _⟩
    exact made _ _ (heap_alloc_new W.drew _) (by omega)
  · have hlc : (xs.map cell ++ List.replicate (c - xs.length) (Value.int .u8 0)).length = c := by simp; omega
    by_cases hroom : xs.length + 1 ≤ c
    · have hr := run_append_room (P := Tryd.prog) W 24 ty 5 i Tryd.underlying24 hi g xs.length c _ hg ⟨b, 0, none⟩ 1 1 [.int .u8 0] (by rw [hsz]; rfl) hnews (by intro u hu; simp at hu; subst hu; rfl) hroom (by rw [hsz, List.size_toArray, hlc]; simpa using hroom)
      rw [hsz, Nat.mul_one] at hr
      have e : ((xs.map cell ++ List.replicate (c - xs.length) (Value.int .u8 0)).toArray.toList.take xs.length ++ [Value.int .u8 0] ++ (xs.map cell ++ List.replicate (c - xs.length) (Value.int .u8 0)).toArray.toList.drop (xs.length + [Value.int .u8 0].length)) = xs.map cell ++ List.replicate (c - xs.length) (Value.int .u8 0) := by
        rw [List.take_append_of_le_length (by simp), List.take_of_length_le (by simp), List.drop_append, List.drop_of_length_le (by simp), List.nil_append, List.drop_replicate, List.append_assoc]
        congr 1
        rw [show c - xs.length = (c - xs.length - (xs.length + [Value.int .u8 0].length - (xs.map cell).length)) + 1 by simp; omega, List.replicate_succ]
        simp
      rw [e, setRow_self W g _ 5 (0, 0) hg] at hr
      refine ⟨_, W, hr, Ext.refl W, _, c, by rw [List.length_append]; rfl, by simpa using hroom, ?_, fun _ _ _ => Nat.zero_le _⟩
      refine Kd.C_of_reads (h1 := fun _ => rfl) (d := (0 : Int)) ⟨ints_length _, by simp; omega, fun _ => ⟨_, rfl, fun j hj => ?_⟩⟩
      rw [addr_add, Nat.zero_add, cell_of_row _ _ _ _ _ _ hg]
      have e2 : xs.map cell ++ List.replicate (c - xs.length) (Value.int .u8 0) = (xs ++ [0]).map cell ++ List.replicate (c - xs.length - 1) (Value.int .u8 0) := by
        rw [show c - xs.length = (c - xs.length - 1) + 1 by omega, List.replicate_succ]
        simp [cell]
      rw [List.getElem?_toArray, e2, List.getElem?_append_left (by simpa using hj)]
      simp only [List.getElem?_map, List.getElem?_eq_getElem hj, Option.map_some, ints, List.getD]
      rfl
    · obtain rfl : c = xs.length := by omega
      have hr := run_append_grow (P := Tryd.prog) W 24 ty 5 i (.int .u8 0) Tryd.underlying24 hi hz ⟨g, 0, none⟩ xs.length xs.length (xs.map cell) (by rw [hsz, List.length_map, Nat.mul_one]) (fun j u hu => by
        rw [addr_add, Nat.zero_add, cell_of_row _ _ _ _ _ _ hg]
        simpa using hu) ⟨b, 0, none⟩ 1 1 [.int .u8 0] (by rw [hsz]; rfl) hnews (by omega) (by omega) (growslice_fits (by omega) (by rw [hby]; omega))
      refine ⟨_, _, hr, ((Ext.refl W).drew).alloc _, _, _, by rw [List.length_append]; rfl, by rw [List.length_append]; exact grownCap_ge W (xs.length + 1) xs.length 5, ?_, fun _ _ _ => Nat.zero_le _⟩
      exact made _ _ (heap_alloc_new W.drew _) (by omega)
set_option maxHeartbeats 2000000 in
set_option maxRecDepth 100000 in
theorem macPublished_calls (w : World) (A : Option Addr) (c : Nat) (xs : List UInt8) (A2 : Option Addr) (c2 : Nat) (ms : List UInt8) (hK : KTab w) (hF : FTab w) (hx : Bs w A xs.length xs) (hc : xs.length ≤ c) (hl : xs.length ≤ 1048576)
    (hm : Bs w A2 ms.length ms) (hc2 : ms.length ≤ c2) (hml : ms.length ≤ 1048576) :
    Calls Tryd.prog 8 #[.slice A xs.length c, .slice A2 ms.length c2] w (fun e w' => e = .returned (.bool true) ∧ Below w.heap.size w w') := by
  have HK := Aside0.mk hK
  have HF := Aside0.mk hF
  have HX := Aside0.mk hx
  have HM := Aside0.mk hm
  clear hK hF hx hm
  go_enter Tryd.func8, Tryd.ntmps8
  go_wp2_with fail
  refine (lblock_calls w A c xs 0x36 HK.out HF.out HX.out hc (by omega)).mono ?_
  rintro e w1 ⟨b1, rfl, hb1, hE1, hR1⟩
  have hBs1 := Bs.row hR1 (n := 64) (by rw [Spec.xorL_length, Spec.key_length]) (by rw [Spec.xorL_length, Spec.key_length]; omega)
  have HE1 := Aside0.mk hE1
  have HB1 := Aside0.mk hBs1
  clear hE1 hR1 hBs1
  obtain ⟨is, his⟩ : ∃ is, is = Spec.digest (Spec.xorL 0x36 (Spec.key xs) ++ ms) := ⟨_, rfl⟩
  have HIS := Aside0.mk his
  have HIL := Aside0.mk (show is.length = 32 by rw [his]; exact Spec.digest_length _)
  have HIZ := Aside0.mk (show (is.map cell).toArray.size = 32 by simp [HIL.out])
  obtain ⟨cd, hcd⟩ : ∃ cd, cd = Spec.code xs ms := ⟨_, rfl⟩
  have HCD := Aside0.mk hcd
  have HCL := Aside0.mk (show cd.length = 32 by rw [hcd]; exact Spec.code_length _ _)
  have HCZ := Aside0.mk (show (cd.map cell).toArray.size = 32 by simp [HCL.out])
  have HCO := Aside0.mk (show Spec.digest (Spec.xorL 0x5c (Spec.key xs) ++ is) = cd by rw [hcd, his]; rfl)
  clear his hcd
  go_wp2_with fail
  have hcall := shaSum_calls (w1.alloc (.cells #[.slice (some ⟨b1, 0, none⟩) 64 64, .slice A2 ms.length c2] 24)) (some ⟨w1.heap.size, 0, none⟩) 2 [Spec.xorL 0x36 (Spec.key xs), ms] ((HK.out.ext HE1.out).ext ((Ext.refl _).alloc _)) ((HF.out.ext HE1.out).ext ((Ext.refl _).alloc _))
    (bss_two HB1.out (Nat.le_refl _) (HM.out.ext HE1.out) hc2) (by simp [Spec.xorL_length, Spec.key_length]; omega)
  rw [show [Spec.xorL 0x36 (Spec.key xs), ms].flatten = Spec.xorL 0x36 (Spec.key xs) ++ ms by simp, ← HIS.out] at hcall
  refine hcall.mono ?_
  rintro e w2 ⟨rfl, hE2⟩
  have HE2 := Aside0.mk (HE1.out.trans (((Ext.refl _).alloc _).trans hE2))
  clear hE2 hcall
  go_wp2_with (with_reducible change wpList _ _ _ (Oper.mk _ (Op.store 28 _ _) _ _ _ _ :: _) _ _; refine Aside0.out ?_)
  refine Aside0.mk ?_
  refine wpList_store_row rfl 28 _ _ rfl w2.heap.size (is.map cell).toArray rfl (by simp only [go_sem, hashV, Act.eval, Act.put]; rfl) 28 _ (heap_alloc_new _ _) (by rw [HIZ.out]; kernel_rfl) (by rw [HIZ.out]; rfl) (oneCells _) ?_
  obtain ⟨R, hR⟩ : ∃ R, R = w2.heap.size := ⟨_, rfl⟩
  have hEr : Ext w2 ((w2.alloc (.cells (z8 32).toArray 28)).setRow w2.heap.size (is.map cell).toArray) := below_alloc_setRow _ _ _
  refine wpList_world (fun w3 => Ext w w3 ∧ Row w3 R (is.map cell) 28) ⟨HE2.out.trans hEr, by rw [hR]; exact alloc_setRow _ _ _ _⟩ ?_
  rintro w3 ⟨hE3, hR3⟩
  rw [← hR]
  have HE3 := Aside0.mk hE3
  have HR3 := Aside0.mk hR3
  clear hE3 hR3 hR hEr
  go_wp2_with fail
  have hcall := mcode_calls (w3.alloc (.cells #[.slice A2 ms.length c2] 24)) A c xs (some ⟨w3.heap.size, 0, none⟩) 1 [ms] ((HK.out.ext HE3.out).ext ((Ext.refl _).alloc _)) ((HF.out.ext HE3.out).ext ((Ext.refl _).alloc _)) ((HX.out.ext HE3.out).ext ((Ext.refl _).alloc _)) hc (by omega)
    (bss_one (HM.out.ext HE3.out) hc2) (by simp; omega)
  rw [show [ms].flatten = ms by simp, ← HCD.out] at hcall
  refine hcall.mono ?_
  rintro e w4 ⟨rfl, hE4⟩
  have hE34 : Ext w3 w4 := Ext.trans ((Ext.refl _).alloc _) hE4
  have HE4 := Aside0.mk (HE3.out.trans hE34)
  have HR4 := Aside0.mk (HR3.out.ext hE34)
  clear hE4 hE34 hcall
  go_wp2_with (with_reducible change wpList _ _ _ (Oper.mk _ (Op.store 28 _ _) _ _ _ _ :: _) _ _; refine Aside0.out ?_)
  refine Aside0.mk ?_
  refine wpList_store_row rfl 28 _ _ rfl w4.heap.size (cd.map cell).toArray rfl (by simp only [go_sem, hashV, Act.eval, Act.put]; rfl) 28 _ (heap_alloc_new _ _) (by rw [HCZ.out]; kernel_rfl) (by rw [HCZ.out]; rfl) (oneCells _) ?_
  obtain ⟨C, hC⟩ : ∃ C, C = w4.heap.size := ⟨_, rfl⟩
  have hEr : Ext w4 ((w4.alloc (.cells (z8 32).toArray 28)).setRow w4.heap.size (cd.map cell).toArray) := below_alloc_setRow _ _ _
  refine wpList_world (fun w5 => Ext w w5 ∧ Row w5 R (is.map cell) 28 ∧ Row w5 C (cd.map cell) 28) ⟨HE4.out.trans hEr, HR4.out.ext hEr, by rw [hC]; exact alloc_setRow _ _ _ _⟩ ?_
  rintro w5 ⟨hE5, hR5, hC5⟩
  rw [← hC]
  have HE5 := Aside0.mk hE5
  have HR5 := Aside0.mk hR5
  have HC5 := Aside0.mk hC5
  have HKw := Aside0.mk (HK.out.ext hE5)
  have HFw := Aside0.mk (HF.out.ext hE5)
  clear hE5 hR5 hC5 hC hEr
  go_wp2_with fail
  refine ext_region 11 [(0, 17), (1, 18), (2, 19), (3, 20), (4, 21), (5, 22), (6, 23), (7, 24), (8, 25), (9, 26), (10, 27)] [0, 1, 2, 3, 4, 5, 6, 7, 8, 9, 10] (fun i w v => match i with | 0 => v = (hashV cd) | 1 => v = .slice A xs.length c | 2 => ∃ b, v = .slice (some ⟨b, 0, none⟩) 64 64 ∧ Bs w (some ⟨b, 0, none⟩) 64 (Spec.xorL 0x5c (Spec.key xs)) | 3 => v = .slice (some ⟨R, 0, none⟩) 32 32 | 4 => ∃ b, v = .slice (some ⟨b, 0, none⟩) 2 2 ∧ Bss w (some ⟨b, 0, none⟩) 2 [(Spec.xorL 0x5c (Spec.key xs)), is] | 5 => v = (hashV cd) | 6 => v = .bool false | 7 => v = .bool false | 8 => v = .bool true | 9 => v = .bool false | 10 => v = .bool false | _ => True) (by kernel_rfl) (by kernel_rfl) (by rfl) rfl ?mono3 ?steps3 ?fin3
  case mono3 =>
    intro i w w' v h hE
    match i with
    | 0 => exact h
    | 1 => exact h
    | 2 => exact (by obtain ⟨b, h1, h2⟩ := h; exact ⟨b, h1, h2.ext hE⟩)
    | 3 => exact h
    | 4 => exact (by obtain ⟨b, h1, h2⟩ := h; exact ⟨b, h1, h2.below hE⟩)
    | 5 => exact h
    | 6 => exact h
    | 7 => exact h
    | 8 => exact h
    | 9 => exact h
    | 10 => exact h
    | _ + 11 => trivial
  case steps3 =>
    refine stepE_cons ⟨_, rfl, fun a w hE hH => ?_⟩ ?_
    ·
      have e6 : a.tmps[6]? = some (.pointer (some ⟨C, 0, none⟩)) := hH.old 6 rfl
      exact Or.inl ⟨(rfl), goodE_row C 0 (cd.map cell) _ rfl (eval_of e6) (rangeOfRow ((HC5.out.drew).ext hE)) Tryd.underlying28 rfl (by rw [List.length_map, HCL.out]; kernel_rfl) rfl⟩
    refine stepE_cons ⟨_, rfl, fun a w hE hH => ?_⟩ ?_
    ·
      have e0 : a.tmps[0]? = some (.slice A xs.length c) := hH.old 0 rfl
      exact Or.inl ⟨rfl, goodE_move _ rfl (eval_of e0) rfl⟩
    refine stepE_cons ⟨_, rfl, fun a w hE hH => ?_⟩ ?_
    ·
      obtain ⟨v18, e18, g18⟩ := hH.dep 1 18 rfl (by kernel_rfl)
      have q18 : v18 = .slice A xs.length c := g18
      subst q18
      refine Or.inl ⟨(rfl), goodE_call rfl #[.slice A xs.length c, .int .u8 92] (by simp [Act.eval, e18]) _ Tryd.func25 (by kernel_rfl) (by kernel_rfl) ?_⟩
      refine (lblock_calls w A c xs 0x5c (HKw.out.ext ((Ext.to_drew _).trans hE)) (HFw.out.ext ((Ext.to_drew _).trans hE)) ((HX.out.ext HE5.out).ext ((Ext.to_drew _).trans hE)) hc (by omega)).mono ?_
      rintro e w' ⟨b, rfl, _, h1, h2⟩
      exact ⟨_, rfl, h1, b, rfl, Bs.row h2 (by rw [Spec.xorL_length, Spec.key_length]) (by rw [Spec.xorL_length, Spec.key_length]; omega)⟩
    refine stepE_cons ⟨_, rfl, fun a w hE hH => ?_⟩ ?_
    ·
      have e5 : a.tmps[5]? = some (.pointer (some ⟨R, 0, none⟩)) := hH.old 5 rfl
      exact Or.inl ⟨rfl, goodE_val (.slice (some ⟨R, 0, none⟩) 32 32) (by simp [execOp, Act.eval, e5, go_sem]) rfl⟩
    refine stepE_cons ⟨_, rfl, fun a w hE hH => ?_⟩ ?_
    ·
      obtain ⟨v19, e19, g19⟩ := hH.dep 2 19 rfl (by kernel_rfl)
      obtain ⟨v20, e20, g20⟩ := hH.dep 3 20 rfl (by kernel_rfl)
      have q20 : v20 = .slice (some ⟨R, 0, none⟩) 32 32 := g20
      subst q20
      obtain ⟨b, rfl, hb⟩ := g19
      refine Or.inl ⟨(rfl), goodE_new (.slice (some ⟨w.heap.size, 0, none⟩) 2 2) (w.alloc (.cells #[.slice (some ⟨b, 0, none⟩) 64 64, .slice (some ⟨R, 0, none⟩) 32 32] 24)) (by simp [execOp, Act.eval, e19, e20, go_sem]) ((Ext.refl w).alloc _) ⟨_, rfl, bss_two hb (Nat.le_refl _) (Bs.row ((HR5.out.drew).ext hE) HIL.out.symm (by rw [HIL.out]; omega)) (Nat.le_refl _)⟩⟩
    refine stepE_cons ⟨_, rfl, fun a w hE hH => ?_⟩ ?_
    ·
      obtain ⟨v21, e21, g21⟩ := hH.dep 4 21 rfl (by kernel_rfl)
      obtain ⟨b, rfl, hb⟩ := g21
      refine Or.inl ⟨(rfl), goodE_call rfl #[.slice (some ⟨b, 0, none⟩) 2 2] (by simp [Act.eval, e21]) _ Tryd.func16 (by kernel_rfl) (by kernel_rfl) ?_⟩
      refine (shaSum_calls w (some ⟨b, 0, none⟩) 2 [(Spec.xorL 0x5c (Spec.key xs)), is] (HKw.out.ext ((Ext.to_drew _).trans hE)) (HFw.out.ext ((Ext.to_drew _).trans hE)) hb (by simp [Spec.xorL_length, Spec.key_length, HIL.out])).mono ?_
      rintro e w' ⟨rfl, h⟩
      exact ⟨_, rfl, h, by show hashV _ = hashV _; rw [← HCO.out]; simp⟩
    refine stepE_cons ⟨_, rfl, fun a w hE hH => ?_⟩ ?_
    ·
      obtain ⟨v17, e17, g17⟩ := hH.dep 0 17 rfl (by kernel_rfl)
      have q17 : v17 = (hashV cd) := g17
      subst q17
      obtain ⟨v22, e22, g22⟩ := hH.dep 5 22 rfl (by kernel_rfl)
      have q22 : v22 = (hashV cd) := g22
      subst q22
      exact Or.inl ⟨(rfl), goodE_val (.bool false) (by simp [execOp, Act.eval, e17, e22, eq28 w _ _ HCL.out HCL.out, hashV, go_sem]) rfl⟩
    refine stepE_cons ⟨_, rfl, fun a w hE hH => ?_⟩ ?_
    ·
      obtain ⟨v23, e23, g23⟩ := hH.dep 6 23 rfl (by kernel_rfl)
      exact Or.inl ⟨rfl, goodE_move v23 rfl (eval_of e23) g23⟩
    refine stepE_cons ⟨_, rfl, fun a w hE hH => ?_⟩ ?_
    ·
      obtain ⟨v24, e24, g24⟩ := hH.dep 7 24 rfl (by kernel_rfl)
      have q24 : v24 = .bool false := g24
      subst q24
      refine Or.inl ⟨(wanted_on rfl rfl rfl e24), goodE_call rfl #[.string { data := #[] }, .string { data := #[] }, .int .u32 3054725018, .int .u8 173] (by simp [Act.eval]) _ Tryd.func27 (by kernel_rfl) (by kernel_rfl) ?_⟩
      refine (knownAtC w (HKw.out.ext ((Ext.to_drew _).trans hE)) (HFw.out.ext ((Ext.to_drew _).trans hE))).mono ?_
      rintro e w' ⟨rfl, h⟩
      exact ⟨_, rfl, h, rfl⟩
    refine stepE_cons ⟨_, rfl, fun a w hE hH => ?_⟩ ?_
    ·
      obtain ⟨v25, e25, g25⟩ := hH.dep 8 25 rfl (by kernel_rfl)
      have q25 : v25 = .bool true := g25
      subst q25
      obtain ⟨v24, e24, g24⟩ := hH.dep 7 24 rfl (by kernel_rfl)
      have q24 : v24 = .bool false := g24
      subst q24
      exact Or.inl ⟨wanted_on rfl rfl rfl e24, goodE_val (.bool false) (by simp [execOp, Act.eval, e24, e25, go_sem]) rfl⟩
    refine stepE_cons ⟨_, rfl, fun a w hE hH => ?_⟩ ?_
    ·
      obtain ⟨v24, e24, g24⟩ := hH.dep 7 24 rfl (by kernel_rfl)
      have q24 : v24 = .bool false := g24
      subst q24
      obtain ⟨v26, e26, g26⟩ := hH.dep 9 26 rfl (by kernel_rfl)
      have q26 : v26 = .bool false := g26
      subst q26
      exact Or.inl ⟨rfl, goodE_pick _ (.bool false) rfl (eval_of e24) (by simp [Act.eval, e24, e26]) rfl⟩
    exact stepE_nil
  rintro vals wz hE hV
  have k27 : vals 10 = .bool false := hV 10 (by simp) rfl
  simp only [List.map_cons, List.map_nil, putAll, Act.put, List.setIfInBounds_toArray, List.set_cons_zero, List.set_cons_succ, k27]
  have HE6 := Aside0.mk (HE5.out.trans ((Ext.to_drew _).trans hE))
  have HC6 := Aside0.mk (HC5.out.ext ((Ext.to_drew _).trans hE))
  clear hE hV k27
  by_cases h64 : 64 < xs.length
  · have h64' : (64 : Int) < xs.length := by omega
    go_wp2_with fail
    refine (sumOne_calls wz A xs.length c xs (HK.out.ext HE6.out) (HF.out.ext HE6.out) (HX.out.ext HE6.out) hc (by omega)).mono ?_
    rintro e w7 ⟨rfl, hE7⟩
    have HE7 := Aside0.mk (HE6.out.trans hE7)
    have HC7 := Aside0.mk (HC6.out.ext hE7)
    obtain ⟨sd, hsd⟩ : ∃ sd, sd = Spec.digest xs := ⟨_, rfl⟩
    have HSL := Aside0.mk (show sd.length = 32 by rw [hsd]; exact Spec.digest_length _)
    have HSZ := Aside0.mk (show (sd.map cell).toArray.size = 32 by simp [HSL.out])
    have HSC := Aside0.mk (show Spec.code sd ms = cd by rw [hsd, HCD.out]; exact Spec.code_long xs ms h64)
    rw [← hsd]
    clear hE7 hsd
    go_wp2_with (with_reducible change wpList _ _ _ (Oper.mk _ (Op.store 28 _ _) _ _ _ _ :: _) _ _; refine Aside0.out ?_)
    refine Aside0.mk ?_
    refine wpList_store_row rfl 28 _ _ rfl w7.heap.size (sd.map cell).toArray rfl (by simp only [go_sem, hashV, Act.eval, Act.put]; rfl) 28 _ (heap_alloc_new _ _) (by rw [HSZ.out]; kernel_rfl) (by rw [HSZ.out]; rfl) (oneCells _) ?_
    obtain ⟨S, hS⟩ : ∃ S, S = w7.heap.size := ⟨_, rfl⟩
    have hEr : Ext w7 ((w7.alloc (.cells (z8 32).toArray 28)).setRow w7.heap.size (sd.map cell).toArray) := below_alloc_setRow _ _ _
    refine wpList_world (fun w8 => Ext w w8 ∧ Row w8 S (sd.map cell) 28 ∧ Row w8 C (cd.map cell) 28) ⟨HE7.out.trans hEr, by rw [hS]; exact alloc_setRow _ _ _ _, HC7.out.ext hEr⟩ ?_
    rintro w8 ⟨hE8, hS8, hC8⟩
    rw [← hS]
    have HE8 := Aside0.mk hE8
    have HS8 := Aside0.mk hS8
    have HC8 := Aside0.mk hC8
    have HK8 := Aside0.mk (HK.out.ext hE8)
    have HF8 := Aside0.mk (HF.out.ext hE8)
    clear hE8 hS8 hC8 hS hEr
    go_wp2_with fail
    refine ext_region 7 [(0, 34), (1, 35), (2, 36), (3, 37), (4, 38), (5, 39), (6, 4)] [0, 1, 2, 3, 4, 5, 6] (fun i w v => match i with | 0 => v = (hashV cd) | 1 => v = .slice (some ⟨S, 0, none⟩) 32 32 | 2 => v = .slice A2 ms.length c2 | 3 => ∃ b, v = .slice (some ⟨b, 0, none⟩) 1 1 ∧ Bss w (some ⟨b, 0, none⟩) 1 [ms] | 4 => v = (hashV cd) | 5 => v = .bool true | 6 => v = .bool true | _ => True) (by kernel_rfl) (by kernel_rfl) (by rfl) rfl ?mono7 ?steps7 ?fin7
    case mono7 =>
      intro i w w' v h hE
      match i with
      | 0 => exact h
      | 1 => exact h
      | 2 => exact h
      | 3 => exact (by obtain ⟨b, h1, h2⟩ := h; exact ⟨b, h1, h2.below hE⟩)
      | 4 => exact h
      | 5 => exact h
      | 6 => exact h
      | _ + 7 => trivial
    case steps7 =>
      refine stepE_cons ⟨_, rfl, fun a w hE hH => ?_⟩ ?_
      ·
        have e6 : a.tmps[6]? = some (.pointer (some ⟨C, 0, none⟩)) := hH.old 6 rfl
        exact Or.inl ⟨(rfl), goodE_row C 0 (cd.map cell) _ rfl (eval_of e6) (rangeOfRow ((HC8.out.drew).ext hE)) Tryd.underlying28 rfl (by rw [List.length_map, HCL.out]; kernel_rfl) rfl⟩
      refine stepE_cons ⟨_, rfl, fun a w hE hH => ?_⟩ ?_
      ·
        have e7 : a.tmps[7]? = some (.pointer (some ⟨S, 0, none⟩)) := hH.old 7 rfl
        exact Or.inl ⟨rfl, goodE_val (.slice (some ⟨S, 0, none⟩) 32 32) (by simp [execOp, Act.eval, e7, go_sem]) rfl⟩
      refine stepE_cons ⟨_, rfl, fun a w hE hH => ?_⟩ ?_
      ·
        have e1 : a.tmps[1]? = some (.slice A2 ms.length c2) := hH.old 1 rfl
        exact Or.inl ⟨rfl, goodE_move _ rfl (eval_of e1) rfl⟩
      refine stepE_cons ⟨_, rfl, fun a w hE hH => ?_⟩ ?_
      ·
        obtain ⟨v36, e36, g36⟩ := hH.dep 2 36 rfl (by kernel_rfl)
        have q36 : v36 = .slice A2 ms.length c2 := g36
        subst q36
        exact Or.inl ⟨(rfl), goodE_new (.slice (some ⟨w.heap.size, 0, none⟩) 1 1) (w.alloc (.cells #[.slice A2 ms.length c2] 24)) (by simp [execOp, Act.eval, e36, go_sem]) ((Ext.refl w).alloc _) ⟨_, rfl, bss_one ((HM.out.ext HE8.out).ext ((Ext.to_drew _).trans hE)) hc2⟩⟩
      refine stepE_cons ⟨_, rfl, fun a w hE hH => ?_⟩ ?_
      ·
        obtain ⟨v35, e35, g35⟩ := hH.dep 1 35 rfl (by kernel_rfl)
        have q35 : v35 = .slice (some ⟨S, 0, none⟩) 32 32 := g35
        subst q35
        obtain ⟨v37, e37, g37⟩ := hH.dep 3 37 rfl (by kernel_rfl)
        obtain ⟨b, rfl, hb⟩ := g37
        have hcall := mcode_calls w (some ⟨S, 0, none⟩) 32 sd (some ⟨b, 0, none⟩) 1 [ms] (HK8.out.ext ((Ext.to_drew _).trans hE)) (HF8.out.ext ((Ext.to_drew _).trans hE)) (by rw [HSL.out]; exact Bs.row ((HS8.out.drew).ext hE) HSL.out.symm (by rw [HSL.out]; omega)) (by rw [HSL.out]; omega) (by rw [HSL.out]; omega) hb (by simp; omega)
        rw [show [ms].flatten = ms by simp, HSC.out, HSL.out] at hcall
        refine Or.inl ⟨(rfl), goodE_call rfl #[.slice (some ⟨S, 0, none⟩) 32 32, .slice (some ⟨b, 0, none⟩) 1 1] (by simp [Act.eval, e35, e37]) _ Tryd.func26 (by kernel_rfl) (by kernel_rfl) (hcall.mono ?_)⟩
        rintro e w' ⟨rfl, h⟩
        exact ⟨_, rfl, h, rfl⟩
      refine stepE_cons ⟨_, rfl, fun a w hE hH => ?_⟩ ?_
      ·
        obtain ⟨v34, e34, g34⟩ := hH.dep 0 34 rfl (by kernel_rfl)
        have q34 : v34 = (hashV cd) := g34
        subst q34
        obtain ⟨v38, e38, g38⟩ := hH.dep 4 38 rfl (by kernel_rfl)
        have q38 : v38 = (hashV cd) := g38
        subst q38
        exact Or.inl ⟨(rfl), goodE_val (.bool true) (by simp [execOp, Act.eval, e34, e38, eq28 w _ _ HCL.out HCL.out, hashV, go_sem]) rfl⟩
      refine stepE_cons ⟨_, rfl, fun a w hE hH => ?_⟩ ?_
      ·
        obtain ⟨v39, e39, g39⟩ := hH.dep 5 39 rfl (by kernel_rfl)
        exact Or.inl ⟨rfl, goodE_assign v39 rfl (eval_of e39) g39⟩
      exact stepE_nil
    rintro vals wz hE hV
    have k4 : vals 6 = .bool true := hV 6 (by simp) rfl
    simp only [List.map_cons, List.map_nil, putAll, Act.put, List.setIfInBounds_toArray, List.set_cons_zero, List.set_cons_succ, k4]
    have HEz := Aside0.mk (HE8.out.trans ((Ext.to_drew _).trans hE))
    clear hE hV
    go_wp2
    go_ret
    exact ⟨rfl, HEz.out⟩
  · have h64' : ¬ ((64 : Int) < xs.length) := by omega
    by_cases he : xs.length = 64
    · have he' : (xs.length : Int) = 64 := by omega
      have hed : decide ((xs.length : Int) = 64) = true := by simpa using he'
      have HE64 := Aside0.mk he
      clear he
      go_wp2_with fail
      refine ext_region 16 [(0, 40), (1, 41), (2, 42), (3, 43), (4, 44), (5, 45), (6, 46), (7, 47), (8, 48), (9, 49), (10, 50), (11, 51), (12, 52), (13, 53), (14, 54), (15, 4)] [0, 1, 2, 3, 4, 5, 6, 7, 8, 9, 10, 11, 12, 13, 14, 15] (fun i w v => match i with | 0 => v = .slice A xs.length c | 1 => v = .int .i64 xs.length | 2 => v = .bool true | 3 => v = .bool true | 4 => v = undef | 5 => v = undef | 6 => v = undef | 7 => v = undef | 8 => v = undef | 9 => v = undef | 10 => v = undef | 11 => v = undef | 12 => v = undef | 13 => v = undef | 14 => v = .bool true | 15 => v = .bool true | _ => True) (by kernel_rfl) (by kernel_rfl) (by rfl) rfl ?mono8a ?steps8a ?fin8a
      case mono8a =>
        intro i w w' v h hE
        match i with
        | 0 => exact h
        | 1 => exact h
        | 2 => exact h
        | 3 => exact h
        | 4 => exact h
        | 5 => exact h
        | 6 => exact h
        | 7 => exact h
        | 8 => exact h
        | 9 => exact h
        | 10 => exact h
        | 11 => exact h
        | 12 => exact h
        | 13 => exact h
        | 14 => exact h
        | 15 => exact h
        | _ + 16 => trivial
      case steps8a =>
        refine stepE_cons ⟨_, rfl, fun a w hE hH => ?_⟩ ?_
        ·
          have e0 : a.tmps[0]? = some (.slice A xs.length c) := hH.old 0 rfl
          exact Or.inl ⟨rfl, goodE_move _ rfl (eval_of e0) rfl⟩
        refine stepE_cons ⟨_, rfl, fun a w hE hH => ?_⟩ ?_
        ·
          obtain ⟨v40, e40, g40⟩ := hH.dep 0 40 rfl (by kernel_rfl)
          have q40 : v40 = .slice A xs.length c := g40
          subst q40
          exact Or.inl ⟨rfl, goodE_val (.int .i64 xs.length) (by simp [execOp, Act.eval, e40, go_sem]) rfl⟩
        refine stepE_cons ⟨_, rfl, fun a w hE hH => ?_⟩ ?_
        ·
          obtain ⟨v41, e41, g41⟩ := hH.dep 1 41 rfl (by kernel_rfl)
          have q41 : v41 = .int .i64 xs.length := g41
          subst q41
          exact Or.inl ⟨(rfl), goodE_val (.bool true) (by simp [execOp, Act.eval, e41, go_sem, he']) rfl⟩
        refine stepE_cons ⟨_, rfl, fun a w hE hH => ?_⟩ ?_
        ·
          obtain ⟨v42, e42, g42⟩ := hH.dep 2 42 rfl (by kernel_rfl)
          exact Or.inl ⟨rfl, goodE_move v42 rfl (eval_of e42) g42⟩
        refine stepE_cons ⟨_, rfl, fun a w hE hH => ?_⟩ ?_
        ·
          have e6 : a.tmps[6]? = some (.pointer (some ⟨C, 0, none⟩)) := hH.old 6 rfl
          obtain ⟨v43, e43, g43⟩ := hH.dep 3 43 rfl (by kernel_rfl)
          have q43 : v43 = .bool true := g43
          subst q43
          exact Or.inr ⟨wanted_off rfl rfl rfl e43, rfl⟩
        refine stepE_cons ⟨_, rfl, fun a w hE hH => ?_⟩ ?_
        ·
          obtain ⟨v43, e43, g43⟩ := hH.dep 3 43 rfl (by kernel_rfl)
          have q43 : v43 = .bool true := g43
          subst q43
          exact Or.inr ⟨wanted_off rfl rfl rfl e43, rfl⟩
        refine stepE_cons ⟨_, rfl, fun a w hE hH => ?_⟩ ?_
        ·
          have e0 : a.tmps[0]? = some (.slice A xs.length c) := hH.old 0 rfl
          obtain ⟨v43, e43, g43⟩ := hH.dep 3 43 rfl (by kernel_rfl)
          have q43 : v43 = .bool true := g43
          subst q43
          exact Or.inr ⟨wanted_off rfl rfl rfl e43, rfl⟩
        refine stepE_cons ⟨_, rfl, fun a w hE hH => ?_⟩ ?_
        ·
          obtain ⟨v45, e45, g45⟩ := hH.dep 5 45 rfl (by kernel_rfl)
          have q45 : v45 = undef := g45
          subst q45
          obtain ⟨v46, e46, g46⟩ := hH.dep 6 46 rfl (by kernel_rfl)
          have q46 : v46 = undef := g46
          subst q46
          obtain ⟨v43, e43, g43⟩ := hH.dep 3 43 rfl (by kernel_rfl)
          have q43 : v43 = .bool true := g43
          subst q43
          exact Or.inr ⟨wanted_off rfl rfl rfl e43, rfl⟩
        refine stepE_cons ⟨_, rfl, fun a w hE hH => ?_⟩ ?_
        ·
          obtain ⟨v43, e43, g43⟩ := hH.dep 3 43 rfl (by kernel_rfl)
          have q43 : v43 = .bool true := g43
          subst q43
          exact Or.inr ⟨wanted_off rfl rfl rfl e43, rfl⟩
        refine stepE_cons ⟨_, rfl, fun a w hE hH => ?_⟩ ?_
        ·
          obtain ⟨v47, e47, g47⟩ := hH.dep 7 47 rfl (by kernel_rfl)
          have q47 : v47 = undef := g47
          subst q47
          obtain ⟨v48, e48, g48⟩ := hH.dep 8 48 rfl (by kernel_rfl)
          have q48 : v48 = undef := g48
          subst q48
          obtain ⟨v43, e43, g43⟩ := hH.dep 3 43 rfl (by kernel_rfl)
          have q43 : v43 = .bool true := g43
          subst q43
          exact Or.inr ⟨wanted_off rfl rfl rfl e43, rfl⟩
        refine stepE_cons ⟨_, rfl, fun a w hE hH => ?_⟩ ?_
        ·
          have e1 : a.tmps[1]? = some (.slice A2 ms.length c2) := hH.old 1 rfl
          obtain ⟨v43, e43, g43⟩ := hH.dep 3 43 rfl (by kernel_rfl)
          have q43 : v43 = .bool true := g43
          subst q43
          exact Or.inr ⟨wanted_off rfl rfl rfl e43, rfl⟩
        refine stepE_cons ⟨_, rfl, fun a w hE hH => ?_⟩ ?_
        ·
          obtain ⟨v50, e50, g50⟩ := hH.dep 10 50 rfl (by kernel_rfl)
          have q50 : v50 = undef := g50
          subst q50
          obtain ⟨v43, e43, g43⟩ := hH.dep 3 43 rfl (by kernel_rfl)
          have q43 : v43 = .bool true := g43
          subst q43
          exact Or.inr ⟨wanted_off rfl rfl rfl e43, rfl⟩
        refine stepE_cons ⟨_, rfl, fun a w hE hH => ?_⟩ ?_
        ·
          obtain ⟨v49, e49, g49⟩ := hH.dep 9 49 rfl (by kernel_rfl)
          have q49 : v49 = undef := g49
          subst q49
          obtain ⟨v51, e51, g51⟩ := hH.dep 11 51 rfl (by kernel_rfl)
          have q51 : v51 = undef := g51
          subst q51
          obtain ⟨v43, e43, g43⟩ := hH.dep 3 43 rfl (by kernel_rfl)
          have q43 : v43 = .bool true := g43
          subst q43
          exact Or.inr ⟨wanted_off rfl rfl rfl e43, rfl⟩
        refine stepE_cons ⟨_, rfl, fun a w hE hH => ?_⟩ ?_
        ·
          obtain ⟨v44, e44, g44⟩ := hH.dep 4 44 rfl (by kernel_rfl)
          have q44 : v44 = undef := g44
          subst q44
          obtain ⟨v52, e52, g52⟩ := hH.dep 12 52 rfl (by kernel_rfl)
          have q52 : v52 = undef := g52
          subst q52
          obtain ⟨v43, e43, g43⟩ := hH.dep 3 43 rfl (by kernel_rfl)
          have q43 : v43 = .bool true := g43
          subst q43
          exact Or.inr ⟨wanted_off rfl rfl rfl e43, rfl⟩
        refine stepE_cons ⟨_, rfl, fun a w hE hH => ?_⟩ ?_
        ·
          obtain ⟨v43, e43, g43⟩ := hH.dep 3 43 rfl (by kernel_rfl)
          have q43 : v43 = .bool true := g43
          subst q43
          obtain ⟨v53, e53, g53⟩ := hH.dep 13 53 rfl (by kernel_rfl)
          have q53 : v53 = undef := g53
          subst q53
          exact Or.inl ⟨(rfl), goodE_pick true (.bool true) rfl (eval_of e43) rfl rfl⟩
        refine stepE_cons ⟨_, rfl, fun a w hE hH => ?_⟩ ?_
        ·
          obtain ⟨v54, e54, g54⟩ := hH.dep 14 54 rfl (by kernel_rfl)
          exact Or.inl ⟨rfl, goodE_assign v54 rfl (eval_of e54) g54⟩
        exact stepE_nil
      rintro vals wz hE hV
      have k4 : vals 15 = .bool true := hV 15 (by simp) rfl
      simp only [List.map_cons, List.map_nil, putAll, Act.put, List.setIfInBounds_toArray, List.set_cons_zero, List.set_cons_succ, k4]
      have HEz := Aside0.mk (HE6.out.trans ((Ext.to_drew _).trans hE))
      clear hE hV
      go_wp2
      go_ret
      exact ⟨rfl, HEz.out⟩
    · have he' : ¬ ((xs.length : Int) = 64) := by omega
      have hed : decide ((xs.length : Int) = 64) = false := by simpa using he'
      have hlt : xs.length < 64 := by omega
      obtain ⟨zs, hzs⟩ : ∃ zs, zs = xs ++ [0] := ⟨_, rfl⟩
      have HZS := Aside0.mk hzs
      have HZL := Aside0.mk (show zs.length ≤ 1048577 by rw [hzs]; simp; omega)
      have HSC := Aside0.mk (show Spec.code zs ms = cd by rw [hzs, HCD.out]; exact Spec.code_zero xs ms hlt)
      clear hzs
      go_wp2_with fail
      refine ext_region 16 [(0, 40), (1, 41), (2, 42), (3, 43), (4, 44), (5, 45), (6, 46), (7, 47), (8, 48), (9, 49), (10, 50), (11, 51), (12, 52), (13, 53), (14, 54), (15, 4)] [0, 1, 2, 3, 4, 5, 6, 7, 8, 9, 10, 11, 12, 13, 14, 15] (fun i w v => match i with | 0 => v = .slice A xs.length c | 1 => v = .int .i64 xs.length | 2 => v = .bool false | 3 => v = .bool false | 4 => v = (hashV cd) | 5 => ∃ ad, v = .slice (some ad) 0 0 | 6 => v = .slice A xs.length c | 7 => CopyZ w v xs | 8 => ∃ b, v = .slice (some ⟨b, 0, none⟩) 1 1 ∧ w.cell? ⟨b, 0, none⟩ = some (.int .u8 0) | 9 => Fr 0 w v zs | 10 => v = .slice A2 ms.length c2 | 11 => ∃ b, v = .slice (some ⟨b, 0, none⟩) 1 1 ∧ Bss w (some ⟨b, 0, none⟩) 1 [ms] | 12 => v = (hashV cd) | 13 => v = .bool true | 14 => v = .bool true | 15 => v = .bool true | _ => True) (by kernel_rfl) (by kernel_rfl) (by rfl) rfl ?mono8b ?steps8b ?fin8b
      case mono8b =>
        intro i w w' v h hE
        match i with
        | 0 => exact h
        | 1 => exact h
        | 2 => exact h
        | 3 => exact h
        | 4 => exact h
        | 5 => exact h
        | 6 => exact h
        | 7 => exact h.ext hE
        | 8 => exact (by obtain ⟨b, h1, h2⟩ := h; exact ⟨b, h1, (hE.cell (p := ⟨b, 0, none⟩) (Go.World.block_lt_of_cell? _ _ h2)).trans h2⟩)
        | 9 => exact h.ext hE
        | 10 => exact h
        | 11 => exact (by obtain ⟨b, h1, h2⟩ := h; exact ⟨b, h1, h2.below hE⟩)
        | 12 => exact h
        | 13 => exact h
        | 14 => exact h
        | 15 => exact h
        | _ + 16 => trivial
      case steps8b =>
        refine stepE_cons ⟨_, rfl, fun a w hE hH => ?_⟩ ?_
        ·
          have e0 : a.tmps[0]? = some (.slice A xs.length c) := hH.old 0 rfl
          exact Or.inl ⟨rfl, goodE_move _ rfl (eval_of e0) rfl⟩
        refine stepE_cons ⟨_, rfl, fun a w hE hH => ?_⟩ ?_
        ·
          obtain ⟨v40, e40, g40⟩ := hH.dep 0 40 rfl (by kernel_rfl)
          have q40 : v40 = .slice A xs.length c := g40
          subst q40
          exact Or.inl ⟨rfl, goodE_val (.int .i64 xs.length) (by simp [execOp, Act.eval, e40, go_sem]) rfl⟩
        refine stepE_cons ⟨_, rfl, fun a w hE hH => ?_⟩ ?_
        ·
          obtain ⟨v41, e41, g41⟩ := hH.dep 1 41 rfl (by kernel_rfl)
          have q41 : v41 = .int .i64 xs.length := g41
          subst q41
          exact Or.inl ⟨(rfl), goodE_val (.bool false) (by simp [execOp, Act.eval, e41, go_sem, he']) rfl⟩
        refine stepE_cons ⟨_, rfl, fun a w hE hH => ?_⟩ ?_
        ·
          obtain ⟨v42, e42, g42⟩ := hH.dep 2 42 rfl (by kernel_rfl)
          exact Or.inl ⟨rfl, goodE_move v42 rfl (eval_of e42) g42⟩
        refine stepE_cons ⟨_, rfl, fun a w hE hH => ?_⟩ ?_
        ·
          have e6 : a.tmps[6]? = some (.pointer (some ⟨C, 0, none⟩)) := hH.old 6 rfl
          obtain ⟨v43, e43, g43⟩ := hH.dep 3 43 rfl (by kernel_rfl)
          have q43 : v43 = .bool false := g43
          subst q43
          exact Or.inl ⟨(wanted_on rfl rfl rfl e43), goodE_row C 0 (cd.map cell) _ rfl (eval_of e6) (rangeOfRow ((HC6.out.drew).ext hE)) Tryd.underlying28 rfl (by rw [List.length_map, HCL.out]; kernel_rfl) rfl⟩
        refine stepE_cons ⟨_, rfl, fun a w hE hH => ?_⟩ ?_
        ·
          obtain ⟨v43, e43, g43⟩ := hH.dep 3 43 rfl (by kernel_rfl)
          have q43 : v43 = .bool false := g43
          subst q43
          exact Or.inl ⟨(wanted_on rfl rfl rfl e43), goodE_new (.slice (some ⟨w.heap.size, 0, none⟩) 0 0) (w.alloc (.cells #[] 5)) (by simp [execOp, go_sem]) ((Ext.refl w).alloc _) ⟨_, rfl⟩⟩
        refine stepE_cons ⟨_, rfl, fun a w hE hH => ?_⟩ ?_
        ·
          have e0 : a.tmps[0]? = some (.slice A xs.length c) := hH.old 0 rfl
          obtain ⟨v43, e43, g43⟩ := hH.dep 3 43 rfl (by kernel_rfl)
          have q43 : v43 = .bool false := g43
          subst q43
          exact Or.inl ⟨wanted_on rfl rfl rfl e43, goodE_move _ rfl (eval_of e0) rfl⟩
        refine stepE_cons ⟨_, rfl, fun a w hE hH => ?_⟩ ?_
        ·
          obtain ⟨v45, e45, g45⟩ := hH.dep 5 45 rfl (by kernel_rfl)
          obtain ⟨v46, e46, g46⟩ := hH.dep 6 46 rfl (by kernel_rfl)
          have q46 : v46 = .slice A xs.length c := g46
          subst q46
          obtain ⟨v43, e43, g43⟩ := hH.dep 3 43 rfl (by kernel_rfl)
          have q43 : v43 = .bool false := g43
          subst q43
          obtain ⟨ad, rfl⟩ := g45
          obtain ⟨v1, w1, hr, h1, h2⟩ := run_copyZ w 24 ad A c xs ((HX.out.ext HE6.out).ext ((Ext.to_drew _).trans hE)) (by omega)
          exact Or.inl ⟨(wanted_on rfl rfl rfl e43), goodE_new v1 w1 (exec_append (s := .tmp 45) (x := .tmp 46) (t := 24) (u := 24) rfl (by rw [eval_of e45, eval_of e46]; exact hr)) h1 h2⟩
        refine stepE_cons ⟨_, rfl, fun a w hE hH => ?_⟩ ?_
        ·
          obtain ⟨v43, e43, g43⟩ := hH.dep 3 43 rfl (by kernel_rfl)
          have q43 : v43 = .bool false := g43
          subst q43
          exact Or.inl ⟨(wanted_on rfl rfl rfl e43), goodE_new (.slice (some ⟨w.heap.size, 0, none⟩) 1 1) (w.alloc (.cells #[.int .u8 0] 5)) (by simp [execOp, Act.eval, go_sem]) ((Ext.refl w).alloc _) ⟨_, rfl, (Row.alloc w [.int .u8 0] 5).cell rfl⟩⟩
        refine stepE_cons ⟨_, rfl, fun a w hE hH => ?_⟩ ?_
        ·
          obtain ⟨v47, e47, g47⟩ := hH.dep 7 47 rfl (by kernel_rfl)
          obtain ⟨v48, e48, g48⟩ := hH.dep 8 48 rfl (by kernel_rfl)
          obtain ⟨v43, e43, g43⟩ := hH.dep 3 43 rfl (by kernel_rfl)
          have q43 : v43 = .bool false := g43
          subst q43
          obtain ⟨b, rfl, hb⟩ := g48
          obtain ⟨v1, w1, hr, h1, h2⟩ := run_app0 w 24 v47 xs b g47 hb (by omega)
          rw [← HZS.out] at h2
          exact Or.inl ⟨(wanted_on rfl rfl rfl e43), goodE_new v1 w1 (exec_append (s := .tmp 47) (x := .tmp 48) (t := 24) (u := 24) rfl (by rw [eval_of e47, eval_of e48]; exact hr)) h1 h2⟩
        refine stepE_cons ⟨_, rfl, fun a w hE hH => ?_⟩ ?_
        ·
          have e1 : a.tmps[1]? = some (.slice A2 ms.length c2) := hH.old 1 rfl
          obtain ⟨v43, e43, g43⟩ := hH.dep 3 43 rfl (by kernel_rfl)
          have q43 : v43 = .bool false := g43
          subst q43
          exact Or.inl ⟨wanted_on rfl rfl rfl e43, goodE_move _ rfl (eval_of e1) rfl⟩
        refine stepE_cons ⟨_, rfl, fun a w hE hH => ?_⟩ ?_
        ·
          obtain ⟨v50, e50, g50⟩ := hH.dep 10 50 rfl (by kernel_rfl)
          have q50 : v50 = .slice A2 ms.length c2 := g50
          subst q50
          obtain ⟨v43, e43, g43⟩ := hH.dep 3 43 rfl (by kernel_rfl)
          have q43 : v43 = .bool false := g43
          subst q43
          exact Or.inl ⟨(wanted_on rfl rfl rfl e43), goodE_new (.slice (some ⟨w.heap.size, 0, none⟩) 1 1) (w.alloc (.cells #[.slice A2 ms.length c2] 24)) (by simp [execOp, Act.eval, e50, go_sem]) ((Ext.refl w).alloc _) ⟨_, rfl, bss_one ((HM.out.ext HE6.out).ext ((Ext.to_drew _).trans hE)) hc2⟩⟩
        refine stepE_cons ⟨_, rfl, fun a w hE hH => ?_⟩ ?_
        ·
          obtain ⟨v49, e49, g49⟩ := hH.dep 9 49 rfl (by kernel_rfl)
          obtain ⟨v51, e51, g51⟩ := hH.dep 11 51 rfl (by kernel_rfl)
          obtain ⟨v43, e43, g43⟩ := hH.dep 3 43 rfl (by kernel_rfl)
          have q43 : v43 = .bool false := g43
          subst q43
          obtain ⟨b, rfl, hb⟩ := g51
          obtain ⟨A9, c9, rfl, hc9, hb9, _⟩ := g49
          have hcall := mcode_calls w A9 c9 zs (some ⟨b, 0, none⟩) 1 [ms] ((HK.out.ext HE6.out).ext ((Ext.to_drew _).trans hE)) ((HF.out.ext HE6.out).ext ((Ext.to_drew _).trans hE)) hb9 hc9 (by have := HZL.out; omega) hb (by simp; omega)
          rw [show [ms].flatten = ms by simp, HSC.out] at hcall
          refine Or.inl ⟨(wanted_on rfl rfl rfl e43), goodE_call rfl #[.slice A9 zs.length c9, .slice (some ⟨b, 0, none⟩) 1 1] (by simp [Act.eval, e49, e51]) _ Tryd.func26 (by kernel_rfl) (by kernel_rfl) (hcall.mono ?_)⟩
          rintro e w' ⟨rfl, h⟩
          exact ⟨_, rfl, h, rfl⟩
        refine stepE_cons ⟨_, rfl, fun a w hE hH => ?_⟩ ?_
        ·
          obtain ⟨v44, e44, g44⟩ := hH.dep 4 44 rfl (by kernel_rfl)
          have q44 : v44 = (hashV cd) := g44
          subst q44
          obtain ⟨v52, e52, g52⟩ := hH.dep 12 52 rfl (by kernel_rfl)
          have q52 : v52 = (hashV cd) := g52
          subst q52
          obtain ⟨v43, e43, g43⟩ := hH.dep 3 43 rfl (by kernel_rfl)
          have q43 : v43 = .bool false := g43
          subst q43
          exact Or.inl ⟨(wanted_on rfl rfl rfl e43), goodE_val (.bool true) (by simp [execOp, Act.eval, e44, e52, eq28 w _ _ HCL.out HCL.out, hashV, go_sem]) rfl⟩
        refine stepE_cons ⟨_, rfl, fun a w hE hH => ?_⟩ ?_
        ·
          obtain ⟨v43, e43, g43⟩ := hH.dep 3 43 rfl (by kernel_rfl)
          have q43 : v43 = .bool false := g43
          subst q43
          obtain ⟨v53, e53, g53⟩ := hH.dep 13 53 rfl (by kernel_rfl)
          have q53 : v53 = .bool true := g53
          subst q53
          exact Or.inl ⟨(rfl), goodE_pick false (.bool true) rfl (eval_of e43) (eval_of e53) rfl⟩
        refine stepE_cons ⟨_, rfl, fun a w hE hH => ?_⟩ ?_
        ·
          obtain ⟨v54, e54, g54⟩ := hH.dep 14 54 rfl (by kernel_rfl)
          exact Or.inl ⟨rfl, goodE_assign v54 rfl (eval_of e54) g54⟩
        exact stepE_nil
      rintro vals wz hE hV
      have k4 : vals 15 = .bool true := hV 15 (by simp) rfl
      simp only [List.map_cons, List.map_nil, putAll, Act.put, List.setIfInBounds_toArray, List.set_cons_zero, List.set_cons_succ, k4]
      have HEz := Aside0.mk (HE6.out.trans ((Ext.to_drew _).trans hE))
      clear hE hV
      go_wp2
      go_ret
      exact ⟨rfl, HEz.out⟩
end Go.Proofs.YtnkhhnfmijljbaaDoor
