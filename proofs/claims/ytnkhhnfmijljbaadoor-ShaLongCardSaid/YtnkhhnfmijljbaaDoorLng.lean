/- cairnlaw02.ShaLong: true. -/
import Derived.Test.YtnkhhnfmijljbaaDoorExw
import Derived.Test.YtnkhhnfmijljbaaDoorTho
set_option linter.unusedVariables false
set_option linter.unusedSimpArgs false
namespace Go.Proofs.YtnkhhnfmijljbaaDoor
open Go.RowKit Go.Proofs.YtnkhhnfmijljbaaDoorW.PrintWords Go.Proofs.YtnkhhnfmijljbaaDoorW.PrintLast Go.Proofs.YtnkhhnfmijljbaaDoorW.PrintMore
open Extern.Stop (cell)

theorem below_to {w a b : World} (h : Below w.heap.size w a) (h2 : Below a.heap.size a b) : Below w.heap.size w b := h.trans ⟨h2.os, h2.tape, h2.output, h2.size, fun k hk => h2.block k (by have := h.size; omega)⟩
/-- the row of bytes while it is filled with x -/
def fillL (x : UInt8) (n j : Nat) : List Value := (List.replicate j x ++ List.replicate (n - j) 0).map cell

theorem fillL_made (x : UInt8) (n : Nat) : madeCells #[Value.int .u8 0] n = (fillL x n 0).toArray := by
  apply Array.ext'
  apply List.ext_getElem
  · simp [fillL, madeCells]
  · intro i h1 h2
    simp [fillL, madeCells, Nat.mod_one, cell]
theorem fillL_length (x : UInt8) (n j : Nat) (h : j ≤ n) : (fillL x n j).length = n := by simp [fillL]; omega
theorem fillL_some (x : UInt8) (n j : Nat) (h : j < n) : ∃ y, (fillL x n j)[j]? = some y := ⟨_, List.getElem?_eq_getElem (by rw [fillL_length x n j (by omega)]; exact h)⟩
theorem fillL_set (x : UInt8) (n j : Nat) (h : j < n) : (fillL x n j).set j (.int .u8 (n8 x)) = fillL x n (j + 1) := by
  have e : n - j = (n - (j + 1)) + 1 := by omega
  rw [fillL, fillL, e, List.replicate_succ, List.map_append, List.map_append, List.map_cons, List.set_append_right _ _ (by simp)]
  rw [show j - ((List.replicate j x).map cell).length = 0 by simp, List.set_cons_zero, show List.replicate (j + 1) x = List.replicate j x ++ [x] from List.replicate_succ', List.map_append]
  simp [cell, n8]
theorem fillL_full (x : UInt8) (n : Nat) : fillL x n n = (List.replicate n x).map cell := by simp [fillL]
set_option maxHeartbeats 1000000 in
set_option maxRecDepth 100000 in
theorem long_calls (w : World) (x : UInt8) (n0 p0 : Int) (hn0 : -9223372036854775808 ≤ n0 ∧ n0 ≤ 9223372036854775807) (hp0 : -9223372036854775808 ≤ p0 ∧ p0 ≤ 9223372036854775807) (hK : KTab w) (hF : FTab w) (hL : LTab w) :
    Calls Tryd.prog 5 #[.int .u8 (n8 x), .int .i64 n0, .int .i64 p0] w (fun e w' => e = .returned (.bool true) ∧ Below w.heap.size w w') := by
  have HK := Aside0.mk hK
  have HF := Aside0.mk hF
  have HL := Aside0.mk hL
  clear hK hF hL
  go_enter Tryd.func5, Tryd.ntmps5
  go_wp2_with fail
  refine (awake_calls w HK.out HF.out HL.out).mono ?_
  rintro e w1 ⟨rfl, hB1⟩
  have HB1 := Aside0.mk hB1
  clear hB1
  go_wp2_with fail
  refine (rest_calls n0 70001 _ hn0 (by omega) (by omega)).mono ?_
  rintro e w2 ⟨rfl, rfl⟩
  go_wp2_with fail
  refine (rest_calls p0 200 _ hp0 (by omega) (by omega)).mono ?_
  rintro e w2 ⟨rfl, rfl⟩
  obtain ⟨n, hn⟩ := Int.eq_ofNat_of_zero_le (Int.emod_nonneg n0 (by omega : (70001 : Int) ≠ 0))
  obtain ⟨p, hp⟩ := Int.eq_ofNat_of_zero_le (Int.emod_nonneg p0 (by omega : (200 : Int) ≠ 0))
  have hn1 : n < 70001 := by omega
  have hp1 : p < 200 := by omega
  rw [hn, hp]
  clear hn hp hn0 hp0
  have hmk := print_make (P := Tryd.prog) 24 5 .u8 1 Tryd.underlying24 info5 (by omega) n (by omega)
  go_wp2_with fail
  obtain ⟨G, hG⟩ : ∃ G, G = w2.heap.size := ⟨_, rfl⟩
  have hwG : w.heap.size ≤ G := by rw [hG]; exact HB1.out.size
  refine wp_world (fun w3 => Below w.heap.size w w3 ∧ w3.heap.size = G + 1 ∧ Row w3 G (fillL x n 0) 5) ⟨HB1.out.alloc HB1.out.size _, by simp [hG], by rw [hG, fillL_made x n]; exact Row.alloc _ _ _⟩ ?_
  rintro w3 ⟨hB3, hS3, hR3⟩
  have HB3 := Aside0.mk hB3
  have HS3 := Aside0.mk hS3
  have HR3 := Aside0.mk hR3
  rw [← hG]
  clear hB3 hS3 hR3 hG hmk
  go_loopw [8] (fun i wr => ∃ j : Nat, j ≤ n ∧ i = .int .i64 j ∧ Below w.heap.size w wr ∧ wr.heap.size = G + 1 ∧ Row wr G (fillL x n j) 5) (fun i _ => n - (intOf i).toNat)
  case atStart => exact ⟨0, by omega, rfl, HB3.out, HS3.out, HR3.out⟩
  case round =>
    obtain ⟨j, hj, rfl, hB, hS, hR⟩ := hrel
    have HB := Aside0.mk hB
    have HS := Aside0.mk hS
    have HR := Aside0.mk hR
    by_cases hlt : j < n
    · obtain ⟨y, hy⟩ := fillL_some x n j hlt
      have c0 := hR.cell hy
      have cf := hR.free j
      have b4 : (0 : Int) ≤ j ∧ (j : Int) < n := by omega
      clear hB hS hR hy
      go_wp2
      go_roundw
      case rel => exact ⟨j + 1, by omega, by simp, HB.out.setCell (p := ⟨G, j, none⟩) hwG _, by simpa using HS.out, by rw [← fillL_set x n j hlt]; exact HR.out.set j _⟩
      case measure => simp [intOf]; omega
    · have hjn : j = n := by omega
      subst hjn
      clear hB hS hR
      go_wp2_with fail
      have hw4 : 4 < w.heap.size := HK.out.1
      refine (new_calls wr (HF.out.below HB.out HF.out.1)).mono ?_
      rintro e w4 ⟨rfl, hB4, hS4, hSt4⟩
      rw [HS.out] at hS4 hSt4 ⊢
      have HB4 := Aside0.mk (below_to HB.out hB4)
      have HR4 := Aside0.mk (HR.out.below hB4 (by rw [HS.out]; omega))
      rw [fillL_full] at HR4
      have HS4 := Aside0.mk hS4
      have HST4 := Aside0.mk hSt4
      clear hB4 hS4 hSt4
      go_wp2_with fail
      go_loopw [10, 11] (fun i _ wr => ∃ k : Nat, k ≤ j + p ∧ i = .int .i64 k ∧ Below w.heap.size w wr ∧ Row wr G ((List.replicate j x).map cell) 5 ∧ St wr (G + 1) (List.replicate (min k j) x) (List.replicate (min k j) x).length) (fun i _ _ => j + p + 1 - (intOf i).toNat)
      case atStart => exact ⟨0, by omega, rfl, HB4.out, HR4.out, by simpa using HST4.out⟩
      case round =>
        obtain ⟨k, hk, rfl, hB, hR, hS⟩ := hrel
        have HB5 := Aside0.mk hB
        have HR5 := Aside0.mk hR
        have HS5 := Aside0.mk hS
        clear hB hR hS
        have hwG' := hwG
        by_cases hlt : k < j
        · have hmin : min k j = k := by omega
          have HS6 := Aside0.mk (by have h := HS5.out; rw [hmin] at h; exact h)
          clear HS5 hmin
          by_cases hend : j < k + (1 + p)
          · have b1 : (j : Int) < (k : Int) + (1 + p) := by omega
            have b2 : ¬ (j = k) := by omega
            go_wp2_with fail
            refine (write_of wr (G + 1) (List.replicate k x) G k (j - k) (j - k) (List.replicate j x) 5 (HK.out.below HB5.out HK.out.1) HS6.out HR5.out (by omega) (by rw [List.length_replicate]; omega) (by omega) (by simp; omega) (by simp; omega)).mono ?_
            rintro e w5 ⟨rfl, hO, hS⟩
            have HB6 := Aside0.mk (below_only HB5.out hO (by omega) (by have := HB5.out.size; omega))
            have HR6 := Aside0.mk (hO.row HR5.out (by omega))
            have HS7 := Aside0.mk hS
            clear hO hS
            go_wp2
            go_roundw
            case rel =>
              refine ⟨k + (1 + p), by omega, by simp, HB6.out, HR6.out, ?_⟩
              have h := HS7.out
              rw [List.drop_replicate, List.take_replicate, List.replicate_append_replicate, show k + min (j - k) (j - k) = min (k + (1 + p)) j by omega] at h
              exact h
            case measure => simp [intOf]; omega
          · have b1 : ¬ ((j : Int) < (k : Int) + (1 + p)) := by omega
            have b2 : ¬ (j = k) := by omega
            go_wp2_with fail
            refine (write_of wr (G + 1) (List.replicate k x) G k (1 + p) (j - k) (List.replicate j x) 5 (HK.out.below HB5.out HK.out.1) HS6.out HR5.out (by omega) (by rw [List.length_replicate]; omega) (by omega) (by simp; omega) (by simp; omega)).mono ?_
            rintro e w5 ⟨rfl, hO, hS⟩
            have HB6 := Aside0.mk (below_only HB5.out hO (by omega) (by have := HB5.out.size; omega))
            have HR6 := Aside0.mk (hO.row HR5.out (by omega))
            have HS7 := Aside0.mk hS
            clear hO hS
            go_wp2
            go_roundw
            case rel =>
              refine ⟨k + (1 + p), by omega, by simp, HB6.out, HR6.out, ?_⟩
              have h := HS7.out
              rw [List.drop_replicate, List.take_replicate, List.replicate_append_replicate, show k + min (1 + p) (j - k) = min (k + (1 + p)) j by omega] at h
              exact h
            case measure => simp [intOf]; omega
        · have hmin : min k j = j := by omega
          have HS6 := Aside0.mk (by have h := HS5.out; rw [hmin] at h; exact h)
          clear HS5 hmin
          go_wp2_with fail
          refine (sum_calls wr (G + 1) (List.replicate j x) (HK.out.below HB5.out HK.out.1) HS6.out (by simp; omega)).mono ?_
          rintro e w6 ⟨rfl, hB6⟩
          have HB7 := Aside0.mk (below_to HB5.out hB6)
          have HRG := Aside0.mk (HR5.out.ext hB6)
          have HST := Aside0.mk (HS6.out.ext hB6)
          clear hB6
          go_wp2_with (with_reducible change wpList _ _ _ (Oper.mk _ (Op.store 28 _ _) _ _ _ _ :: _) _ _; refine Aside0.out ?_)
          refine Aside0.mk ?_
          refine wpList_store_row rfl 28 _ _ rfl w6.heap.size ((Spec.digest (List.replicate j x)).map cell).toArray rfl (by simp [go_sem, hashV]) 28 _ (heap_alloc_new _ _) (by kernel_rfl) rfl (oneCells _) ?_
          go_wp2_with fail
          obtain ⟨S, hS⟩ : ∃ S, S = w6.heap.size := ⟨_, rfl⟩
          have hEs : Ext w6 ((w6.alloc (.cells (z8 32).toArray 28)).setRow w6.heap.size ((Spec.digest (List.replicate j x)).map cell).toArray) := below_alloc_setRow _ _ _
          refine wp_world (fun w8 => Below w.heap.size w w8 ∧ Row w8 S ((Spec.digest (List.replicate j x)).map cell) 28 ∧ Row w8 G ((List.replicate j x).map cell) 5 ∧ St w8 (G + 1) (List.replicate j x) (List.replicate j x).length) ⟨below_to HB7.out hEs, by rw [hS]; exact alloc_setRow _ _ _ _, HRG.out.ext hEs, HST.out.ext hEs⟩ ?_
          rintro w8 ⟨hB8, hR8, hRG8, hST8⟩
          rw [← hS]
          have HBw := Aside0.mk hB8
          have HR8 := Aside0.mk hR8
          have HRGw := Aside0.mk hRG8
          have HSTw := Aside0.mk hST8
          have HKw := Aside0.mk (HK.out.below hB8 HK.out.1)
          have HFw := Aside0.mk (HF.out.below hB8 HF.out.1)
          clear hB8 hR8 hRG8 hST8 hEs hS
          refine ext_region 11 [(0, 58), (1, 59), (2, 60), (3, 61), (4, 62), (5, 63), (6, 64), (7, 65), (8, 66), (9, 67), (10, 68)] [0, 1, 2, 3, 4, 5, 6, 7, 8, 9, 10] (fun i w v => match i with | 0 => v = (hashV (Spec.digest (List.replicate j x))) | 1 => v = .slice (some ⟨G, 0, none⟩) j j | 2 => ∃ b, v = .slice (some ⟨b, 0, none⟩) 1 1 ∧ Bss w (some ⟨b, 0, none⟩) 1 [List.replicate j x] | 3 => v = (hashV (Spec.digest (List.replicate j x))) | 4 => v = .bool false | 5 => v = .bool false | 6 => v = .pointer (some ⟨G + 1, 0, none⟩) | 7 => v = .int .i64 j | 8 => v = .int .i64 j | 9 => v = .bool false | 10 => v = .bool false | _ => True) (by kernel_rfl) (by kernel_rfl) (by rfl) rfl ?mono ?steps ?fin
          case mono =>
            intro i w w' v h hE
            match i with
            | 0 => exact h
            | 1 => exact h
            | 2 => exact (by obtain ⟨b, h1, h2⟩ := h; exact ⟨b, h1, h2.below hE⟩)
            | 3 => exact h
            | 4 => exact h
            | 5 => exact h
            | 6 => exact h
            | 7 => exact h
            | 8 => exact h
            | 9 => exact h
            | 10 => exact h
            | _ + 11 => trivial
          case steps =>
            refine stepE_cons ⟨_, rfl, fun a w hE hH => ?_⟩ ?_
            ·
              have e12 : a.tmps[12]? = some (.pointer (some ⟨S, 0, none⟩)) := hH.old 12 rfl
              exact Or.inl ⟨(rfl), goodE_row S 0 ((Spec.digest (List.replicate j x)).map cell) _ rfl (eval_of e12) (rangeOfRow ((HR8.out.drew).below hE HR8.out.lt)) Tryd.underlying28 rfl (by kernel_rfl) rfl⟩
            refine stepE_cons ⟨_, rfl, fun a w hE hH => ?_⟩ ?_
            ·
              have e7 : a.tmps[7]? = some (.slice (some ⟨G, 0, none⟩) j j) := hH.old 7 rfl
              exact Or.inl ⟨rfl, goodE_move _ rfl (eval_of e7) rfl⟩
            refine stepE_cons ⟨_, rfl, fun a w hE hH => ?_⟩ ?_
            ·
              obtain ⟨v59, e59, g59⟩ := hH.dep 1 59 rfl (by kernel_rfl)
              have q59 : v59 = .slice (some ⟨G, 0, none⟩) j j := g59
              subst q59
              refine Or.inl ⟨(rfl), goodE_new (.slice (some ⟨w.heap.size, 0, none⟩) 1 1) (w.alloc (.cells #[.slice (some ⟨G, 0, none⟩) j j] 24)) (by simp [execOp, Act.eval, e59, go_sem]) ((Ext.refl w).alloc _) ⟨_, rfl, ?_⟩⟩
              exact bss_one (w := w) (A := some ⟨G, 0, none⟩) (n := j) (c := j) (Bs.row ((HRGw.out.drew).below hE HRGw.out.lt) (by simp) (by simp; omega)) (Nat.le_refl _)
            refine stepE_cons ⟨_, rfl, fun a w hE hH => ?_⟩ ?_
            ·
              obtain ⟨v60, e60, g60⟩ := hH.dep 2 60 rfl (by kernel_rfl)
              obtain ⟨b, rfl, hb⟩ := g60
              refine Or.inl ⟨(rfl), goodE_call rfl #[.slice (some ⟨b, 0, none⟩) 1 1] (by simp [Act.eval, e60]) _ Tryd.func16 (by kernel_rfl) (by kernel_rfl) ?_⟩
              refine (shaSum_calls w (some ⟨b, 0, none⟩) 1 [List.replicate j x] (HKw.out.ext ((Ext.to_drew _).trans hE)) (HFw.out.ext ((Ext.to_drew _).trans hE)) hb (by simp; omega)).mono ?_
              rintro e w' ⟨rfl, h⟩
              exact ⟨_, rfl, h, by simp⟩
            refine stepE_cons ⟨_, rfl, fun a w hE hH => ?_⟩ ?_
            ·
              obtain ⟨v58, e58, g58⟩ := hH.dep 0 58 rfl (by kernel_rfl)
              have q58 : v58 = (hashV (Spec.digest (List.replicate j x))) := g58
              subst q58
              obtain ⟨v61, e61, g61⟩ := hH.dep 3 61 rfl (by kernel_rfl)
              have q61 : v61 = (hashV (Spec.digest (List.replicate j x))) := g61
              subst q61
              exact Or.inl ⟨(rfl), goodE_val (.bool false) (by simp [execOp, Act.eval, e58, e61, eq28 w _ _ (Spec.digest_length (List.replicate j x)) (Spec.digest_length (List.replicate j x)), hashV, go_sem]) rfl⟩
            refine stepE_cons ⟨_, rfl, fun a w hE hH => ?_⟩ ?_
            ·
              obtain ⟨v62, e62, g62⟩ := hH.dep 4 62 rfl (by kernel_rfl)
              exact Or.inl ⟨rfl, goodE_move v62 rfl (eval_of e62) g62⟩
            refine stepE_cons ⟨_, rfl, fun a w hE hH => ?_⟩ ?_
            ·
              have e9 : a.tmps[9]? = some (.pointer (some ⟨G + 1, 0, none⟩)) := hH.old 9 rfl
              obtain ⟨v63, e63, g63⟩ := hH.dep 5 63 rfl (by kernel_rfl)
              have q63 : v63 = .bool false := g63
              subst q63
              exact Or.inl ⟨wanted_on rfl rfl rfl e63, goodE_move _ rfl (eval_of e9) rfl⟩
            refine stepE_cons ⟨_, rfl, fun a w hE hH => ?_⟩ ?_
            ·
              obtain ⟨v64, e64, g64⟩ := hH.dep 6 64 rfl (by kernel_rfl)
              have q64 : v64 = .pointer (some ⟨G + 1, 0, none⟩) := g64
              subst q64
              obtain ⟨v63, e63, g63⟩ := hH.dep 5 63 rfl (by kernel_rfl)
              have q63 : v63 = .bool false := g63
              subst q63
              refine Or.inl ⟨(wanted_on rfl rfl rfl e63), goodE_call rfl #[.pointer (some ⟨G + 1, 0, none⟩)] (by simp [Act.eval, e64]) _ Tryd.func22 (by kernel_rfl) (by kernel_rfl) ?_⟩
              refine (len_calls w (G + 1) _ _ (HSTw.out.ext ((Ext.to_drew _).trans hE))).mono ?_
              rintro e w' ⟨rfl, rfl⟩
              exact ⟨_, rfl, Ext.refl _, by simp⟩
            refine stepE_cons ⟨_, rfl, fun a w hE hH => ?_⟩ ?_
            ·
              have e1 : a.tmps[1]? = some (.int .i64 j) := hH.old 1 rfl
              obtain ⟨v63, e63, g63⟩ := hH.dep 5 63 rfl (by kernel_rfl)
              have q63 : v63 = .bool false := g63
              subst q63
              exact Or.inl ⟨wanted_on rfl rfl rfl e63, goodE_move _ rfl (eval_of e1) rfl⟩
            refine stepE_cons ⟨_, rfl, fun a w hE hH => ?_⟩ ?_
            ·
              obtain ⟨v65, e65, g65⟩ := hH.dep 7 65 rfl (by kernel_rfl)
              have q65 : v65 = .int .i64 j := g65
              subst q65
              obtain ⟨v66, e66, g66⟩ := hH.dep 8 66 rfl (by kernel_rfl)
              have q66 : v66 = .int .i64 j := g66
              subst q66
              obtain ⟨v63, e63, g63⟩ := hH.dep 5 63 rfl (by kernel_rfl)
              have q63 : v63 = .bool false := g63
              subst q63
              exact Or.inl ⟨wanted_on rfl rfl rfl e63, goodE_val (.bool false) (by simp [execOp, Act.eval, e65, e66, e63, go_sem]) rfl⟩
            refine stepE_cons ⟨_, rfl, fun a w hE hH => ?_⟩ ?_
            ·
              obtain ⟨v63, e63, g63⟩ := hH.dep 5 63 rfl (by kernel_rfl)
              have q63 : v63 = .bool false := g63
              subst q63
              obtain ⟨v67, e67, g67⟩ := hH.dep 9 67 rfl (by kernel_rfl)
              have q67 : v67 = .bool false := g67
              subst q67
              exact Or.inl ⟨rfl, goodE_pick _ (.bool false) rfl (eval_of e63) (by simp [Act.eval, e67, e63]) rfl⟩
            exact stepE_nil
          rintro vals wz hE hV
          have k68 : vals 10 = .bool false := hV 10 (by simp) rfl
          simp only [List.map_cons, List.map_nil, putAll, Act.put, List.setIfInBounds_toArray, List.set_cons_zero, List.set_cons_succ, k68]

          have HBz := Aside0.mk (below_to HBw.out ((Ext.to_drew _).trans hE))
          clear hE hV k68
          have hmk2 := print_make (P := Tryd.prog) 24 5 .u8 1 Tryd.underlying24 info5 (by omega) 1000 (by omega)
          rw [show ((1000 : Nat) : Int) = 1000 from rfl] at hmk2
          go_wp2_with fail
          obtain ⟨Y, hY⟩ : ∃ Y, Y = wz.heap.size := ⟨_, rfl⟩
          have hwY : w.heap.size ≤ Y := by rw [hY]; exact HBz.out.size
          refine wp_world (fun w9 => Below w.heap.size w w9 ∧ Row w9 Y (fillL 97 1000 0) 5) ⟨HBz.out.alloc HBz.out.size _, by rw [hY, fillL_made 97 1000]; exact Row.alloc _ _ _⟩ ?_
          rintro w9 ⟨hB9, hR9⟩
          have HB9 := Aside0.mk hB9
          have HR9 := Aside0.mk hR9
          rw [← hY]
          clear hB9 hR9 hY hmk2
          go_loopw [14] (fun i wr => ∃ q : Nat, q ≤ 1000 ∧ i = .int .i64 q ∧ Below w.heap.size w wr ∧ Row wr Y (fillL 97 1000 q) 5) (fun i _ => 1000 - (intOf i).toNat)
          case atStart => exact ⟨0, by omega, rfl, HB9.out, HR9.out⟩
          case round =>
            obtain ⟨q, hq, rfl, hB, hR⟩ := hrel
            have HBa := Aside0.mk hB
            have HRa := Aside0.mk hR
            by_cases hlt : q < 1000
            · obtain ⟨y, hy⟩ := fillL_some 97 1000 q hlt
              have c0 := hR.cell hy
              have cf := hR.free q
              have b4 : (0 : Int) ≤ q ∧ (q : Int) < 1000 := by omega
              clear hB hR hy
              go_wp2
              go_roundw
              case rel => exact ⟨q + 1, by omega, by simp, HBa.out.setCell (p := ⟨Y, q, none⟩) hwY _, by rw [← fillL_set 97 1000 q hlt]; exact HRa.out.set q _⟩
              case measure => simp [intOf]; omega
            · obtain rfl : q = 1000 := by omega
              have HRb := Aside0.mk (by have h := hR; rw [fillL_full] at h; exact h)
              obtain ⟨ra, hra⟩ : ∃ ra : List UInt8, ra = List.replicate 1000 97 := ⟨_, rfl⟩
              have HRb2 := Aside0.mk (show Row wr Y (ra.map cell) 5 by rw [hra]; exact HRb.out)
              have HRL := Aside0.mk (show 1000 = ra.length by rw [hra, List.length_replicate])
              have HRA := Aside0.mk hra
              clear hB hR HRa HRb hra
              go_wp2_with fail
              refine (sumOne_calls wr (some ⟨Y, 0, none⟩) 1000 1000 ra (HK.out.below HBa.out HK.out.1) (HF.out.below HBa.out HF.out.1) (Bs.row HRb2.out HRL.out (by have := HRL.out; omega)) (Nat.le_refl _) (by have := HRL.out; omega)).mono ?_
              rintro e w10 ⟨rfl, hE10⟩
              have HB10 := Aside0.mk (below_to HBa.out hE10)
              clear hE10
              go_wp2_with (with_reducible change wpList _ _ _ (Oper.mk _ (Op.store 28 _ _) _ _ _ _ :: _) _ _; refine Aside0.out ?_)
              refine Aside0.mk ?_
              refine wpList_store_row rfl 28 _ _ rfl w10.heap.size ((Spec.digest ra).map cell).toArray rfl (by simp only [go_sem, hashV, Act.eval, Act.put]; rfl) 28 _ (heap_alloc_new _ _) (by kernel_rfl) rfl (oneCells _) ?_
              go_wp2_with (with_reducible refine gate_dst (N := 82) rfl ?_; refine Aside0.out ?_)
              refine Aside0.mk ?_
              obtain ⟨Z, hZ⟩ : ∃ Z, Z = w10.heap.size := ⟨_, rfl⟩
              have hEz : Ext w10 ((w10.alloc (.cells (z8 32).toArray 28)).setRow w10.heap.size ((Spec.digest ra).map cell).toArray) := below_alloc_setRow _ _ _
              refine wpList_world (fun w11 => Below w.heap.size w w11 ∧ Row w11 Z ((Spec.digest ra).map cell) 28) ⟨below_to HB10.out hEz, by rw [hZ]; exact alloc_setRow _ _ _ _⟩ ?_
              rintro w11 ⟨hB11, hR11⟩
              rw [← hZ]
              have HB11 := Aside0.mk hB11
              have HR11 := Aside0.mk hR11
              clear hB11 hR11 hZ hEz
              refine wpL_row (by rfl) Z 0 rfl ((Spec.digest ra).map cell) _ (rangeOfRow HR11.out) Tryd.underlying28 rfl (by kernel_rfl) ?_
              go_wp2_with fail
              refine (digits_calls w11 _ (Spec.digest_length _)).mono ?_
              rintro e w12 ⟨rfl, hE12⟩
              rw [strOf_strB, HRA.out, thousand, show strB thousandL = { data := #[52, 49, 101, 100, 101, 99, 101, 52, 50, 100, 54, 51, 101, 56, 100, 57, 98, 102, 53, 49, 53, 97, 57, 98, 97, 54, 57, 51, 50, 101, 49, 99, 50, 48, 99, 98, 99, 57, 102, 53, 97, 53, 100, 49, 51, 52, 54, 52, 53, 97, 100, 98, 53, 100, 98, 49, 98, 57, 55, 51, 55, 101, 97, 51] } from rfl]
              have HB12 := Aside0.mk (below_to HB11.out hE12)
              clear hE12
              go_wp2
              go_ret
              exact ⟨rfl, HB12.out⟩
end Go.Proofs.YtnkhhnfmijljbaaDoor
