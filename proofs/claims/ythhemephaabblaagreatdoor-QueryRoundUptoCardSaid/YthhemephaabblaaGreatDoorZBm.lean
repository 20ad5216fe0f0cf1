/- cairnlaw32.QueryRound: where the arguments are together of bulk at most 1048576 it returns true, and they read as before, in whatever memory in which the five listed package-level variables hold what the program's text lays in them (the card ties that). -/
import Derived.Test.YthhemephaabblaaGreatDoorZBl
import Derived.Test.YthhemephaabblaaGreatDoorZBi
import Derived.Test.YthhemephaabblaaGreatDoorZBk
import Derived.Test.YthhemephaabblaaGreatDoorCards
import Derived.Test.YthhemephaabblaaGreatDoorTie
import Derived.WalkKit
import Derived.ProofKit
import Derived.OpenShut
import Derived.Deep.DeepHandedRow
namespace Go.Proofs.YthhemephaabblaaGreatDoor.Hq
open Go.RowKit Go.Proofs.YthhemephaabblaaGreatDoorW.PrintWords Go.Proofs.YthhemephaabblaaGreatDoorW.PrintLast Go.Proofs.YthhemephaabblaaGreatDoorW.PrintMore Go.Proofs.YthhemephaabblaaGreatDoor Go.Proofs.YthhemephaabblaaGreatDoor.Q Go.Proofs.YthhemephaabblaaGreatDoor.R
set_option linter.unusedVariables false
set_option linter.unusedSimpArgs false

set_option maxRecDepth 100000 in
set_option maxHeartbeats 3200000 in
theorem same_calls (q : Qry) (A5 : Option Addr) (c5 : Nat) (A7 : Option Addr) (c7 : Nat) (B5 : Option Addr) (d5 : Nat) (B7 : Option Addr) (d7 : Nat) (w : World) (h5 : Kd.C Kd.string w A5 q.cols.length (q.cols.map strB)) (hc5 : q.cols.length ≤ c5) (h7 : Kd.C k37 w A7 q.wh.length (q.wh.map t37)) (hc7 : q.wh.length ≤ c7)
    (g5 : Kd.C Kd.string w B5 q.cols.length (q.cols.map strB)) (hd5 : q.cols.length ≤ d5) (g7 : Kd.C k70 w B7 q.wh.length (q.wh.map t70)) (hd7 : q.wh.length ≤ d7) (hl5 : q.cols.length ≤ 1000000000000) (hl7 : q.wh.length ≤ 1000000000000) :
    Calls Tryz.prog 10 #[qval q (.slice A5 q.cols.length c5) (.slice A7 q.wh.length c7), qval q (.slice B5 q.cols.length d5) (.slice B7 q.wh.length d7)] w fun e w' => e = .returned (.bool true) ∧ Ext w w' := by
  unfold qval
  have H5 := Aside0.mk h5
  have H7 := Aside0.mk h7
  have G5 := Aside0.mk g5
  have G7 := Aside0.mk g7
  clear h5 h7 g5 g7
  go_enter Tryz.func10, Tryz.ntmps10
  go_upto_region 1 with fail
  obtain ⟨w2, hw2⟩ : ∃ W, W = ((w.alloc (.cells #[.slice A5 q.cols.length c5, .string (strB q.tab), .slice A7 q.wh.length c7, .string (strB q.ord), .bool q.down, .int .i64 q.lim] 25)).alloc (.cells #[.slice B5 q.cols.length d5, .string (strB q.tab), .slice B7 q.wh.length d7, .string (strB q.ord), .bool q.down, .int .i64 q.lim] 31)) := ⟨_, rfl⟩
  have hzp : w2.heap[w.heap.size]? = some (.cells #[.slice A5 q.cols.length c5, .string (strB q.tab), .slice A7 q.wh.length c7, .string (strB q.ord), .bool q.down, .int .i64 q.lim] 25 (0, 0)) := by rw [hw2]; exact (Array.getElem?_push_lt (by simp)).trans (by simpa using heap_alloc_new w _)
  have hzq : w2.heap[w.heap.size + 1]? = some (.cells #[.slice B5 q.cols.length d5, .string (strB q.tab), .slice B7 q.wh.length d7, .string (strB q.ord), .bool q.down, .int .i64 q.lim] 31 (0, 0)) := by rw [hw2]; have := heap_alloc_new (w.alloc (.cells #[.slice A5 q.cols.length c5, .string (strB q.tab), .slice A7 q.wh.length c7, .string (strB q.ord), .bool q.down, .int .i64 q.lim] 25)) (.cells #[.slice B5 q.cols.length d5, .string (strB q.tab), .slice B7 q.wh.length d7, .string (strB q.ord), .bool q.down, .int .i64 q.lim] 31); simpa using this
  have hE2 : Ext w w2 := by rw [hw2]; exact ((Ext.refl w).alloc _).alloc _
  rw [← hw2]
  obtain ⟨pb, hpb⟩ : ∃ n, n = w.heap.size := ⟨_, rfl⟩
  obtain ⟨qb, hqb⟩ : ∃ n, n = w.heap.size + 1 := ⟨_, rfl⟩
  rw [← hqb, ← hpb]
  rw [← hpb] at hzp
  rw [← hqb] at hzq
  have HE2 := Aside0.mk hE2
  have HZP := Aside0.mk hzp
  have HZQ := Aside0.mk hzq
  have z0 := blk_cell hzp 0
  have y0 := blk_cell hzq 0
  have z1 := blk_cell hzp 1
  have y1 := blk_cell hzq 1
  have z2 := blk_cell hzp 2
  have y2 := blk_cell hzq 2
  have z3 := blk_cell hzp 3
  have y3 := blk_cell hzq 3
  have z4 := blk_cell hzp 4
  have y4 := blk_cell hzq 4
  have z5 := blk_cell hzp 5
  have y5 := blk_cell hzq 5
  clear hw2 hpb hqb hzp hzq hE2
  go_wp2_with fail
  go_loopw [55] (fun s55 W => ∃ j : Nat, j ≤ q.cols.length ∧ s55 = .int .i64 j ∧ Ext w2 W) (fun v _ => q.cols.length - (intOf v).toNat)
  case atStart => exact ⟨0, by omega, rfl, Ext.refl _⟩
  case round =>
  clear z0 z1 z2 z3 z4 z5 y0 y1 y2 y3 y4 y5
  obtain ⟨wo, hwo⟩ : ∃ wo : World, wo = wr := ⟨_, rfl⟩
  subst hwo
  obtain ⟨j, hj, rfl, hX⟩ := hrel
  have HX := Aside0.mk hX
  have HXX := Aside0.mk (HE2.out.trans hX)
  clear hX
  by_cases hlt : j < q.cols.length
  · have hb : (j : Int) < q.cols.length := by omega
    obtain ⟨_, a5, o5, rfl, _, hcell⟩ := strC_cells (Kd.C_below H5.out HXX.out) (by omega)
    obtain ⟨_, a6, o6, rfl, _, hcell2⟩ := strC_cells (Kd.C_below G5.out HXX.out) (by omega)
    obtain ⟨x, hx⟩ : ∃ x, q.cols[j]? = some x := ⟨_, List.getElem?_eq_getElem hlt⟩
    have HC5 : Aside0 (wo.cell? ⟨a5, o5 + j, none⟩ = some (.string (strB x))) := ⟨hcell j x hx⟩
    have HC6 : Aside0 (wo.cell? ⟨a6, o6 + j, none⟩ = some (.string (strB x))) := ⟨hcell2 j x hx⟩
    have HZ0 : Aside0 (wo.cell? ⟨pb, 0, none⟩ = some (.slice (some ⟨a5, o5, none⟩) q.cols.length c5)) := ⟨cell_ext HX.out (blk_cell HZP.out 0)⟩
    have HY0 : Aside0 (wo.cell? ⟨qb, 0, none⟩ = some (.slice (some ⟨a6, o6, none⟩) q.cols.length d5)) := ⟨cell_ext HX.out (blk_cell HZQ.out 0)⟩
    have HLT := Aside0.mk hb
    have HLT2 := Aside0.mk (show (0 : Int) ≤ (j : Int) by omega)
    clear hcell hcell2 hx
    go_upto_region 6 with fail
    clear hb
    refine ext_region 11 [(0, 58), (1, 59), (2, 60), (3, 61), (4, 62), (5, 63), (6, 64), (7, 65), (8, 66), (9, 67), (10, 68)] [0, 1, 2, 3, 4, 5, 6, 7, 8, 9, 10] (fun i w v => match i with | 0 => v = .pointer (some ⟨pb, 0, none⟩) | 1 => v = .slice (some ⟨a5, o5, none⟩) q.cols.length c5 | 2 => v = .int .i64 (j : Nat) | 3 => v = .pointer (some ⟨a5, o5 + j, none⟩) | 4 => v = .string (strB x) | 5 => v = .pointer (some ⟨qb, 0, none⟩) | 6 => v = .slice (some ⟨a6, o6, none⟩) q.cols.length d5 | 7 => v = .int .i64 (j : Nat) | 8 => v = .pointer (some ⟨a6, o6 + j, none⟩) | 9 => v = .string (strB x) | 10 => v = .bool false | _ => True) (by kernel_rfl) (by kernel_rfl) (by rfl) rfl ?mono6 ?steps6 ?fin6
    case mono6 =>
      intro i w w' v h hE
      match i with
      | 0 => exact h
      | 1 => exact h
      | 2 => exact h
      | 3 => exact h
      | 4 => exact h
      | 5 => exact h
      | 6 => exact h
      | 7 => exact h
      | 8 => exact h
      | 9 => exact h
      | 10 => exact h
      | _ + 11 => trivial
    case steps6 =>
      refine stepE_cons ⟨_, rfl, fun a w hE hH => ?_⟩ ?_
      ·
        have e2 : a.tmps[2]? = some (.pointer (some ⟨pb, 0, none⟩)) := hH.old 2 rfl
        exact Or.inl ⟨rfl, goodE_val (.pointer (some ⟨pb, 0, none⟩)) (by simp [execOp, Act.eval, e2, go_sem]) rfl⟩
      refine stepE_cons ⟨_, rfl, fun a w hE hH => ?_⟩ ?_
      ·
        obtain ⟨v58, e58, g58⟩ := hH.dep 0 58 rfl (by kernel_rfl)
        have q58 : v58 = .pointer (some ⟨pb, 0, none⟩) := g58
        subst q58
        have hc := cell_ext ((Ext.to_drew _).trans hE) HZ0.out
        exact Or.inl ⟨(rfl), goodE_val (.slice (some ⟨a5, o5, none⟩) q.cols.length c5) (by simp [execOp, Act.eval, e58, hc, go_sem]) rfl⟩
      refine stepE_cons ⟨_, rfl, fun a w hE hH => ?_⟩ ?_
      ·
        have e5 : a.tmps[5]? = some (.int .i64 (j : Nat)) := hH.old 5 rfl
        exact Or.inl ⟨rfl, goodE_move _ rfl (eval_of e5) rfl⟩
      refine stepE_cons ⟨_, rfl, fun a w hE hH => ?_⟩ ?_
      ·
        obtain ⟨v59, e59, g59⟩ := hH.dep 1 59 rfl (by kernel_rfl)
        have q59 : v59 = .slice (some ⟨a5, o5, none⟩) q.cols.length c5 := g59
        subst q59
        obtain ⟨v60, e60, g60⟩ := hH.dep 2 60 rfl (by kernel_rfl)
        have q60 : v60 = .int .i64 (j : Nat) := g60
        subst q60
        exact Or.inl ⟨(rfl), goodE_val (.pointer (some ⟨a5, o5 + j, none⟩)) (by simp [execOp, Act.eval, e59, e60, Addr.add, HLT.out, HLT2.out, go_sem]; try (intro h0; first | (rw [h0]; rfl) | omega)) rfl⟩
      refine stepE_cons ⟨_, rfl, fun a w hE hH => ?_⟩ ?_
      ·
        obtain ⟨v61, e61, g61⟩ := hH.dep 3 61 rfl (by kernel_rfl)
        have q61 : v61 = .pointer (some ⟨a5, o5 + j, none⟩) := g61
        subst q61
        have hc := cell_ext ((Ext.to_drew _).trans hE) HC5.out
        exact Or.inl ⟨(rfl), goodE_val (.string (strB x)) (by simp [execOp, Act.eval, e61, hc, go_sem]) rfl⟩
      refine stepE_cons ⟨_, rfl, fun a w hE hH => ?_⟩ ?_
      ·
        have e3 : a.tmps[3]? = some (.pointer (some ⟨qb, 0, none⟩)) := hH.old 3 rfl
        exact Or.inl ⟨rfl, goodE_val (.pointer (some ⟨qb, 0, none⟩)) (by simp [execOp, Act.eval, e3, go_sem]) rfl⟩
      refine stepE_cons ⟨_, rfl, fun a w hE hH => ?_⟩ ?_
      ·
        obtain ⟨v63, e63, g63⟩ := hH.dep 5 63 rfl (by kernel_rfl)
        have q63 : v63 = .pointer (some ⟨qb, 0, none⟩) := g63
        subst q63
        have hc := cell_ext ((Ext.to_drew _).trans hE) HY0.out
        exact Or.inl ⟨(rfl), goodE_val (.slice (some ⟨a6, o6, none⟩) q.cols.length d5) (by simp [execOp, Act.eval, e63, hc, go_sem]) rfl⟩
      refine stepE_cons ⟨_, rfl, fun a w hE hH => ?_⟩ ?_
      ·
        have e5 : a.tmps[5]? = some (.int .i64 (j : Nat)) := hH.old 5 rfl
        exact Or.inl ⟨rfl, goodE_move _ rfl (eval_of e5) rfl⟩
      refine stepE_cons ⟨_, rfl, fun a w hE hH => ?_⟩ ?_
      ·
        obtain ⟨v64, e64, g64⟩ := hH.dep 6 64 rfl (by kernel_rfl)
        have q64 : v64 = .slice (some ⟨a6, o6, none⟩) q.cols.length d5 := g64
        subst q64
        obtain ⟨v65, e65, g65⟩ := hH.dep 7 65 rfl (by kernel_rfl)
        have q65 : v65 = .int .i64 (j : Nat) := g65
        subst q65
        exact Or.inl ⟨(rfl), goodE_val (.pointer (some ⟨a6, o6 + j, none⟩)) (by simp [execOp, Act.eval, e64, e65, Addr.add, HLT.out, HLT2.out, go_sem]; try (intro h0; first | (rw [h0]; rfl) | omega)) rfl⟩
      refine stepE_cons ⟨_, rfl, fun a w hE hH => ?_⟩ ?_
      ·
        obtain ⟨v66, e66, g66⟩ := hH.dep 8 66 rfl (by kernel_rfl)
        have q66 : v66 = .pointer (some ⟨a6, o6 + j, none⟩) := g66
        subst q66
        have hc := cell_ext ((Ext.to_drew _).trans hE) HC6.out
        exact Or.inl ⟨(rfl), goodE_val (.string (strB x)) (by simp [execOp, Act.eval, e66, hc, go_sem]) rfl⟩
      refine stepE_cons ⟨_, rfl, fun a w hE hH => ?_⟩ ?_
      ·
        obtain ⟨v62, e62, g62⟩ := hH.dep 4 62 rfl (by kernel_rfl)
        have q62 : v62 = .string (strB x) := g62
        subst q62
        obtain ⟨v67, e67, g67⟩ := hH.dep 9 67 rfl (by kernel_rfl)
        have q67 : v67 = .string (strB x) := g67
        subst q67
        exact Or.inl ⟨rfl, goodE_val (.bool false) (by simp [execOp, Act.eval, e67, e62, go_sem]) rfl⟩
      exact stepE_nil
    rintro vals wz hE hV
    have k68 : vals 10 = .bool false := hV 10 (by simp) rfl
    simp only [List.map_cons, List.map_nil, putAll, Act.put, List.setIfInBounds_toArray, List.set_cons_zero, List.set_cons_succ, k68]
    have HX2 : Aside0 (Ext w2 wz) := ⟨HX.out.trans ((Ext.to_drew _).trans hE)⟩
    clear hE hV
    go_wp2_with fail
    go_roundw
    case rel => exact ⟨j + 1, by omega, by go_num, HX2.out⟩
    case measure => simp [intOf]; omega
  · obtain rfl : j = q.cols.length := by omega
    have hb : ¬ ((q.cols.length : Int) < q.cols.length) := by omega
    have y2 : wo.cell? ⟨qb, 2, none⟩ = some (.slice B7 q.wh.length d7) := cell_ext HX.out (blk_cell HZQ.out 2)
    go_wp2_with fail
    clear hb y2
    go_loopw [73] (fun s73 W => ∃ j : Nat, j ≤ q.wh.length ∧ s73 = .int .i64 j ∧ Ext w2 W) (fun v _ => q.wh.length - (intOf v).toNat)
    case atStart => exact ⟨0, by omega, rfl, HX.out⟩
    case round =>
    clear HX HXX
    obtain ⟨wp, hwp⟩ : ∃ wp : World, wp = wr := ⟨_, rfl⟩
    subst hwp
    obtain ⟨j, hj, rfl, hX⟩ := hrel
    have HX := Aside0.mk hX
    have HXX := Aside0.mk (HE2.out.trans hX)
    by_cases hlt : j < q.wh.length
    · have hb : (j : Int) < q.wh.length := by omega
      obtain ⟨t, ht⟩ : ∃ t, t = q.wh[j] := ⟨_, rfl⟩
      obtain ⟨ad, hA, d1, d2, d3⟩ := at_T37 (Kd.C_below H7.out HXX.out) (j : Int) (by omega) hb
      obtain ⟨ad2, hA2, f1, f2, f3⟩ := at_T70 (Kd.C_below G7.out HXX.out) (j : Int) (by omega) hb
      rw [rd37 _ _ hlt, ← ht] at d1 d2 d3
      rw [rd70 _ _ hlt, ← ht] at f1 f2 f3
      simp only [t37, t70, Int.toNat_natCast] at d1 d2 d3 f1 f2 f3
      subst hA hA2
      have y2 : wp.cell? ⟨qb, 2, none⟩ = some (.slice (some ad2) q.wh.length d7) := cell_ext hX (blk_cell HZQ.out 2)
      have HD1 := Aside0.mk d1
      have HD2 := Aside0.mk d2
      have HD3 := Aside0.mk d3
      clear ht d1 d2 d3 hX
      go_upto_region 13 with fail
      obtain ⟨wt, hwt⟩ : ∃ W, W = wp.alloc (.cells #[.string (strB t.col), .int .i64 t.op, .string (strB t.val)] 70) := ⟨_, rfl⟩
      have hE1 : Ext wp wt := by rw [hwt]; exact (Ext.refl _).alloc _
      have hzt : wt.heap[wp.heap.size]? = some (.cells #[.string (strB t.col), .int .i64 t.op, .string (strB t.val)] 70 (0, 0)) := by rw [hwt]; exact heap_alloc_new _ _
      obtain ⟨tb, htb⟩ : ∃ n, n = wp.heap.size := ⟨_, rfl⟩
      rw [← htb] at hzt
      rw [← hwt, ← htb]
      have HD1 := Aside0.mk (cell_ext hE1 HD1.out)
      have HD2 := Aside0.mk (cell_ext hE1 HD2.out)
      have HD3 := Aside0.mk (cell_ext hE1 HD3.out)
      have HT0 : Aside0 (wt.cell? ⟨tb, 0, none⟩ = some (.string (strB t.col))) := ⟨blk_cell hzt 0⟩
      have HT1 : Aside0 (wt.cell? ⟨tb, 1, none⟩ = some (.int .i64 t.op)) := ⟨blk_cell hzt 1⟩
      have HT2 : Aside0 (wt.cell? ⟨tb, 2, none⟩ = some (.string (strB t.val))) := ⟨blk_cell hzt 2⟩
      have HZ2 : Aside0 (wt.cell? ⟨pb, 2, none⟩ = some (.slice (some ad) q.wh.length c7)) := ⟨cell_ext (HX.out.trans hE1) (blk_cell HZP.out 2)⟩
      have HXt := Aside0.mk (HX.out.trans hE1)
      have HLT := Aside0.mk hb
      have HLT2 := Aside0.mk (show (0 : Int) ≤ (j : Int) by omega)
      clear hwt hE1 hzt htb y2 f1 f2 f3 hb
      refine ext_region 13 [(0, 81), (1, 82), (2, 83), (3, 84), (4, 85), (5, 86), (6, 87), (7, 88), (8, 89), (9, 90), (10, 91), (11, 92), (12, 93)] [0, 1, 2, 3, 4, 5, 6, 7, 8, 9, 10, 11, 12] (fun i w v => match i with | 0 => v = .pointer (some ⟨pb, 2, none⟩) | 1 => v = .slice (some ad) q.wh.length c7 | 2 => v = .int .i64 (j : Nat) | 3 => v = .pointer (some (ad.add (j * 3))) | 4 => v = .agg #[.string (strB t.col), .int .i64 t.op, .string (strB t.val)] | 5 => v = .pointer (some ⟨tb, 0, none⟩) | 6 => v = .string (strB t.col) | 7 => v = .pointer (some ⟨tb, 1, none⟩) | 8 => v = .int .i64 t.op | 9 => v = .pointer (some ⟨tb, 2, none⟩) | 10 => v = .string (strB t.val) | 11 => v = .agg #[.string (strB t.col), .int .i64 t.op, .string (strB t.val)] | 12 => v = .bool false | _ => True) (by kernel_rfl) (by kernel_rfl) (by rfl) rfl ?mono13 ?steps13 ?fin13
      case mono13 =>
        intro i w w' v h hE
        match i with
        | 0 => exact h
        | 1 => exact h
        | 2 => exact h
        | 3 => exact h
        | 4 => exact h
        | 5 => exact h
        | 6 => exact h
        | 7 => exact h
        | 8 => exact h
        | 9 => exact h
        | 10 => exact h
        | 11 => exact h
        | 12 => exact h
        | _ + 13 => trivial
      case steps13 =>
        refine stepE_cons ⟨_, rfl, fun a w hE hH => ?_⟩ ?_
        ·
          have e2 : a.tmps[2]? = some (.pointer (some ⟨pb, 0, none⟩)) := hH.old 2 rfl
          exact Or.inl ⟨rfl, goodE_val (.pointer (some ⟨pb, 2, none⟩)) (by simp [execOp, Act.eval, e2, go_sem]) rfl⟩
        refine stepE_cons ⟨_, rfl, fun a w hE hH => ?_⟩ ?_
        ·
          obtain ⟨v81, e81, g81⟩ := hH.dep 0 81 rfl (by kernel_rfl)
          have q81 : v81 = .pointer (some ⟨pb, 2, none⟩) := g81
          subst q81
          have hc := cell_ext ((Ext.to_drew _).trans hE) HZ2.out
          exact Or.inl ⟨(rfl), goodE_val (.slice (some ad) q.wh.length c7) (by simp [execOp, Act.eval, e81, hc, go_sem]) rfl⟩
        refine stepE_cons ⟨_, rfl, fun a w hE hH => ?_⟩ ?_
        ·
          have e6 : a.tmps[6]? = some (.int .i64 (j : Nat)) := hH.old 6 rfl
          exact Or.inl ⟨rfl, goodE_move _ rfl (eval_of e6) rfl⟩
        refine stepE_cons ⟨_, rfl, fun a w hE hH => ?_⟩ ?_
        ·
          obtain ⟨v82, e82, g82⟩ := hH.dep 1 82 rfl (by kernel_rfl)
          have q82 : v82 = .slice (some ad) q.wh.length c7 := g82
          subst q82
          obtain ⟨v83, e83, g83⟩ := hH.dep 2 83 rfl (by kernel_rfl)
          have q83 : v83 = .int .i64 (j : Nat) := g83
          subst q83
          exact Or.inl ⟨(rfl), goodE_val (.pointer (some (ad.add (j * 3)))) (by simp [execOp, Act.eval, e82, e83, HLT.out, HLT2.out, go_sem]) rfl⟩
        refine stepE_cons ⟨_, rfl, fun a w hE hH => ?_⟩ ?_
        ·
          obtain ⟨v84, e84, g84⟩ := hH.dep 3 84 rfl (by kernel_rfl)
          have q84 : v84 = .pointer (some (ad.add (j * 3))) := g84
          subst q84
          have hc1 := cell_ext ((Ext.to_drew _).trans hE) HD1.out
          have hc2 := cell_ext ((Ext.to_drew _).trans hE) HD2.out
          have hc3 := cell_ext ((Ext.to_drew _).trans hE) HD3.out
          exact Or.inl ⟨(rfl), goodE_val (.agg #[.string (strB t.col), .int .i64 t.op, .string (strB t.val)]) (by simp [execOp, Act.eval, e84, hc1, hc2, hc3, go_sem]) rfl⟩
        refine stepE_cons ⟨_, rfl, fun a w hE hH => ?_⟩ ?_
        ·
          have e7 : a.tmps[7]? = some (.pointer (some ⟨tb, 0, none⟩)) := hH.old 7 rfl
          exact Or.inl ⟨rfl, goodE_val (.pointer (some ⟨tb, 0, none⟩)) (by simp [execOp, Act.eval, e7, go_sem]) rfl⟩
        refine stepE_cons ⟨_, rfl, fun a w hE hH => ?_⟩ ?_
        ·
          obtain ⟨v86, e86, g86⟩ := hH.dep 5 86 rfl (by kernel_rfl)
          have q86 : v86 = .pointer (some ⟨tb, 0, none⟩) := g86
          subst q86
          have hc := cell_ext ((Ext.to_drew _).trans hE) HT0.out
          exact Or.inl ⟨(rfl), goodE_val (.string (strB t.col)) (by simp [execOp, Act.eval, e86, hc, go_sem]) rfl⟩
        refine stepE_cons ⟨_, rfl, fun a w hE hH => ?_⟩ ?_
        ·
          have e7 : a.tmps[7]? = some (.pointer (some ⟨tb, 0, none⟩)) := hH.old 7 rfl
          exact Or.inl ⟨rfl, goodE_val (.pointer (some ⟨tb, 1, none⟩)) (by simp [execOp, Act.eval, e7, go_sem]) rfl⟩
        refine stepE_cons ⟨_, rfl, fun a w hE hH => ?_⟩ ?_
        ·
          obtain ⟨v88, e88, g88⟩ := hH.dep 7 88 rfl (by kernel_rfl)
          have q88 : v88 = .pointer (some ⟨tb, 1, none⟩) := g88
          subst q88
          have hc := cell_ext ((Ext.to_drew _).trans hE) HT1.out
          exact Or.inl ⟨(rfl), goodE_val (.int .i64 t.op) (by simp [execOp, Act.eval, e88, hc, go_sem]) rfl⟩
        refine stepE_cons ⟨_, rfl, fun a w hE hH => ?_⟩ ?_
        ·
          have e7 : a.tmps[7]? = some (.pointer (some ⟨tb, 0, none⟩)) := hH.old 7 rfl
          exact Or.inl ⟨rfl, goodE_val (.pointer (some ⟨tb, 2, none⟩)) (by simp [execOp, Act.eval, e7, go_sem]) rfl⟩
        refine stepE_cons ⟨_, rfl, fun a w hE hH => ?_⟩ ?_
        ·
          obtain ⟨v90, e90, g90⟩ := hH.dep 9 90 rfl (by kernel_rfl)
          have q90 : v90 = .pointer (some ⟨tb, 2, none⟩) := g90
          subst q90
          have hc := cell_ext ((Ext.to_drew _).trans hE) HT2.out
          exact Or.inl ⟨(rfl), goodE_val (.string (strB t.val)) (by simp [execOp, Act.eval, e90, hc, go_sem]) rfl⟩
        refine stepE_cons ⟨_, rfl, fun a w hE hH => ?_⟩ ?_
        ·
          obtain ⟨v87, e87, g87⟩ := hH.dep 6 87 rfl (by kernel_rfl)
          have q87 : v87 = .string (strB t.col) := g87
          subst q87
          obtain ⟨v89, e89, g89⟩ := hH.dep 8 89 rfl (by kernel_rfl)
          have q89 : v89 = .int .i64 t.op := g89
          subst q89
          obtain ⟨v91, e91, g91⟩ := hH.dep 10 91 rfl (by kernel_rfl)
          have q91 : v91 = .string (strB t.val) := g91
          subst q91
          exact Or.inl ⟨rfl, goodE_val (.agg #[.string (strB t.col), .int .i64 t.op, .string (strB t.val)]) (by simp [execOp, Act.eval, e89, e91, e87, go_sem]) rfl⟩
        refine stepE_cons ⟨_, rfl, fun a w hE hH => ?_⟩ ?_
        ·
          obtain ⟨v85, e85, g85⟩ := hH.dep 4 85 rfl (by kernel_rfl)
          have q85 : v85 = .agg #[.string (strB t.col), .int .i64 t.op, .string (strB t.val)] := g85
          subst q85
          obtain ⟨v92, e92, g92⟩ := hH.dep 11 92 rfl (by kernel_rfl)
          have q92 : v92 = .agg #[.string (strB t.col), .int .i64 t.op, .string (strB t.val)] := g92
          subst q92
          exact Or.inl ⟨rfl, goodE_val (.bool false) (by simp [execOp, Act.eval, e92, e85, go_sem]) rfl⟩
        exact stepE_nil
      rintro vals wz hE hV
      have k93 : vals 12 = .bool false := hV 12 (by simp) rfl
      simp only [List.map_cons, List.map_nil, putAll, Act.put, List.setIfInBounds_toArray, List.set_cons_zero, List.set_cons_succ, k93]
      have HX2 : Aside0 (Ext w2 wz) := ⟨HXt.out.trans ((Ext.to_drew _).trans hE)⟩
      clear hE hV
      go_wp2_with fail
      go_roundw
      case rel => exact ⟨j + 1, by omega, by go_num, HX2.out⟩
      case measure => simp [intOf]; omega
    · obtain rfl : j = q.wh.length := by omega
      have hb : ¬ ((q.wh.length : Int) < q.wh.length) := by omega
      clear hX
      go_wp2_with fail
      go_ret
      exact ⟨rfl, HE2.out.trans HX.out⟩
end Go.Proofs.YthhemephaabblaaGreatDoor.Hq
namespace Go.Proofs.YthhemephaabblaaGreatDoor.Hq
open Go.RowKit Go.Proofs.YthhemephaabblaaGreatDoorW.PrintWords Go.Proofs.YthhemephaabblaaGreatDoorW.PrintLast Go.Proofs.YthhemephaabblaaGreatDoorW.PrintMore Go.Proofs.YthhemephaabblaaGreatDoor Go.Proofs.YthhemephaabblaaGreatDoor.Q Go.Proofs.YthhemephaabblaaGreatDoor.R
set_option linter.unusedVariables false
set_option linter.unusedSimpArgs false

theorem C_pre {α : Type} {K : Kd α} {w : World} {A : Option Addr} {xs ys : List α} (h : Kd.C K w A (xs ++ ys).length (xs ++ ys)) : Kd.C K w A xs.length xs := by
  obtain ⟨h1, h2, h3⟩ := h
  refine ⟨rfl, by rw [List.length_append] at h2; omega, fun hp => ?_⟩
  obtain ⟨a, ha, hx⟩ := h3 (by rw [List.length_append]; omega)
  exact ⟨a, ha, fun j p hj => hx j p (by rw [List.getElem?_append_left (List.getElem?_eq_some_iff.1 hj).1]; exact hj)⟩
/-- Rows of the call's own with a mark behind, as the printed contracts read them. -/
theorem sr_pre {B b c : Nat} {w : World} {xs : List (List UInt8)} (h : Sr B w (.slice (some ⟨b, 0, none⟩) (xs.length + 1) c) (xs ++ [wMark])) (hl : xs.length ≤ 100000000) : Kd.C Kd.string w (some ⟨b, 0, none⟩) xs.length (xs.map strB) ∧ xs.length + 1 ≤ c ∧ w.cell? ⟨b, xs.length, none⟩ = some (.string ⟨#[109, 97, 114, 107]⟩) := by
  have hl1 : (xs ++ [wMark]).length = xs.length + 1 := by simp
  obtain ⟨g, c1, e, hc, _, _, hcell⟩ := h.shape (by simp)
  obtain ⟨A, c2, e2, hc2, hC⟩ := sr_C h (by simp; omega)
  rw [hl1] at e e2 hc hC
  simp only [Value.slice.injEq, Option.some.injEq, Addr.mk.injEq, and_true, true_and] at e e2
  obtain ⟨rfl, rfl⟩ := e
  obtain ⟨rfl, rfl⟩ := e2
  have h1 := hcell xs.length wMark (by simp)
  rw [Nat.zero_add] at h1
  refine ⟨?_, hc, h1⟩
  have e3 : (xs ++ [wMark]).map strB = xs.map strB ++ [strB wMark] := by simp
  rw [e3] at hC
  have := C_pre (xs := xs.map strB) (ys := [strB wMark]) (by simpa using hC)
  simpa using this
theorem tr_pre {B b c : Nat} {w : World} {ts : List Tst} (h : Tr B w (.slice (some ⟨b, 0, none⟩) (ts.length + 1) c) (ts ++ [tMark])) (hl : ts.length ≤ 100000000) : Kd.C k37 w (some ⟨b, 0, none⟩) ts.length (ts.map t37) ∧ ts.length + 1 ≤ c ∧ w.cell? ⟨b, ts.length * 3 + 1, none⟩ = some (.int .i64 77) := by
  have hl1 : (ts ++ [tMark]).length = ts.length + 1 := by simp
  obtain ⟨A, c2, e2, hc2, hC⟩ := tr_C h (by simp; omega)
  rw [hl1] at e2 hc2 hC
  simp only [Value.slice.injEq, Option.some.injEq, Addr.mk.injEq, and_true, true_and] at e2
  obtain ⟨rfl, rfl⟩ := e2
  have h1 := World.ownsRow.cells h (g := b) rfl (ts.length * 3 + 1) (.int .i64 77) (by rw [flat_get (ts ++ [tMark]) ts.length 1 tMark (by simp) (by omega)]; rfl)
  rw [addr_add, Nat.zero_add] at h1
  refine ⟨?_, hc2, h1⟩
  have e3 : (ts ++ [tMark]).map t37 = ts.map t37 ++ [t37 tMark] := by simp
  rw [e3] at hC
  have := C_pre (xs := ts.map t37) (ys := [t37 tMark]) (by simpa using hC)
  simpa using this
end Go.Proofs.YthhemephaabblaaGreatDoor.Hq
namespace Go.Proofs.YthhemephaabblaaGreatDoor.Hq
open Go.RowKit Go.Proofs.YthhemephaabblaaGreatDoorW.PrintWords Go.Proofs.YthhemephaabblaaGreatDoorW.PrintLast Go.Proofs.YthhemephaabblaaGreatDoorW.PrintMore Go.Proofs.YthhemephaabblaaGreatDoor Go.Proofs.YthhemephaabblaaGreatDoor.Q
set_option linter.unusedVariables false
set_option linter.unusedSimpArgs false

/-- What may stand behind a part of a text: nothing, a blank, a comma. -/
def okF (r : List UInt8) : Prop := r = [] ∨ (∃ r', r = 32 :: r') ∨ (∃ r', r = 44 :: r')
/-- These tokens' kinds and texts. -/
def PK (L : List Tk) (K : List (Nat × List UInt8)) : Prop := L.map (fun t => (t.kind, t.says)) = K
/-- A part of a text, and its tokens. -/
def Seg (a : List UInt8) (K : List (Nat × List UInt8)) : Prop :=
  ∀ (s : List UInt8) (p : Nat) (r : List UInt8), p ≤ s.length → s.drop p = a ++ r → okF r → ∃ L1 p', toks s p = L1 ++ toks s p' ∧ PK L1 K ∧ p' ≤ s.length ∧ s.drop p' = r
theorem Seg.nil : Seg [] [] := fun s p r hp hd _ => ⟨[], p, rfl, rfl, hp, hd⟩
theorem Seg.app {a b : List UInt8} {Ka Kb : List (Nat × List UInt8)} (ha : Seg a Ka) (hb : Seg b Kb) (hf : ∀ r, okF r → okF (b ++ r)) : Seg (a ++ b) (Ka ++ Kb) := by
  intro s p r hp hd hr
  obtain ⟨L1, p1, e1, h1, hp1, hd1⟩ := ha s p (b ++ r) hp (by rw [hd, List.append_assoc]) (hf r hr)
  obtain ⟨L2, p2, e2, h2, hp2, hd2⟩ := hb s p1 r hp1 hd1 hr
  refine ⟨L1 ++ L2, p2, by rw [e1, e2, List.append_assoc], ?_, hp2, hd2⟩
  unfold PK at *
  rw [List.map_append, h1, h2]
theorem tw_all (f : UInt8 → Bool) (w r : List UInt8) (hw : ∀ x ∈ w, f x = true) (hr : ∀ c r', r = c :: r' → f c = false) : (w ++ r).takeWhile f = w := by
  rw [List.takeWhile_append_of_pos hw]
  cases r with
  | nil => simp
  | cons c r' => rw [List.takeWhile_cons_of_neg (by rw [hr c r' rfl]; decide), List.append_nil]
theorem drop_at {s w r : List UInt8} {p : Nat} (hd : s.drop p = w ++ r) : s.drop (p + w.length) = r := by
  rw [← List.drop_drop, hd, List.drop_left]
theorem drop_len {s w r : List UInt8} {p : Nat} (hp : p ≤ s.length) (hd : s.drop p = w ++ r) : p + w.length ≤ s.length := by
  have := congrArg List.length hd
  rw [List.length_drop, List.length_append] at this
  omega
theorem get_at {s u : List UInt8} {c : UInt8} {p : Nat} (hd : s.drop p = c :: u) : s[p]? = some c := by
  have : (s.drop p)[0]? = some c := by rw [hd]; rfl
  rwa [List.getElem?_drop, Nat.add_zero] at this
/-- One token, behind a blank or none. -/
theorem seg_tok {b w u : List UInt8} {c : UInt8} {k : Nat} {y : List UInt8} (hb : ∀ x ∈ b, isSp x = true) (hw : w = c :: u) (hc : isSp c = false) (hk : 2 ≤ k)
    (ht : ∀ (s : List UInt8) (a : Nat) (r : List UInt8), s.drop a = w ++ r → okF r → tk s a = (⟨k, y, a⟩, a + w.length)) : Seg (b ++ w) [(k, y)] := by
  intro s p r hp hd hr
  rw [List.append_assoc] at hd
  have h1 : runEnd isSp s p = p + b.length := by
    unfold runEnd
    rw [hd, tw_all isSp b (w ++ r) hb (fun c' r' e => by
      rw [hw] at e
      obtain rfl := (List.cons.inj e).1
      exact hc)]
  have h2 := drop_at hd
  have h3 := drop_len hp hd
  have h4 := ht s _ r h2 hr
  refine ⟨[⟨k, y, p + b.length⟩], p + b.length + w.length, ?_, rfl, drop_len h3 h2, drop_at h2⟩
  rw [toks_eq s p hp, tokAt_tk, h1, h4]
  simp only
  rw [if_neg (by omega)]
  rfl
theorem okF_wd {r : List UInt8} (h : okF r) : ∀ c r', r = c :: r' → isWd c = false := by
  intro c r' e
  rcases h with rfl | ⟨r1, rfl⟩ | ⟨r1, rfl⟩
  · cases e
  · obtain rfl := (List.cons.inj e).1; decide
  · obtain rfl := (List.cons.inj e).1; decide
theorem okF_dg {r : List UInt8} (h : okF r) : ∀ c r', r = c :: r' → isDg c = false := by
  intro c r' e
  rcases h with rfl | ⟨r1, rfl⟩ | ⟨r1, rfl⟩
  · cases e
  · obtain rfl := (List.cons.inj e).1; decide
  · obtain rfl := (List.cons.inj e).1; decide
theorem okF_eq {r : List UInt8} (h : okF r) : r.head? ≠ some 61 := by
  rcases h with rfl | ⟨r1, rfl⟩ | ⟨r1, rfl⟩ <;> simp
theorem sm_sp {c : UInt8} (h : isSm c = true) : isSp c = false := by
  unfold isSm at h
  unfold isSp
  simp only [decide_eq_true_eq, UInt8.le_iff_toNat_le] at h
  simp only [decide_eq_false_iff_not, ← UInt8.toNat_inj]
  have h1 : (97 : UInt8).toNat = 97 := rfl
  have h2 : (32 : UInt8).toNat = 32 := rfl
  have h3 : (9 : UInt8).toNat = 9 := rfl
  have h4 : (10 : UInt8).toNat = 10 := rfl
  omega
theorem dg_sm {c : UInt8} (h : isDg c = true) : isSp c = false ∧ isSm c = false := by
  unfold isDg at h
  unfold isSp isSm
  simp only [decide_eq_true_eq, UInt8.le_iff_toNat_le] at h
  simp only [decide_eq_false_iff_not, ← UInt8.toNat_inj, UInt8.le_iff_toNat_le]
  have h0 : (48 : UInt8).toNat = 48 := rfl
  have h1 : (57 : UInt8).toNat = 57 := rfl
  have h2 : (32 : UInt8).toNat = 32 := rfl
  have h3 : (9 : UInt8).toNat = 9 := rfl
  have h4 : (10 : UInt8).toNat = 10 := rfl
  have h5 : (97 : UInt8).toNat = 97 := rfl
  exact ⟨by omega, by omega⟩
theorem seg_word {b w : List UInt8} (hb : ∀ x ∈ b, isSp x = true) (hw : nmB w = true) : Seg (b ++ w) [(2, w)] := by
  match w, hw with
  | c :: u, hw =>
    simp only [nmB, Bool.and_eq_true, decide_eq_true_eq, List.all_eq_true] at hw
    obtain ⟨⟨_, h1⟩, h2⟩ := hw
    refine seg_tok hb rfl (sm_sp h1) (by omega) (fun s a r hd hr => ?_)
    unfold tk
    rw [get_at hd]
    simp only
    have e : (s.drop a).takeWhile isWd = c :: u := by rw [hd]; exact tw_all isWd _ _ h2 (okF_wd hr)
    rw [if_pos h1, e]
    unfold runEnd
    rw [e]
theorem seg_num {b w u : List UInt8} {c : UInt8} (hb : ∀ x ∈ b, isSp x = true) (hw : w = c :: u) (hd : ∀ x ∈ w, isDg x = true) : Seg (b ++ w) [(3, w)] := by
  have h1 := dg_sm (hd c (by rw [hw]; simp))
  have h2 := hd c (by rw [hw]; simp)
  refine seg_tok hb hw h1.1 (by omega) (fun s a r hda hr => ?_)
  unfold tk
  have hda' : s.drop a = c :: (u ++ r) := by rw [hda, hw]; rfl
  rw [get_at hda']
  simp only
  have e : (s.drop a).takeWhile isDg = w := by rw [hda]; exact tw_all isDg _ _ hd (okF_dg hr)
  rw [if_neg (by rw [h1.2]; decide), if_pos h2, e]
  unfold runEnd
  rw [e]
theorem quoL_esc (r : List UInt8) : ∀ v : List UInt8, quoL (esc v ++ 34 :: r) = some (v, (esc v).length + 1)
  | [] => by
    show quoL (34 :: r) = _
    rw [quoL_cons, if_pos rfl]
    rfl
  | x :: v => by
    have ih := quoL_esc r v
    have e : esc (x :: v) = esc1 x ++ esc v := rfl
    rw [e]
    unfold esc1
    by_cases h34 : x = 34
    · rw [if_pos h34, List.append_assoc]
      show quoL (92 :: 34 :: (esc v ++ 34 :: r)) = _
      rw [quoL_cons, if_neg (by decide), if_pos rfl]
      simp only
      rw [if_pos (by decide), ih, h34]
      simp
    · rw [if_neg h34]
      by_cases h92 : x = 92
      · rw [if_pos h92, List.append_assoc]
        show quoL (92 :: 92 :: (esc v ++ 34 :: r)) = _
        rw [quoL_cons, if_neg (by decide), if_pos rfl]
        simp only
        rw [if_pos (by decide), ih, h92]
        simp
      · rw [if_neg h92, List.append_assoc]
        show quoL (x :: (esc v ++ 34 :: r)) = _
        rw [quoL_cons, if_neg h34, if_neg h92, ih]
        simp
theorem seg_val {b : List UInt8} (hb : ∀ x ∈ b, isSp x = true) (v : List UInt8) : Seg (b ++ ([34] ++ esc v ++ [34])) [(4, v)] := by
  refine seg_tok (c := 34) (u := esc v ++ [34]) hb (by simp) (by decide) (by omega) (fun s a r hd hr => ?_)
  have hd1 : s.drop a = [34] ++ (esc v ++ 34 :: r) := by rw [hd]; simp
  have hd2 : s.drop (a + 1) = esc v ++ 34 :: r := drop_at hd1
  have hd3 : s.drop a = 34 :: (esc v ++ 34 :: r) := hd1
  unfold tk
  rw [get_at hd3]
  simp only
  rw [if_neg (by decide), if_neg (by decide), if_pos trivial, hd2, quoL_esc]
  simp only [List.length_append, List.length_cons, List.length_nil, Prod.mk.injEq, true_and]
  omega
theorem seg_sign {b w u : List UInt8} {c : UInt8} (hb : ∀ x ∈ b, isSp x = true) (hw : w = c :: u) (hc : isSp c = false ∧ isSm c = false ∧ isDg c = false ∧ c ≠ 34) (hs : ∀ r, okF r → signOf (w ++ r) = w) : Seg (b ++ w) [(5, w)] := by
  refine seg_tok hb hw hc.1 (by omega) (fun s a r hda hr => ?_)
  unfold tk
  have hda' : s.drop a = c :: (u ++ r) := by rw [hda, hw]; rfl
  rw [get_at hda']
  simp only
  rw [if_neg (by rw [hc.2.1]; decide), if_neg (by rw [hc.2.2.1]; decide), if_neg hc.2.2.2, hda, hs r hr, if_neg (by rw [hw]; simp)]
theorem sign1 (c : UInt8) (h : c = 44 ∨ c = 42 ∨ c = 61) (r : List UInt8) : signOf ([c] ++ r) = [c] := by
  show signOf (c :: r) = _
  rw [signOf_cons, if_pos h]
theorem seg_star {b : List UInt8} (hb : ∀ x ∈ b, isSp x = true) : Seg (b ++ [42]) [(5, wStar)] := seg_sign (w := [42]) hb rfl (by decide) (fun r _ => sign1 42 (by decide) r)
theorem seg_comma {b : List UInt8} (hb : ∀ x ∈ b, isSp x = true) : Seg (b ++ [44]) [(5, wComma)] := seg_sign (w := [44]) hb rfl (by decide) (fun r _ => sign1 44 (by decide) r)
theorem sign2 (c : UInt8) (h : c = 60 ∨ c = 62 ∨ c = 33) (r : List UInt8) : signOf ([c, 61] ++ r) = [c, 61] := by
  show signOf (c :: 61 :: r) = _
  rw [signOf_cons]
  rcases h with rfl | rfl | rfl <;> simp
theorem sign3 (c : UInt8) (h : c = 60 ∨ c = 62) (r : List UInt8) (hr : okF r) : signOf ([c] ++ r) = [c] := by
  show signOf (c :: r) = _
  rw [signOf_cons]
  have := okF_eq hr
  rcases h with rfl | rfl <;> simp [this]
theorem seg_op {b : List UInt8} (hb : ∀ x ∈ b, isSp x = true) (o : Int) (h1 : 1 ≤ o) (h6 : o ≤ 6) : Seg (b ++ opT o) [(5, opT o)] := by
  have : o = 1 ∨ o = 2 ∨ o = 3 ∨ o = 4 ∨ o = 5 ∨ o = 6 := by omega
  rcases this with rfl | rfl | rfl | rfl | rfl | rfl
  · exact seg_sign (w := [61]) hb rfl (by decide) (fun r _ => sign1 61 (by decide) r)
  · exact seg_sign (w := [33, 61]) hb rfl (by decide) (fun r _ => sign2 33 (by decide) r)
  · exact seg_sign (w := [60]) hb rfl (by decide) (fun r hr => sign3 60 (by decide) r hr)
  · exact seg_sign (w := [60, 61]) hb rfl (by decide) (fun r _ => sign2 60 (by decide) r)
  · exact seg_sign (w := [62]) hb rfl (by decide) (fun r hr => sign3 62 (by decide) r hr)
  · exact seg_sign (w := [62, 61]) hb rfl (by decide) (fun r _ => sign2 62 (by decide) r)
theorem opN_opT (o : Int) (h1 : 1 ≤ o) (h6 : o ≤ 6) : ((opN (opT o) : Nat) : Int) = o := by
  have : o = 1 ∨ o = 2 ∨ o = 3 ∨ o = 4 ∨ o = 5 ∨ o = 6 := by omega
  rcases this with rfl | rfl | rfl | rfl | rfl | rfl <;> decide

/-! ### numbers -/
theorem digitVal_of (d : Nat) (h : d < 10) : Lib.digitVal (UInt8.ofNat (48 + d)) = some d := by
  have e : (UInt8.ofNat (48 + d)).toNat = 48 + d := by rw [UInt8.toNat_ofNat']; omega
  unfold Lib.digitVal
  rw [e, if_pos (by omega)]
  congr 1
  omega
theorem decFrom_app : ∀ (l m : List UInt8) (acc : Nat), Lib.decFrom acc (l ++ m) = (Lib.decFrom acc l).bind fun n => Lib.decFrom n m
  | [], m, acc => rfl
  | b :: l, m, acc => by
    rw [List.cons_append, Lib.decFrom, Lib.decFrom]
    cases Lib.digitVal b with
    | none => rfl
    | some d => exact decFrom_app l m _
theorem decFrom_digits : ∀ (n u : Nat), u ≤ n → Lib.decFrom 0 (Lib.decDigits u) = some u
  | n, u, hn => by
    rw [Lib.decDigits]
    by_cases h : u < 10
    · rw [dif_pos h]
      unfold Lib.decFrom
      rw [digitVal_of u h]
      simp [Lib.decFrom]
    · rw [dif_neg h, decFrom_app]
      match n, hn with
      | n + 1, hn =>
        rw [decFrom_digits n (u / 10) (by omega), Option.bind_some]
        unfold Lib.decFrom
        rw [digitVal_of (u % 10) (by omega)]
        simp only [Lib.decFrom]
        congr 1
        omega
      | 0, hn => omega
theorem digits_dg : ∀ (n u : Nat), u ≤ n → ∀ x ∈ Lib.decDigits u, isDg x = true
  | n, u, hn => by
    intro x hx
    have key : ∀ d, d < 10 → isDg (UInt8.ofNat (48 + d)) = true := by
      intro d hd
      have e : (UInt8.ofNat (48 + d)).toNat = 48 + d := by rw [UInt8.toNat_ofNat']; omega
      unfold isDg
      simp only [decide_eq_true_eq, UInt8.le_iff_toNat_le, e]
      exact ⟨by show 48 ≤ _; omega, by show _ ≤ 57; omega⟩
    rw [Lib.decDigits] at hx
    by_cases h : u < 10
    · rw [dif_pos h] at hx
      simp only [List.mem_cons, List.not_mem_nil, or_false] at hx
      subst hx
      exact key u h
    · rw [dif_neg h] at hx
      rcases List.mem_append.1 hx with hx | hx
      · match n, hn with
        | n + 1, hn => exact digits_dg n (u / 10) (by omega) x hx
        | 0, hn => omega
      · simp only [List.mem_cons, List.not_mem_nil, or_false] at hx
        subst hx
        exact key _ (by omega)
theorem digits_head : ∀ (n u : Nat), u ≤ n → 0 < u → ∃ c r, Lib.decDigits u = c :: r ∧ c ≠ 48
  | n, u, hn, hp => by
    rw [Lib.decDigits]
    by_cases h : u < 10
    · rw [dif_pos h]
      refine ⟨_, _, rfl, fun e => ?_⟩
      have e2 := congrArg UInt8.toNat e
      rw [UInt8.toNat_ofNat'] at e2
      have h48 : (48 : UInt8).toNat = 48 := rfl
      rw [h48] at e2
      omega
    · rw [dif_neg h]
      match n, hn with
      | n + 1, hn =>
        obtain ⟨c, r, e, hc⟩ := digits_head n (u / 10) (by omega) (by omega)
        exact ⟨c, r ++ _, by rw [e]; rfl, hc⟩
      | 0, hn => omega
theorem digits_len : ∀ (k u : Nat), u < 10 ^ k → 0 < k → (Lib.decDigits u).length ≤ k
  | 0, u, _, h => by omega
  | k + 1, u, hu, _ => by
    rw [Lib.decDigits]
    by_cases h : u < 10
    · rw [dif_pos h]; simp
    · rw [dif_neg h, List.length_append]
      rw [Nat.pow_succ] at hu
      have hk : 0 < k := by
        match k, hu with
        | 0, hu => simp at hu; omega
        | k + 1, _ => omega
      have := digits_len k (u / 10) (by omega) hk
      simp only [List.length_cons, List.length_nil]
      omega
theorem itoa_facts (n : Int) (h0 : 0 < n) (h9 : n ≤ 999999999) : (∃ c u, Lib.itoa n = c :: u ∧ c ≠ 48) ∧ (∀ x ∈ Lib.itoa n, isDg x = true) ∧ (Lib.itoa n).length ≤ 9 ∧ (Lib.atoi (Lib.itoa n)).getD 0 = n := by
  have e : Lib.itoa n = Lib.decDigits n.toNat := by unfold Lib.itoa; rw [if_neg (by omega)]
  rw [e]
  obtain ⟨c, r, hc, hc48⟩ := digits_head _ n.toNat (Nat.le_refl _) (by omega)
  have hdg := digits_dg _ n.toNat (Nat.le_refl _)
  refine ⟨⟨c, r, hc, hc48⟩, hdg, digits_len 9 _ (by omega) (by omega), ?_⟩
  have hd := hdg c (by rw [hc]; simp)
  have hf := decFrom_digits _ n.toNat (Nat.le_refl _)
  rw [hc] at hf ⊢
  unfold Lib.atoi
  have h45 : (c == 45) = false := by
    rw [beq_eq_false_iff_ne]; rintro rfl; revert hd; decide
  have h43 : (c == 43) = false := by
    rw [beq_eq_false_iff_ne]; rintro rfl; revert hd; decide
  simp only [h45, h43]
  unfold Lib.decNat
  simp only [Bool.false_eq_true, if_false, List.isEmpty_cons, hf, Option.map_some, Option.getD_some]
  omega
end Go.Proofs.YthhemephaabblaaGreatDoor.Hq
namespace Go.Proofs.YthhemephaabblaaGreatDoor.Hq
open Go.RowKit Go.Proofs.YthhemephaabblaaGreatDoorW.PrintWords Go.Proofs.YthhemephaabblaaGreatDoorW.PrintLast Go.Proofs.YthhemephaabblaaGreatDoorW.PrintMore Go.Proofs.YthhemephaabblaaGreatDoor Go.Proofs.YthhemephaabblaaGreatDoor.Q
set_option linter.unusedVariables false
set_option linter.unusedSimpArgs false

theorem sp1 : ∀ x ∈ ([32] : List UInt8), isSp x = true := by decide
theorem sp0 : ∀ x ∈ ([] : List UInt8), isSp x = true := by decide
theorem okF_sp (a r : List UInt8) : okF ([32] ++ a ++ r) := .inr (.inl ⟨a ++ r, by simp⟩)
theorem okF_jt (l : List (List UInt8)) (r : List UInt8) (hr : okF r) : okF (jt l ++ r) := by
  cases l with
  | nil => exact hr
  | cons a b => rw [jt_cons]; exact .inr (.inl ⟨a ++ jt b ++ r, by simp⟩)
/-- Words with blanks ahead of them, and their tokens. -/
theorem seg_jt : ∀ (l : List (List UInt8 × List (Nat × List UInt8))), (∀ x ∈ l, Seg ([32] ++ x.1) x.2) → Seg (jt (l.map (·.1))) (l.flatMap (·.2))
  | [], _ => Seg.nil
  | x :: l, h => by
    rw [List.map_cons, jt_cons, List.flatMap_cons]
    exact (h x (by simp)).app (seg_jt l fun y hy => h y (by simp [hy])) (fun r hr => okF_jt _ r hr)
/-- The tokens of a list of names behind the first. -/
def colsK (l : List (List UInt8)) : List (Nat × List UInt8) := l.flatMap fun c => [(5, wComma), (2, c)]
theorem okF_cj (l : List (List UInt8)) (r : List UInt8) (hr : okF r) : okF (Lib.joinTail [44, 32] l ++ r) := by
  cases l with
  | nil => exact hr
  | cons a b => exact .inr (.inr ⟨32 :: a ++ Lib.joinTail [44, 32] b ++ r, by simp [Lib.joinTail]⟩)
theorem seg_cj : ∀ (l : List (List UInt8)), (∀ c ∈ l, nmB c = true) → Seg (Lib.joinTail [44, 32] l) (colsK l)
  | [], _ => Seg.nil
  | c :: l, h => by
    have e : Lib.joinTail [44, 32] (c :: l) = (([] ++ [44]) ++ ([32] ++ c)) ++ Lib.joinTail [44, 32] l := by simp [Lib.joinTail]
    have e2 : colsK (c :: l) = ([(5, wComma)] ++ [(2, c)]) ++ colsK l := rfl
    rw [e, e2]
    exact ((seg_comma sp0).app (seg_word sp1 (h c (by simp))) (fun r _ => okF_sp c r)).app (seg_cj l fun y hy => h y (by simp [hy])) (fun r hr => okF_cj l r hr)
def colK (l : List (List UInt8)) : List (Nat × List UInt8) := match l with
  | [] => [(5, wStar)]
  | c :: l => (2, c) :: colsK l
theorem seg_cols (l : List (List UInt8)) (h : ∀ c ∈ l, nmB c = true) : Seg ([32] ++ colsT l) (colK l) := by
  match l, h with
  | [], _ => exact seg_star sp1
  | c :: l, h =>
    have e : ([32] : List UInt8) ++ colsT (c :: l) = ([32] ++ c) ++ Lib.joinTail [44, 32] l := by unfold colsT; rw [if_neg (by simp), Lib.join_cons, List.append_assoc]
    rw [e]
    exact (seg_word sp1 (h c (by simp))).app (seg_cj l fun y hy => h y (by simp [hy])) (fun r hr => okF_cj l r hr)
/-- A test's tokens. -/
def testK (t : Tst) : List (Nat × List UInt8) := [(2, t.col), (5, opT t.op), (4, t.val)]
def whK (i : Nat) : List Tst → List (Nat × List UInt8)
  | [] => []
  | t :: l => (2, if i = 0 then wWhere else wAnd) :: testK t ++ whK (i + 1) l
def ordK (q : Qry) : List (Nat × List UInt8) := if q.ord = [] then [] else [(2, wOrder), (2, wBy), (2, q.ord)]
def downK (q : Qry) : List (Nat × List UInt8) := if q.down then [(2, wDown)] else []
def limK (q : Qry) : List (Nat × List UInt8) := if 0 < q.lim then [(2, wLimit), (3, Lib.itoa q.lim)] else []
theorem okF_jts (l : List (List UInt8)) : ∀ r, okF r → okF (jt l ++ r) := fun r hr => okF_jt l r hr
theorem seg_wh : ∀ (l : List Tst) (i : Nat), (∀ t ∈ l, nmB t.col = true ∧ 1 ≤ t.op ∧ t.op ≤ 6 ∧ t.val.length ≤ 1024) → Seg (jt (whW i l)) (whK i l)
  | [], i, _ => Seg.nil
  | t :: l, i, h => by
    obtain ⟨h1, h2, h3, _⟩ := h t (by simp)
    have e : jt (whW i (t :: l)) = (([32] ++ (if i = 0 then [119, 104, 101, 114, 101] else [97, 110, 100])) ++ (([32] ++ t.col) ++ (([32] ++ opT t.op) ++ ([32] ++ ([34] ++ esc t.val ++ [34]))))) ++ jt (whW (i + 1) l) := by
      rw [whW, jt_append]
      simp [testW, jt, Lib.joinTail]
    have e2 : whK i (t :: l) = ([(2, if i = 0 then wWhere else wAnd)] ++ ([(2, t.col)] ++ ([(5, opT t.op)] ++ [(4, t.val)]))) ++ whK (i + 1) l := rfl
    rw [e, e2]
    refine Seg.app (Seg.app ?_ (Seg.app (seg_word sp1 h1) (Seg.app (seg_op sp1 _ h2 h3) (seg_val sp1 _) (fun r _ => okF_sp _ r)) (fun r _ => by rw [List.append_assoc]; exact okF_sp _ _)) (fun r _ => by rw [List.append_assoc]; exact okF_sp _ _)) (seg_wh l (i + 1) fun y hy => h y (by simp [hy])) (okF_jts _)
    by_cases hi : i = 0
    · rw [if_pos hi, if_pos hi]; exact seg_word sp1 (w := wWhere) (by decide)
    · rw [if_neg hi, if_neg hi]; exact seg_word sp1 (w := wAnd) (by decide)
theorem seg_ord (q : Qry) (h : MayP q) : Seg (jt (ordW q)) (ordK q) := by
  unfold ordW ordK
  by_cases ho : q.ord = []
  · rw [if_pos ho, if_pos ho]; exact Seg.nil
  · rw [if_neg ho, if_neg ho]
    have hn : nmB q.ord = true := by rcases h.ord with e | e; exact absurd e ho; exact e
    exact seg_jt [(wOrder, [(2, wOrder)]), (wBy, [(2, wBy)]), (q.ord, [(2, q.ord)])] (fun x hx => by
      simp only [List.mem_cons, List.not_mem_nil, or_false] at hx
      rcases hx with rfl | rfl | rfl
      · exact seg_word sp1 (by decide)
      · exact seg_word sp1 (by decide)
      · exact seg_word sp1 hn)
theorem seg_down (q : Qry) : Seg (jt (downW q)) (downK q) := by
  unfold downW downK
  cases q.down with
  | false => exact Seg.nil
  | true => exact seg_jt [(wDown, [(2, wDown)])] (fun x hx => by
      simp only [List.mem_cons, List.not_mem_nil, or_false] at hx
      subst hx
      exact seg_word sp1 (by decide))
theorem seg_lim (q : Qry) (h : MayP q) : Seg (jt (limW q)) (limK q) := by
  unfold limW limK
  by_cases hl : 0 < q.lim
  · rw [if_pos hl, if_pos hl]
    obtain ⟨⟨c, u, hc, _⟩, hdg, _, _⟩ := itoa_facts q.lim hl h.lim1
    exact seg_jt [(wLimit, [(2, wLimit)]), (Lib.itoa q.lim, [(3, Lib.itoa q.lim)])] (fun x hx => by
      simp only [List.mem_cons, List.not_mem_nil, or_false] at hx
      rcases hx with rfl | rfl
      · exact seg_word sp1 (by decide)
      · exact seg_num sp1 hc hdg)
  · rw [if_neg hl, if_neg hl]; exact Seg.nil
/-- A question's tokens. -/
def KQ (q : Qry) : List (Nat × List UInt8) := (2, wSelect) :: (colK q.cols ++ ((2, wFrom) :: (2, q.tab) :: (whK 0 q.wh ++ (ordK q ++ (downK q ++ (limK q ++ [(0, [])]))))))
theorem toks_text (q : Qry) (h : MayP q) : PK (toks (textQ q) 0) (KQ q) := by
  have e : textQ q = ([] ++ wSelect) ++ (([32] ++ colsT q.cols) ++ (([32] ++ wFrom) ++ (([32] ++ q.tab) ++ (jt (whW 0 q.wh) ++ (jt (ordW q) ++ (jt (downW q) ++ jt (limW q))))))) := by
    unfold textQ wordsQ headW
    simp only [List.cons_append, List.nil_append, List.append_assoc]
    rw [Lib.join_cons]
    show wSelect ++ jt (colsT q.cols :: wFrom :: q.tab :: (whW 0 q.wh ++ (ordW q ++ (downW q ++ limW q)))) = _
    rw [jt_cons, jt_cons, jt_cons, jt_append, jt_append, jt_append]
    simp
  have hS : Seg (textQ q) ([(2, wSelect)] ++ (colK q.cols ++ ([(2, wFrom)] ++ ([(2, q.tab)] ++ (whK 0 q.wh ++ (ordK q ++ (downK q ++ limK q))))))) := by
    rw [e]
    have f4 : ∀ r, okF r → okF (jt (limW q) ++ r) := okF_jts _
    have f3 : ∀ r, okF r → okF ((jt (downW q) ++ jt (limW q)) ++ r) := fun r hr => by rw [List.append_assoc]; exact okF_jts _ _ (f4 r hr)
    have f2 : ∀ r, okF r → okF ((jt (ordW q) ++ (jt (downW q) ++ jt (limW q))) ++ r) := fun r hr => by rw [List.append_assoc]; exact okF_jts _ _ (f3 r hr)
    have f1 : ∀ r, okF r → okF ((jt (whW 0 q.wh) ++ (jt (ordW q) ++ (jt (downW q) ++ jt (limW q)))) ++ r) := fun r hr => by rw [List.append_assoc]; exact okF_jts _ _ (f2 r hr)
    refine Seg.app (seg_word sp0 (by decide)) (Seg.app (seg_cols _ h.colsB) (Seg.app (seg_word sp1 (by decide)) (Seg.app (seg_word sp1 h.tab) (Seg.app (seg_wh _ 0 h.whB) (Seg.app (seg_ord q h) (Seg.app (seg_down q) (seg_lim q h) f4) f3) f2) f1) ?_) ?_) ?_
    · intro r _; rw [List.append_assoc]; exact okF_sp _ _
    · intro r _; rw [List.append_assoc]; exact okF_sp _ _
    · intro r _; rw [List.append_assoc]; exact okF_sp _ _
  obtain ⟨L1, p', h1, h2, h3, h4⟩ := hS (textQ q) 0 [] (Nat.zero_le _) (by simp) (.inl rfl)
  have hp : p' = (textQ q).length := by
    have := congrArg List.length h4
    rw [List.length_drop] at this
    simp at this
    omega
  subst hp
  have hz : toks (textQ q) (textQ q).length = [⟨0, [], (textQ q).length⟩] := by
    rw [toks_eq _ _ (Nat.le_refl _), tokAt_tk, runEnd_end]
    have : tk (textQ q) (textQ q).length = (⟨0, [], (textQ q).length⟩, (textQ q).length) := by unfold tk; rw [List.getElem?_eq_none (Nat.le_refl _)]
    rw [this]
    simp
  rw [h1, hz]
  unfold PK at h2 ⊢
  rw [List.map_append, h2]
  unfold KQ
  simp

/-! ### what these tokens say -/
theorem PK.cons {L : List Tk} {k : Nat} {x : List UInt8} {K : List (Nat × List UInt8)} (h : PK L ((k, x) :: K)) : ∃ t L', L = t :: L' ∧ t.kind = k ∧ t.says = x ∧ PK L' K := by
  obtain ⟨t, L', rfl, ht, h'⟩ := List.map_eq_cons_iff.1 h
  obtain ⟨h1, h2⟩ := Prod.mk.inj ht
  exact ⟨t, L', rfl, h1, h2, h'⟩
theorem pk_yes {L : List Tk} {k : Nat} {x : List UInt8} {K : List (Nat × List UInt8)} (h : PK L ((k, x) :: K)) : ∃ L', passL k x L = (true, L') ∧ PK L' K := by
  obtain ⟨t, L', rfl, h1, h2, h'⟩ := h.cons
  exact ⟨L', if_pos ⟨h1, h2⟩, h'⟩
theorem pk_no {L : List Tk} {k k' : Nat} {x x' : List UInt8} {K : List (Nat × List UInt8)} (h : PK L ((k', x') :: K)) (hne : ¬ (k' = k ∧ x' = x)) : (passL k x L).1 = false := by
  obtain ⟨t, L', rfl, h1, h2, h'⟩ := h.cons
  unfold passL
  rw [if_neg (by rintro ⟨e1, e2⟩; exact hne ⟨h1.symm.trans e1, h2.symm.trans e2⟩)]
theorem pk_name {L : List Tk} {x : List UInt8} {K : List (Nat × List UInt8)} (h : PK L ((2, x) :: K)) (hx : x.length ≤ 16) : ∃ L', nameL L = (some x, L') ∧ PK L' K := by
  obtain ⟨t, L', rfl, h1, h2, h'⟩ := h.cons
  refine ⟨L', ?_, h'⟩
  subst h2
  exact if_pos ⟨h1, hx⟩
theorem pk_cols : ∀ (l : List (List UInt8)) (c : List UInt8) (n : Nat) (acc : List (List UInt8)) (L : List Tk) (K : List (Nat × List UInt8)), (∀ x ∈ c :: l, x.length ≤ 16) → l.length < n → PK L ((2, c) :: (colsK l ++ ((2, wFrom) :: K))) → ∃ L', colsL n acc L = (some (acc ++ c :: l), L') ∧ PK L' ((2, wFrom) :: K)
  | l, c, 0, acc, L, K, _, hn, _ => by omega
  | [], c, n + 1, acc, L, K, hl, hn, h => by
    obtain ⟨L1, e1, h1⟩ := pk_name h (hl c (by simp))
    have h1' : PK L1 ((2, wFrom) :: K) := h1
    refine ⟨L1, ?_, h1'⟩
    rw [colsL, e1]
    simp only
    rw [if_neg (by rw [pk_no h1' (by decide)]; decide)]
  | d :: l, c, n + 1, acc, L, K, hl, hn, h => by
    obtain ⟨L1, e1, h1⟩ := pk_name h (hl c (by simp))
    have h1' : PK L1 ((5, wComma) :: (2, d) :: (colsK l ++ ((2, wFrom) :: K))) := h1
    obtain ⟨L2, e2, h2⟩ := pk_yes h1'
    obtain ⟨L3, e3, h3⟩ := pk_cols l d n (acc ++ [c]) L2 K (fun x hx => hl x (by simp only [List.mem_cons] at hx ⊢; exact .inr hx)) (by simp only [List.length_cons] at hn; omega) h2
    refine ⟨L3, ?_, h3⟩
    rw [colsL, e1]
    simp only
    rw [e2, if_pos rfl, e3]
    simp
theorem pk_columns (l : List (List UInt8)) (L : List Tk) (K : List (Nat × List UInt8)) (hl : ∀ x ∈ l, x.length ≤ 16) (hn : l.length ≤ 8) (h : PK L (colK l ++ ((2, wFrom) :: K))) : ∃ L', columnsL L = (some l, L') ∧ PK L' ((2, wFrom) :: K) := by
  match l, hl, hn, h with
  | [], _, _, h =>
    obtain ⟨L1, e1, h1⟩ := pk_yes (show PK L ((5, wStar) :: (2, wFrom) :: K) from h)
    refine ⟨L1, ?_, h1⟩
    unfold columnsL
    rw [e1, if_pos rfl]
  | c :: l, hl, hn, h =>
    have h' : PK L ((2, c) :: (colsK l ++ ((2, wFrom) :: K))) := h
    obtain ⟨L1, e1, h1⟩ := pk_cols l c 8 [] L K hl (by simp only [List.length_cons] at hn; omega) h'
    refine ⟨L1, ?_, h1⟩
    unfold columnsL
    rw [if_neg (by rw [pk_no h' (by rintro ⟨e, _⟩; cases e)]; decide), e1]
    rfl
theorem pk_test {t : Tst} {L : List Tk} {K : List (Nat × List UInt8)} (hc : t.col.length ≤ 16) (h1 : 1 ≤ t.op) (h6 : t.op ≤ 6) (h : PK L (testK t ++ K)) : ∃ L', testL L = (some t, L') ∧ PK L' K := by
  obtain ⟨L1, e1, k1⟩ := pk_name (show PK L ((2, t.col) :: (5, opT t.op) :: (4, t.val) :: K) from h) hc
  obtain ⟨t1, L2, rfl, a1, a2, k2⟩ := k1.cons
  obtain ⟨t2, L3, rfl, b1, b2, k3⟩ := k2.cons
  refine ⟨L3, ?_, k3⟩
  have hop := opN_opT t.op h1 h6
  unfold testL
  rw [e1]
  simp only
  have e2 : hdT (t1 :: t2 :: L3) = t1 := rfl
  have e3 : hdT (t1 :: t2 :: L3).tail = t2 := rfl
  rw [e2, e3, a2, b2, if_pos ⟨a1, by omega⟩, if_pos b1, hop]
  rfl
/-- Behind the tests stands no 'and'. -/
theorem pk_wh : ∀ (l : List Tst) (t : Tst) (i n : Nat) (acc : List Tst) (L : List Tk) (K : List (Nat × List UInt8)), 0 < i → (∀ x ∈ t :: l, x.col.length ≤ 16 ∧ 1 ≤ x.op ∧ x.op ≤ 6) → l.length < n → (∀ L', PK L' K → (passL 2 wAnd L').1 = false) → PK L (testK t ++ (whK i l ++ K)) → ∃ L', whL n acc L = (some (acc ++ t :: l), L') ∧ PK L' K
  | l, t, i, 0, acc, L, K, _, _, hn, _, _ => by omega
  | [], t, i, n + 1, acc, L, K, hi, hl, hn, hK, h => by
    obtain ⟨q1, q2, q3⟩ := hl t (by simp)
    obtain ⟨L1, e1, h1⟩ := pk_test q1 q2 q3 h
    have h1' : PK L1 K := h1
    refine ⟨L1, ?_, h1'⟩
    rw [whL, e1]
    simp only
    rw [if_neg (by rw [hK L1 h1']; decide)]
  | d :: l, t, i, n + 1, acc, L, K, hi, hl, hn, hK, h => by
    obtain ⟨q1, q2, q3⟩ := hl t (by simp)
    obtain ⟨L1, e1, h1⟩ := pk_test q1 q2 q3 h
    have h1' : PK L1 ((2, wAnd) :: (testK d ++ (whK (i + 1) l ++ K))) := by
      have : whK i (d :: l) = (2, wAnd) :: testK d ++ whK (i + 1) l := by rw [whK, if_neg (by omega)]
      rw [this] at h1
      simpa using h1
    obtain ⟨L2, e2, h2⟩ := pk_yes h1'
    obtain ⟨L3, e3, h3⟩ := pk_wh l d (i + 1) n (acc ++ [t]) L2 K (by omega) (fun x hx => hl x (by simp only [List.mem_cons] at hx ⊢; exact .inr hx)) (by simp only [List.length_cons] at hn; omega) hK h2
    refine ⟨L3, ?_, h3⟩
    rw [whL, e1]
    simp only
    rw [e2, if_pos rfl, e3]
    simp
theorem pk_end {L : List Tk} (h : PK L [(0, [])]) : (hdT L).kind = 0 ∧ ∀ k x, k ≠ 0 → (passL k x L).1 = false := by
  refine ⟨?_, fun k x hk => pk_no h (fun e => hk e.1.symm)⟩
  obtain ⟨t, L', rfl, h1, _⟩ := h.cons
  exact h1
/-- What does not stand ahead of the limit. -/
theorem pk_lim_no {q : Qry} {L : List Tk} (h : PK L (limK q ++ [(0, [])])) (x : List UInt8) (hx : x ≠ wLimit) : (passL 2 x L).1 = false := by
  unfold limK at h
  split at h
  · exact pk_no (show PK L ((2, wLimit) :: _) from h) (fun e => hx e.2.symm)
  · exact (pk_end h).2 2 x (by decide)
theorem pk_down_no {q : Qry} {L : List Tk} (h : PK L (downK q ++ (limK q ++ [(0, [])]))) (x : List UInt8) (hx : x ≠ wLimit) (hx2 : x ≠ wDown) : (passL 2 x L).1 = false := by
  unfold downK at h
  split at h
  · exact pk_no (show PK L ((2, wDown) :: _) from h) (fun e => hx2 e.2.symm)
  · exact pk_lim_no h x hx
theorem pk_ord_no {q : Qry} {L : List Tk} (h : PK L (ordK q ++ (downK q ++ (limK q ++ [(0, [])])))) (x : List UInt8) (hx : x ≠ wLimit) (hx2 : x ≠ wDown) (hx3 : x ≠ wOrder) : (passL 2 x L).1 = false := by
  unfold ordK at h
  split at h
  · exact pk_down_no h x hx hx2
  · exact pk_no (show PK L ((2, wOrder) :: _) from h) (fun e => hx3 e.2.symm)
theorem pk_c5 (q : Qry) {cs tb wh od dn lm} {L : List Tk} (h : PK L [(0, [])]) : c5 cs tb wh od dn lm L = (some ⟨cs, tb, wh, od, dn, lm⟩, L) := by unfold c5; rw [if_pos (pk_end h).1]
theorem pk_c4 (q : Qry) (hq : MayP q) {cs tb wh od dn} {L : List Tk} (h : PK L (limK q ++ [(0, [])])) : ∃ L', c4 cs tb wh od dn L = (some ⟨cs, tb, wh, od, dn, q.lim⟩, L') := by
  unfold c4
  by_cases hl : 0 < q.lim
  · have e : limK q = [(2, wLimit), (3, Lib.itoa q.lim)] := by unfold limK; rw [if_pos hl]
    rw [e] at h
    obtain ⟨L1, e1, h1⟩ := pk_yes (show PK L ((2, wLimit) :: (3, Lib.itoa q.lim) :: [(0, [])]) from h)
    obtain ⟨t, L2, rfl, a1, a2, h2⟩ := h1.cons
    obtain ⟨⟨c, u, hc, h48⟩, _, hlen, hat⟩ := itoa_facts q.lim hl hq.lim1
    have e2 : limitL (t :: L2) = (some q.lim, L2) := by
      unfold limitL
      have e3 : hdT (t :: L2) = t := rfl
      rw [e3, a2, if_pos ⟨a1, hlen, by rw [hc]; simpa using h48⟩, hat]
      rfl
    rw [e1, if_pos rfl]
    simp only [e2]
    exact ⟨_, pk_c5 q h2⟩
  · have e : limK q = [] := by unfold limK; rw [if_neg hl]
    have e0 : q.lim = 0 := by have := hq.lim0; omega
    rw [e] at h
    rw [if_neg (by rw [(pk_end h).2 2 wLimit (by decide)]; decide), e0]
    exact ⟨_, pk_c5 q h⟩
theorem pk_c3 (q : Qry) (hq : MayP q) (hd : q.ord = [] → q.down = false) {cs tb wh} {L : List Tk} (h : PK L (ordK q ++ (downK q ++ (limK q ++ [(0, [])])))) : ∃ L', c3 cs tb wh L = (some ⟨cs, tb, wh, q.ord, q.down, q.lim⟩, L') := by
  unfold c3
  by_cases ho : q.ord = []
  · have e : ordK q = [] := by unfold ordK; rw [if_pos ho]
    have e2 : downK q = [] := by unfold downK; rw [hd ho]; rfl
    rw [e, e2] at h
    have h' : PK L (limK q ++ [(0, [])]) := h
    rw [if_neg (by rw [pk_lim_no h' wOrder (by decide)]; decide), ho, hd ho]
    exact pk_c4 q hq h'
  · have e : ordK q = [(2, wOrder), (2, wBy), (2, q.ord)] := by unfold ordK; rw [if_neg ho]
    rw [e] at h
    obtain ⟨L1, e1, h1⟩ := pk_yes (show PK L ((2, wOrder) :: (2, wBy) :: (2, q.ord) :: (downK q ++ (limK q ++ [(0, [])]))) from h)
    obtain ⟨L2, e2, h2⟩ := pk_yes h1
    obtain ⟨L3, e3, h3⟩ := pk_name h2 (ord_le hq)
    have hdn : ∃ L4, passL 2 wDown L3 = (q.down, L4) ∧ PK L4 (limK q ++ [(0, [])]) := by
      unfold downK at h3
      cases hq2 : q.down with
      | true =>
        rw [hq2] at h3
        exact pk_yes (show PK L3 ((2, wDown) :: _) from h3)
      | false =>
        rw [hq2] at h3
        have h3' : PK L3 (limK q ++ [(0, [])]) := h3
        have e4 := pk_lim_no h3' wDown (by decide)
        refine ⟨L3, ?_, h3'⟩
        unfold passL at e4 ⊢
        split at e4
        · cases e4
        · rename_i hh; rw [if_neg hh]
    obtain ⟨L4, e4, h4⟩ := hdn
    have e5 : orderL L1 = (some (q.ord, q.down), L4) := by
      unfold orderL
      rw [e2, if_pos rfl]
      simp only [e3, e4]
    rw [e1, if_pos rfl]
    simp only [e5]
    exact pk_c4 q hq h4
theorem pk_c2 (q : Qry) (hq : MayP q) (hd : q.ord = [] → q.down = false) {cs tb} {L : List Tk} (h : PK L (whK 0 q.wh ++ (ordK q ++ (downK q ++ (limK q ++ [(0, [])]))))) : ∃ L', c2 cs tb L = (some ⟨cs, tb, q.wh, q.ord, q.down, q.lim⟩, L') := by
  unfold c2
  have hw8 := hq.wh
  have hwB := hq.whB
  match hw : q.wh with
  | [] =>
    rw [hw] at h
    have h' : PK L (ordK q ++ (downK q ++ (limK q ++ [(0, [])]))) := h
    rw [if_neg (by rw [pk_ord_no h' wWhere (by decide) (by decide) (by decide)]; decide)]
    exact pk_c3 q hq hd h'
  | t :: l =>
    rw [hw] at h hw8 hwB
    have h' : PK L ((2, wWhere) :: (testK t ++ (whK 1 l ++ (ordK q ++ (downK q ++ (limK q ++ [(0, [])])))))) := by
      have : whK 0 (t :: l) = (2, wWhere) :: testK t ++ whK 1 l := by rw [whK, if_pos rfl]
      rw [this] at h
      simpa using h
    obtain ⟨L1, e1, h1⟩ := pk_yes h'
    obtain ⟨L2, e2, h2⟩ := pk_wh l t 1 8 [] L1 _ (by omega) (fun x hx => by obtain ⟨k1, k2, k3, _⟩ := hwB x hx; exact ⟨nm_len k1, k2, k3⟩) (by simp only [List.length_cons] at hw8; omega) (fun L' hL' => pk_ord_no hL' wAnd (by decide) (by decide) (by decide)) h1
    rw [e1, if_pos rfl]
    simp only [e2]
    exact pk_c3 q hq hd h2
theorem parse_text (q : Qry) (hq : MayP q) (hd : q.ord = [] → q.down = false) : ∃ L', parseL (toks (textQ q) 0) = (some q, L') := by
  have h := toks_text q hq
  unfold KQ at h
  obtain ⟨L1, e1, h1⟩ := pk_yes h
  obtain ⟨L2, e2, h2⟩ := pk_columns q.cols L1 _ (fun x hx => nm_len (hq.colsB x hx)) hq.cols h1
  obtain ⟨L3, e3, h3⟩ := pk_yes h2
  obtain ⟨L4, e4, h4⟩ := pk_name h3 (nm_len hq.tab)
  obtain ⟨L5, e5⟩ := pk_c2 q hq hd (cs := q.cols) (tb := q.tab) h4
  refine ⟨L5, ?_⟩
  unfold parseL
  rw [e1, if_pos rfl]
  simp only [e2]
  unfold c1
  rw [e3, if_pos rfl]
  simp only [e4]
  exact e5
/-- There and back. -/
theorem parse_print (q : Qry) (h : (printQ q).2 = 0) : parseQ (textQ q) = (q, 0, 0) ∧ printQ q = (textQ q, 0) ∧ (textQ q).length ≤ 1024 := by
  unfold printQ at h
  have hm : mayQ q = true := by
    cases hm : mayQ q with
    | true => rfl
    | false => rw [hm] at h; simp at h
  rw [hm, if_pos rfl] at h
  have hl : (textQ q).length ≤ 1024 := by
    by_cases hl : (textQ q).length ≤ 1024
    · exact hl
    · rw [if_neg hl] at h; simp at h
  have hp : printQ q = (textQ q, 0) := by unfold printQ; rw [hm, if_pos rfl, if_pos hl]
  have hd : q.ord = [] → q.down = false := by
    intro ho
    unfold mayQ at hm
    simp only [Bool.and_eq_true] at hm
    have := hm.1.1.2
    rw [if_pos ho] at this
    simpa using this
  obtain ⟨L', e⟩ := parse_text q (mayP hm) hd
  refine ⟨?_, hp, hl⟩
  unfold parseQ
  rw [if_pos hl, e]
  simp only
  rw [hp, if_pos rfl]
/-- Where a fault is: within the text. -/
theorem parse_place (s : List UInt8) (h : (parseQ s).2.2 ≠ 0) : (parseQ s).1 = ⟨[], [], [], [], false, 0⟩ := by
  unfold parseQ at h ⊢
  by_cases hl : s.length ≤ 1024
  · rw [if_pos hl] at h ⊢
    rcases hp : parseL (toks s 0) with ⟨o, L⟩
    rw [hp] at h
    cases o with
    | none => rfl
    | some q =>
      simp only at h ⊢
      by_cases he : (printQ q).2 = 0
      · rw [if_pos he] at h; exact absurd rfl h
      · rw [if_neg he]
  · rw [if_neg hl]
theorem parse_good (s : List UInt8) (h : (parseQ s).2.2 = 0) : (printQ (parseQ s).1).2 = 0 := by
  unfold parseQ at h ⊢
  by_cases hl : s.length ≤ 1024
  · rw [if_pos hl] at h ⊢
    rcases hp : parseL (toks s 0) with ⟨o, L⟩
    rw [hp] at h
    cases o with
    | none => simp at h
    | some q =>
      simp only at h ⊢
      by_cases he : (printQ q).2 = 0
      · rw [if_pos he]; exact he
      · rw [if_neg he] at h; simp at h
  · rw [if_neg hl] at h; simp at h
end Go.Proofs.YthhemephaabblaaGreatDoor.Hq
namespace Go.Proofs.YthhemephaabblaaGreatDoor.Hq
open Go.RowKit Go.Proofs.YthhemephaabblaaGreatDoorW.PrintWords Go.Proofs.YthhemephaabblaaGreatDoorW.PrintLast Go.Proofs.YthhemephaabblaaGreatDoorW.PrintMore Go.Proofs.YthhemephaabblaaGreatDoor Go.Proofs.YthhemephaabblaaGreatDoor.Q Go.Proofs.YthhemephaabblaaGreatDoor.R
set_option linter.unusedVariables false
set_option linter.unusedSimpArgs false

theorem num_calls (x : Int) (w : World) : Calls Tryz.prog 9 #[.int .i64 x] w fun e w' => e = .returned (.int .i64 x) ∧ Ext w w' :=
  (cairnlaw32_num.calls x x w rfl).mono (fun e w' h => ⟨h.1, h.2.below⟩)
theorem qprint_calls (q : Qry) (hq : okQ q) (A5 : Option Addr) (c5 : Nat) (A7 : Option Addr) (c7 : Nat) (w : World) (h5 : Kd.C Kd.string w A5 q.cols.length (q.cols.map strB)) (hc5 : q.cols.length ≤ c5) (h7 : Kd.C k37 w A7 q.wh.length (q.wh.map t37)) (hc7 : q.wh.length ≤ c7) (hG : Glob w) :
    Calls Tryz.prog 13 #[qval q (.slice A5 q.cols.length c5) (.slice A7 q.wh.length c7)] w fun e w' => e = .returned (.tuple #[.string (strB (printQ q).1), .int .i64 (printQ q).2]) ∧ Ext w w' := by
  have := query_Print.calls (q.cols.length + q.wh.length + 51) A5 c5 (q.cols.map strB) (strB q.tab) A7 c7 (q.wh.map t37) (strB q.ord) q.down q.lim (strB (printQ q).1) (printQ q).2 w (by rw [List.length_map]; exact h5) (by rw [List.length_map]; exact hc5) (by rw [List.length_map]; exact h7) (by rw [List.length_map]; exact hc7) hG (print_f q hq _ (by omega))
  rw [List.length_map, List.length_map] at this
  exact this
/-- The known question. -/
def knQ : Qry := ⟨[[97]], [116], [⟨[98], 6, [120]⟩], [], false, 0⟩
def knT : List UInt8 := [115, 101, 108, 101, 99, 116, 32, 97, 32, 102, 114, 111, 109, 32, 116, 32, 119, 104, 101, 114, 101, 32, 98, 32, 62, 61, 32, 34, 120, 34]
theorem knT_eq : textQ knQ = knT := by decide +kernel
theorem kn_print : printQ knQ = (knT, 0) := by decide +kernel
theorem kn_parse : parseQ knT = (knQ, 0, 0) := by
  have := (parse_print knQ (by rw [kn_print])).1
  rwa [knT_eq] at this
theorem kn_ok : okQ knQ := ⟨by decide, by decide, by decide, by decide, by decide, by decide⟩
set_option maxRecDepth 100000 in
set_option maxHeartbeats 3200000 in
theorem known_calls (w : World) (hG : Glob w) : Calls Tryz.prog 11 #[] w fun e w' => e = .returned (.bool true) ∧ Ext w w' := by
  have hp := parse_calls knT w hG (by decide)
  rw [kn_parse] at hp
  have hp2 : Calls Tryz.prog 7 #[.string ⟨#[115, 101, 108, 101, 99, 116, 32, 97, 32, 102, 114, 111, 109, 32, 116, 32, 119, 104, 101, 114, 101, 32, 98, 32, 62, 61, 32, 34, 120, 34]⟩] w (fun e w' => ∃ A5 c5 A7 c7, e = .returned (.tuple #[.agg #[.slice A5 1 c5, .string (strB [116]), .slice A7 1 c7, .string (strB []), .bool false, .int .i64 0], .int .i64 0, .int .i64 0]) ∧ 1 ≤ c5 ∧ 1 ≤ c7 ∧ Kd.C Kd.string w' A5 1 [strB [97]] ∧ Kd.C k37 w' A7 1 [t37 ⟨[98], 6, [120]⟩] ∧ Ext w w') := by
    refine Calls.mono hp ?_
    rintro e w1 ⟨v5, v7, rfl, ⟨hS5, hT7⟩, hB1⟩
    obtain ⟨A5, c5, rfl, hc5, hC5⟩ := sr_C hS5 (by decide)
    obtain ⟨A7, c7, rfl, hc7, hC7⟩ := tr_C hT7 (by decide)
    exact ⟨A5, c5, A7, c7, rfl, hc5, hc7, hC5, hC7, hB1⟩
  clear hp
  go_enter Tryz.func11, Tryz.ntmps11
  go_upto_region 2 with (go_at_call 7; (with_reducible refine hp2.mono ?_); rintro e w1 ⟨A5, c5, A7, c7, rfl, hc5, hc7, hC5, hC7, hB1⟩; have HC := Aside0.mk (And.intro hC5 hC7); have HCC := Aside0.mk (And.intro hc5 hc7); have HB1 := Aside0.mk hB1; clear hB1 hC5 hC7 hc5 hc7)
  obtain ⟨w2, hw2⟩ : ∃ W, W = w1.alloc (.cells #[.slice A5 1 c5, .string (strB [116]), .slice A7 1 c7, .string (strB []), .bool false, .int .i64 0] 25) := ⟨_, rfl⟩
  have HE2 : Aside0 (Ext w1 w2) := ⟨by rw [hw2]; exact (Ext.refl w1).alloc _⟩
  have HZ2 : Aside0 (w2.heap[w1.heap.size]? = some (.cells #[.slice A5 1 c5, .string (strB [116]), .slice A7 1 c7, .string (strB []), .bool false, .int .i64 0] 25 (0, 0))) := ⟨by rw [hw2]; exact heap_alloc_new _ _⟩
  obtain ⟨pb, hpb⟩ : ∃ n, n = w1.heap.size := ⟨_, rfl⟩
  rw [← hpb] at HZ2
  rw [← hw2, ← hpb]
  clear hw2 hpb hp2
  obtain ⟨w3, hw3⟩ : ∃ W, W = (w2.alloc (.cells #[.string ⟨#[97]⟩] 9)).alloc (.cells #[.string ⟨#[98]⟩, .int .i64 6, .string ⟨#[120]⟩] 37) := ⟨_, rfl⟩
  have hE3 : Ext w2 w3 := by rw [hw3]; exact ((Ext.refl w2).alloc _).alloc _
  have k5 : Kd.C Kd.string w3 (some ⟨w2.heap.size, 0, none⟩) 1 [strB [97]] := by
    have h1 := Sr.ext (Sr.lit (B := w2.heap.size) (w := w2) (cs := #[.string ⟨#[97]⟩]) (xs := [[97]]) (Nat.le_refl _) rfl (by simp)) ((Ext.refl _).alloc (.cells #[.string ⟨#[98]⟩, .int .i64 6, .string ⟨#[120]⟩] 37))
    rw [← hw3] at h1
    obtain ⟨A, c, e, hc, hC⟩ := sr_C h1 (by decide)
    simp only [Value.slice.injEq] at e
    rw [e.1]
    exact hC
  have k7 : Kd.C k37 w3 (some ⟨w2.heap.size + 1, 0, none⟩) 1 [t37 ⟨[98], 6, [120]⟩] := by
    have h1 := World.ownsRow_lit (base := 0) (e := 37) (size := 3) (w2.alloc (.cells #[.string ⟨#[97]⟩] 9)) #[.string ⟨#[98]⟩, .int .i64 6, .string ⟨#[120]⟩] 1 (Nat.zero_le _) (by simp [maxLen]) rfl
    rw [← hw3] at h1
    have h2 : w3.ownsRow 0 37 3 (.slice (some ⟨w2.heap.size + 1, 0, none⟩) 1 1) 1 [.string ⟨#[98]⟩, .int .i64 6, .string ⟨#[120]⟩] := by simpa using h1
    obtain ⟨A, c, e, hc, hC⟩ := tr_C (show Tr 0 w3 (.slice (some ⟨w2.heap.size + 1, 0, none⟩) 1 1) [⟨[98], 6, [120]⟩] from h2) (by decide)
    simp only [Value.slice.injEq] at e
    rw [e.1]
    exact hC
  have hpr : Calls Tryz.prog 13 #[.agg #[.slice (some ⟨w2.heap.size, 0, none⟩) 1 1, .string ⟨#[116]⟩, .slice (some ⟨w2.heap.size + 1, 0, none⟩) 1 1, .string ⟨#[]⟩, .bool false, .int .i64 0]] w3 fun e w' => e = .returned (.tuple #[.string ⟨#[115, 101, 108, 101, 99, 116, 32, 97, 32, 102, 114, 111, 109, 32, 116, 32, 119, 104, 101, 114, 101, 32, 98, 32, 62, 61, 32, 34, 120, 34]⟩, .int .i64 0]) ∧ Ext w3 w' := by
    have h1 := qprint_calls knQ kn_ok (some ⟨w2.heap.size, 0, none⟩) 1 (some ⟨w2.heap.size + 1, 0, none⟩) 1 w3 k5 (by decide) k7 (by decide) (Glob.of_below hG ((HB1.out.trans HE2.out).trans hE3))
    rw [kn_print] at h1
    exact h1
  rw [hw3] at hpr
  have HE3 := Aside0.mk hE3
  clear k5 k7 hE3
  go_upto_region 3 with (go_at_call 13; (with_reducible refine hpr.mono ?_); rintro e w4 ⟨rfl, hE4⟩; rw [← hw3] at hE4; have HE4 := Aside0.mk hE4; clear hE4)
  have HZP : Aside0 (w4.heap[pb]? = some (.cells #[.slice A5 1 c5, .string (strB [116]), .slice A7 1 c7, .string (strB []), .bool false, .int .i64 0] 25 (0, 0))) := ⟨heap_below HZ2.out (HE3.out.trans HE4.out)⟩
  have HSM : Aside0 (∀ W, Ext w4 W → Calls Tryz.prog 10 #[.agg #[.slice A5 1 c5, .string (strB [116]), .slice A7 1 c7, .string (strB []), .bool false, .int .i64 0], .agg #[.slice (some ⟨W.heap.size, 0, none⟩) 1 1, .string ⟨#[116]⟩, .slice (some ⟨W.heap.size + 1, 0, none⟩) 1 1, .string ⟨#[]⟩, .bool false, .int .i64 0]] ((W.alloc (.cells #[.string ⟨#[97]⟩] 9)).alloc (.cells #[.string ⟨#[98]⟩, .int .i64 6, .string ⟨#[120]⟩] 70)) fun e w' => e = .returned (.bool true) ∧ Ext W w') := ⟨fun W hW => by
    have hX : Ext w1 W := HE2.out.trans (HE3.out.trans (HE4.out.trans hW))
    obtain ⟨W2, hW2⟩ : ∃ V, V = (W.alloc (.cells #[.string ⟨#[97]⟩] 9)).alloc (.cells #[.string ⟨#[98]⟩, .int .i64 6, .string ⟨#[120]⟩] 70) := ⟨_, rfl⟩
    have hY : Ext W W2 := by rw [hW2]; exact ((Ext.refl W).alloc _).alloc _
    have hb : W2.heap[W.heap.size]? = some (.cells #[.string ⟨#[97]⟩] 9 (0, 0)) := by rw [hW2]; exact (Array.getElem?_push_lt (by simp)).trans (by simpa using heap_alloc_new W _)
    have hb2 : W2.heap[W.heap.size + 1]? = some (.cells #[.string ⟨#[98]⟩, .int .i64 6, .string ⟨#[120]⟩] 70 (0, 0)) := by rw [hW2]; have := heap_alloc_new (W.alloc (.cells #[.string ⟨#[97]⟩] 9)) (.cells #[.string ⟨#[98]⟩, .int .i64 6, .string ⟨#[120]⟩] 70); simpa using this
    rw [← hW2]
    have h1 : Sr 0 W2 (.slice (some ⟨W.heap.size, 0, none⟩) 1 1) [[97]] := ⟨rfl, .inr ⟨W.heap.size, 1, _, rfl, Nat.zero_le _, hb, Nat.le_refl _, by decide, rfl, rfl⟩⟩
    have h2 : Te 0 W2 (.slice (some ⟨W.heap.size + 1, 0, none⟩) 1 1) [⟨[98], 6, [120]⟩] := ⟨rfl, .inr ⟨W.heap.size + 1, 1, _, rfl, Nat.zero_le _, hb2, Nat.le_refl _, by decide, rfl, rfl⟩⟩
    obtain ⟨A, c, e, hc, hC⟩ := sr_C h1 (by decide)
    obtain ⟨A2, c2, e2, hc2, hC2⟩ := te_C h2 (by decide)
    simp only [Value.slice.injEq] at e e2
    have h3 := same_calls knQ A5 c5 A7 c7 A 1 A2 1 W2 (Kd.C_below HC.out.1 (hX.trans hY)) HCC.out.1 (Kd.C_below HC.out.2 (hX.trans hY)) HCC.out.2 hC (by decide) hC2 (by decide) (by decide) (by decide)
    rw [← e.1, ← e2.1] at h3
    exact Calls.mono h3 (fun e w' h => ⟨h.1, hY.trans h.2⟩)⟩
  have HF : Aside0 (Ext w w4) := ⟨HB1.out.trans (HE2.out.trans (HE3.out.trans HE4.out))⟩
  clear hw3 hpr HE3 HE4 HE2 HZ2
  have zp := HZP.out
  have z0 := blk_cell zp 0
  have z1 := blk_cell zp 1
  have z2 := blk_cell zp 2
  have z3 := blk_cell zp 3
  have z4 := blk_cell zp 4
  have z5 := blk_cell zp 5
  clear zp
  have HX := Aside0.mk (Ext.refl w4)
  go_wp2_with (first
    | (go_at_call 9; (with_reducible refine (num_calls 0 _).mono ?_); rintro e w5 ⟨rfl, hE5⟩; have HX := Aside0.mk (HX.out.trans hE5); have z0 := cell_ext hE5 z0; have z1 := cell_ext hE5 z1; have z2 := cell_ext hE5 z2; have z3 := cell_ext hE5 z3; have z4 := cell_ext hE5 z4; have z5 := cell_ext hE5 z5; clear hE5)
    | (go_at_call 10; (with_reducible refine (HSM.out _ HX.out).mono ?_); rintro e w5 ⟨rfl, hE5⟩; have HX := Aside0.mk (HX.out.trans hE5); clear hE5))
  go_ret
  exact ⟨rfl, HF.out.trans HX.out⟩
end Go.Proofs.YthhemephaabblaaGreatDoor.Hq
namespace Go.Proofs.YthhemephaabblaaGreatDoor.Hq
open Go.RowKit Go.Proofs.YthhemephaabblaaGreatDoorW.PrintWords Go.Proofs.YthhemephaabblaaGreatDoorW.PrintLast Go.Proofs.YthhemephaabblaaGreatDoorW.PrintMore Go.Proofs.YthhemephaabblaaGreatDoor Go.Proofs.YthhemephaabblaaGreatDoor.Q
set_option linter.unusedVariables false
set_option linter.unusedSimpArgs false

theorem cols_sub : ∀ (n : Nat) (acc : List (List UInt8)) (L : List Tk), Sub (colsL n acc L).2 L
  | 0, acc, L => Sub.refl L
  | n + 1, acc, L => by
    rw [colsL]
    have hs := name_sub L
    rcases h : nameL L with ⟨o, L1⟩
    rw [h] at hs
    cases o with
    | none => exact hs
    | some c =>
      simp only
      split
      · exact (cols_sub n _ _).trans ((pass_sub _ _ _).trans hs)
      · exact hs
theorem columns_sub (L : List Tk) : Sub (columnsL L).2 L := by
  unfold columnsL
  split
  · exact pass_sub _ _ _
  · exact cols_sub _ _ _
theorem test_sub (L : List Tk) : Sub (testL L).2 L := by
  unfold testL
  have hs := name_sub L
  rcases h : nameL L with ⟨o, L1⟩
  rw [h] at hs
  cases o with
  | none => exact hs
  | some c =>
    simp only
    split
    · split
      · exact ((Sub.tail _).trans (Sub.tail _)).trans hs
      · exact (Sub.tail _).trans hs
    · exact hs
theorem wh_sub : ∀ (n : Nat) (acc : List Tst) (L : List Tk), Sub (whL n acc L).2 L
  | 0, acc, L => Sub.refl L
  | n + 1, acc, L => by
    rw [whL]
    have hs := test_sub L
    rcases h : testL L with ⟨o, L1⟩
    rw [h] at hs
    cases o with
    | none => exact hs
    | some c =>
      simp only
      split
      · exact (wh_sub n _ _).trans ((pass_sub _ _ _).trans hs)
      · exact hs
theorem order_sub (L : List Tk) : Sub (orderL L).2 L := by
  unfold orderL
  split
  · have hs := (name_sub (passL 2 wBy L).2).trans (pass_sub _ _ _)
    rcases h : nameL (passL 2 wBy L).2 with ⟨o, L1⟩
    rw [h] at hs
    cases o with
    | none => exact hs
    | some c => exact (pass_sub _ _ _).trans hs
  · exact Sub.refl L
theorem limit_sub (L : List Tk) : Sub (limitL L).2 L := by
  unfold limitL
  split
  · exact Sub.tail L
  · exact Sub.refl L
theorem c5_sub {cs tb wh od dn lm} (L : List Tk) : Sub (c5 cs tb wh od dn lm L).2 L := by
  unfold c5
  split <;> exact Sub.refl L
theorem c4_sub {cs tb wh od dn} (L : List Tk) : Sub (c4 cs tb wh od dn L).2 L := by
  unfold c4
  split
  · have hs := (limit_sub (passL 2 wLimit L).2).trans (pass_sub _ _ _)
    rcases h : limitL (passL 2 wLimit L).2 with ⟨o, L1⟩
    rw [h] at hs
    cases o with
    | none => exact hs
    | some c => exact (c5_sub L1).trans hs
  · exact c5_sub L
theorem c3_sub {cs tb wh} (L : List Tk) : Sub (c3 cs tb wh L).2 L := by
  unfold c3
  split
  · have hs := (order_sub (passL 2 wOrder L).2).trans (pass_sub _ _ _)
    rcases h : orderL (passL 2 wOrder L).2 with ⟨o, L1⟩
    rw [h] at hs
    cases o with
    | none => exact hs
    | some c => exact (c4_sub L1).trans hs
  · exact c4_sub L
theorem c2_sub {cs tb} (L : List Tk) : Sub (c2 cs tb L).2 L := by
  unfold c2
  split
  · have hs := (wh_sub 8 [] (passL 2 wWhere L).2).trans (pass_sub _ _ _)
    rcases h : whL 8 [] (passL 2 wWhere L).2 with ⟨o, L1⟩
    rw [h] at hs
    cases o with
    | none => exact hs
    | some c => exact (c3_sub L1).trans hs
  · exact c3_sub L
theorem c1_sub {cs} (L : List Tk) : Sub (c1 cs L).2 L := by
  unfold c1
  split
  · have hs := (name_sub (passL 2 wFrom L).2).trans (pass_sub _ _ _)
    rcases h : nameL (passL 2 wFrom L).2 with ⟨o, L1⟩
    rw [h] at hs
    cases o with
    | none => exact hs
    | some c => exact (c2_sub L1).trans hs
  · exact Sub.refl L
theorem parse_sub (L : List Tk) : Sub (parseL L).2 L := by
  unfold parseL
  split
  · have hs := (columns_sub (passL 2 wSelect L).2).trans (pass_sub _ _ _)
    rcases h : columnsL (passL 2 wSelect L).2 with ⟨o, L1⟩
    rw [h] at hs
    cases o with
    | none => exact hs
    | some c => exact (c1_sub L1).trans hs
  · exact Sub.refl L
theorem toksF_place (s : List UInt8) : ∀ (n p : Nat), p ≤ s.length → ∀ t ∈ toksF n s p, t.place ≤ s.length
  | 0, p, _, t, h => by cases h
  | n + 1, p, hp, t, h => by
    rw [toksF] at h
    have hr := runEnd_le isSp s p hp
    have ht := tk_le s (runEnd isSp s p) hr
    rw [← tokAt_tk] at ht
    rcases List.mem_cons.1 h with rfl | h
    · omega
    · split at h
      · cases h
      · exact toksF_place s n _ ht.2.1 t h
theorem place_le (s : List UInt8) : (parseQ s).2.1 ≤ s.length := by
  unfold parseQ
  split
  · have hs := parse_sub (toks s 0)
    rcases hp : parseL (toks s 0) with ⟨o, L⟩
    rw [hp] at hs
    cases o with
    | none =>
      show (hdT L).place ≤ s.length
      cases L with
      | nil => exact Nat.zero_le _
      | cons t L => exact toksF_place s _ 0 (Nat.zero_le _) t (hs t (by simp))
    | some q =>
      simp only
      split <;> exact Nat.zero_le _
  · exact Nat.zero_le _
end Go.Proofs.YthhemephaabblaaGreatDoor.Hq
namespace Go.Proofs.YthhemephaabblaaGreatDoor.Hq
open Go.RowKit Go.Proofs.YthhemephaabblaaGreatDoorW.PrintWords Go.Proofs.YthhemephaabblaaGreatDoorW.PrintLast Go.Proofs.YthhemephaabblaaGreatDoorW.PrintMore Go.Proofs.YthhemephaabblaaGreatDoor Go.Proofs.YthhemephaabblaaGreatDoor.Q Go.Proofs.YthhemephaabblaaGreatDoor.R
set_option linter.unusedVariables false
set_option linter.unusedSimpArgs false

theorem may_of_print {q : Qry} (h : (printQ q).2 = 0) : MayP q := by
  refine mayP ?_
  unfold printQ at h
  cases hm : mayQ q with
  | true => rfl
  | false => rw [hm] at h; simp at h
theorem MayP.okQ {q : Qry} (h : MayP q) : okQ q :=
  ⟨fun c hc => by have := nm_len (h.colsB c hc); omega, by have := nm_len h.tab; omega, fun t ht => by obtain ⟨h1, _, _, h4⟩ := h.whB t ht; have := nm_len h1; omega, by have := ord_le h; omega, by have := h.cols; omega, by have := h.wh; omega⟩
/-- 'Parse', its answer's lists as the contracts read them. -/
theorem parse_ret (s : List UInt8) (w : World) (hG : Glob w) (hs : s.length ≤ 1000000000000) (q : Qry) (at_ : Nat) (f : Int) (h : parseQ s = (q, at_, f)) (hl5 : q.cols.length ≤ 1000000000) (hl7 : q.wh.length ≤ 1000000000) :
    Calls Tryz.prog 7 #[.string (strB s)] w fun e w' => ∃ A5 c5 A7 c7, e = .returned (.tuple #[.agg #[.slice A5 q.cols.length c5, .string (strB q.tab), .slice A7 q.wh.length c7, .string (strB q.ord), .bool q.down, .int .i64 q.lim], .int .i64 (at_ : Int), .int .i64 f]) ∧ q.cols.length ≤ c5 ∧ q.wh.length ≤ c7 ∧ Kd.C Kd.string w' A5 q.cols.length (q.cols.map strB) ∧ Kd.C k37 w' A7 q.wh.length (q.wh.map t37) ∧ Ext w w' := by
  have hp := parse_calls s w hG hs
  rw [h] at hp
  refine Calls.mono hp ?_
  rintro e w1 ⟨v5, v7, rfl, ⟨hS5, hT7⟩, hB1⟩
  obtain ⟨A5, c5, rfl, hc5, hC5⟩ := sr_C hS5 hl5
  obtain ⟨A7, c7, rfl, hc7, hC7⟩ := tr_C hT7 hl7
  exact ⟨A5, c5, A7, c7, rfl, hc5, hc7, hC5, hC7, hB1⟩
set_option maxRecDepth 100000 in
set_option maxHeartbeats 3200000 in
theorem queryRound_calls (q : Qry) (hok : okQ q) (A5 : Option Addr) (c5 : Nat) (A7 : Option Addr) (c7 : Nat) (s : List UInt8) (w : World) (hG : Glob w) (h5 : Kd.C Kd.string w A5 q.cols.length (q.cols.map strB)) (hc5 : q.cols.length ≤ c5) (h7 : Kd.C k70 w A7 q.wh.length (q.wh.map t70)) (hc7 : q.wh.length ≤ c7) (hl5 : q.cols.length ≤ 2000000) (hl7 : q.wh.length ≤ 2000000) (hs : s.length ≤ 1000000000) :
    Calls Tryz.prog 5 #[qval q (.slice A5 q.cols.length c5) (.slice A7 q.wh.length c7), .string (strB s)] w fun e w' => e = .returned (.bool true) ∧ Ext w w' := by
  unfold qval
  have H5 := Aside0.mk h5
  have H7 := Aside0.mk h7
  have HG := Aside0.mk hG
  have HOK := Aside0.mk hok
  clear h5 h7 hG hok
  obtain ⟨S, hS⟩ : ∃ S, S = strB (printQ q).1 := ⟨_, rfl⟩
  obtain ⟨E, hE⟩ : ∃ E, E = (printQ q).2 := ⟨_, rfl⟩
  have HS := Aside0.mk hS
  have HE := Aside0.mk hE
  clear hS hE
  go_enter Tryz.func5, Tryz.ntmps5
  go_upto_region 1 with fail
  obtain ⟨w1, hw1⟩ : ∃ W, W = w.alloc (.cells #[.slice A5 q.cols.length c5, .string (strB q.tab), .slice A7 q.wh.length c7, .string (strB q.ord), .bool q.down, .int .i64 q.lim] 31) := ⟨_, rfl⟩
  have hE1 : Ext w w1 := by rw [hw1]; exact (Ext.refl w).alloc _
  have hz : w1.heap[w.heap.size]? = some (.cells #[.slice A5 q.cols.length c5, .string (strB q.tab), .slice A7 q.wh.length c7, .string (strB q.ord), .bool q.down, .int .i64 q.lim] 31 (0, 0)) := by rw [hw1]; exact heap_alloc_new _ _
  obtain ⟨ab, hab⟩ : ∃ n, n = w.heap.size := ⟨_, rfl⟩
  rw [← hab] at hz
  rw [← hw1, ← hab]
  clear hw1 hab
  have y0 := blk_cell hz 0
  have y1 := blk_cell hz 1
  have y2 := blk_cell hz 2
  have y3 := blk_cell hz 3
  have y4 := blk_cell hz 4
  have y5 := blk_cell hz 5
  have HX := Aside0.mk hE1
  clear hE1 hz
  have HKN : Aside0 (∀ W, Ext w W → Calls Tryz.prog 11 #[] W (fun e w' => e = .returned (.bool true) ∧ Ext W w')) := ⟨fun W hW => known_calls W (Glob.of_below HG.out hW)⟩
  have hm : Calls Tryz.prog 12 #[.agg #[.slice A5 q.cols.length c5, .string (strB q.tab), .slice A7 q.wh.length c7, .string (strB q.ord), .bool q.down, .int .i64 q.lim]] w1 (fun e w' => ∃ b5 d5 b7 d7, e = .returned (.agg #[.slice (some ⟨b5, 0, none⟩) q.cols.length d5, .string (strB q.tab), .slice (some ⟨b7, 0, none⟩) q.wh.length d7, .string (strB q.ord), .bool q.down, .int .i64 q.lim]) ∧ Calls Tryz.prog 13 #[.agg #[.slice (some ⟨b5, 0, none⟩) q.cols.length d5, .string (strB q.tab), .slice (some ⟨b7, 0, none⟩) q.wh.length d7, .string (strB q.ord), .bool q.down, .int .i64 q.lim]] w' (fun e w2 => e = .returned (.tuple #[.string S, .int .i64 E]) ∧ Ext w' w2) ∧ Ext w1 w') := by
    refine Calls.mono (mine_calls q A5 c5 A7 c7 w1 (Kd.C_below H5.out HX.out) hc5 (Kd.C_below H7.out HX.out) hc7 hl5 hl7) ?_
    rintro e w2 ⟨v5, v7, rfl, ⟨⟨b5, d5, rfl, hs5⟩, ⟨b7, d7, rfl, hs7⟩⟩, hE2⟩
    refine ⟨b5, d5, b7, d7, rfl, ?_, hE2⟩
    have hp5 := sr_pre hs5 (by omega)
    have hp7 := tr_pre hs7 (by omega)
    have := qprint_calls q HOK.out (some ⟨b5, 0, none⟩) d5 (some ⟨b7, 0, none⟩) d7 w2 hp5.1 (by omega) hp7.1 (by omega) (Glob.of_below HG.out (HX.out.trans hE2))
    rw [← HS.out, ← HE.out] at this
    exact this
  have hB : (E == 0) = true ∨ ((E == 0) = false ∧ E = 320 ∧ S = ⟨#[]⟩) := by
    by_cases h0 : E = 0
    · exact .inl (by rw [h0]; rfl)
    · refine .inr ⟨by rw [beq_eq_false_iff_ne]; exact h0, ?_⟩
      have h1 := HE.out
      have h2 := HS.out
      unfold printQ at h1 h2
      cases hm : mayQ q with
      | false =>
        rw [hm, if_neg Bool.false_ne_true] at h1 h2
        exact ⟨h1, h2⟩
      | true =>
        rw [hm, if_pos rfl] at h1 h2
        by_cases hl : (textQ q).length ≤ 1024
        · rw [if_pos hl] at h1; exact absurd h1 h0
        · rw [if_neg hl] at h1 h2; exact ⟨h1, h2⟩
  have HB := Aside0.mk hB
  clear hB
  obtain ⟨b0, hb0⟩ : ∃ b, b = (E == 0) := ⟨_, rfl⟩
  have HB0 := Aside0.mk hb0
  go_upto_if 27 with (first
    | (go_at_call 12; (with_reducible refine hm.mono ?_); rintro e w2 ⟨b5, d5, b7, d7, rfl, hpr, hE2⟩; have HX := Aside0.mk (HX.out.trans hE2); have y0 := cell_ext hE2 y0; have y1 := cell_ext hE2 y1; have y2 := cell_ext hE2 y2; have y3 := cell_ext hE2 y3; have y4 := cell_ext hE2 y4; have y5 := cell_ext hE2 y5; clear hE2)
    | (go_at_call 13; (with_reducible refine hpr.mono ?_); rintro e w2 ⟨rfl, hE2⟩; have HX := Aside0.mk (HX.out.trans hE2); have y0 := cell_ext hE2 y0; have y1 := cell_ext hE2 y1; have y2 := cell_ext hE2 y2; have y3 := cell_ext hE2 y3; have y4 := cell_ext hE2 y4; have y5 := cell_ext hE2 y5; clear hE2)
    | (go_at_call 9; (with_reducible refine (num_calls E _).mono ?_); rintro e w5 ⟨rfl, hE5⟩; have HX := Aside0.mk (HX.out.trans hE5); have y0 := cell_ext hE5 y0; have y1 := cell_ext hE5 y1; have y2 := cell_ext hE5 y2; have y3 := cell_ext hE5 y3; have y4 := cell_ext hE5 y4; have y5 := cell_ext hE5 y5; clear hE5))
  go_cut [7, 8, 9] from 27 to 54 (fun (s7 s8 s9 : Value) wy => Ext w wy)
  case first =>
    rw [← hb0]
    cases b0 with
    | true =>
      have hE0 : E = 0 := by have := HB0.out; simpa using this.symm
      have hp0 : (printQ q).2 = 0 := by rw [← HE.out, hE0]
      obtain ⟨hpq, hpr2, hlen⟩ := parse_print q hp0
      have hS2 : S = strB (textQ q) := by rw [HS.out, hpr2]
      have hmp := may_of_print hp0
      have h1024 : ¬ ((1024 : Int) < (textQ q).length) := by omega
      have hsz := strB_size (textQ q)
      have hp7 : ∀ W, Ext w W → Calls Tryz.prog 7 #[.string (strB (textQ q))] W _ := fun W hW => parse_ret (textQ q) W (Glob.of_below HG.out hW) (by omega) q 0 0 hpq (by omega) (by omega)
      have HP7 := Aside0.mk hp7
      subst hE0
      subst hS2
      have HL := Aside0.mk hlen
      clear hp0 hpq hpr2 hmp hp7 hm hpr hlen HB HB0 hb0 HE HS
      go_upto_region 4 with (go_at_call 7; (with_reducible refine (HP7.out _ HX.out).mono ?_); rintro e w3 ⟨E5, d5, E7, d7, rfl, hd5, hd7, hD5, hD7, hE3⟩; have HX := Aside0.mk (HX.out.trans hE3); have y0 := cell_ext hE3 y0; have y1 := cell_ext hE3 y1; have y2 := cell_ext hE3 y2; have y3 := cell_ext hE3 y3; have y4 := cell_ext hE3 y4; have y5 := cell_ext hE3 y5; have HD := Aside0.mk (And.intro hD5 hD7); clear hE3 hD5 hD7)
      obtain ⟨w4, hw4⟩ : ∃ W, W = w3.alloc (.cells #[.slice E5 q.cols.length d5, .string (strB q.tab), .slice E7 q.wh.length d7, .string (strB q.ord), .bool q.down, .int .i64 q.lim] 25) := ⟨_, rfl⟩
      have hE4 : Ext w3 w4 := by rw [hw4]; exact (Ext.refl w3).alloc _
      have hz : w4.heap[w3.heap.size]? = some (.cells #[.slice E5 q.cols.length d5, .string (strB q.tab), .slice E7 q.wh.length d7, .string (strB q.ord), .bool q.down, .int .i64 q.lim] 25 (0, 0)) := by rw [hw4]; exact heap_alloc_new _ _
      obtain ⟨pb, hpb⟩ : ∃ n, n = w3.heap.size := ⟨_, rfl⟩
      rw [← hpb] at hz
      rw [← hw4, ← hpb]
      clear hw4 hpb
      have z0 := blk_cell hz 0
      have z1 := blk_cell hz 1
      have z2 := blk_cell hz 2
      have z3 := blk_cell hz 3
      have z4 := blk_cell hz 4
      have z5 := blk_cell hz 5
      have y0 := cell_ext hE4 y0
      have y1 := cell_ext hE4 y1
      have y2 := cell_ext hE4 y2
      have y3 := cell_ext hE4 y3
      have y4 := cell_ext hE4 y4
      have y5 := cell_ext hE4 y5
      have HX := Aside0.mk (HX.out.trans hE4)
      have HY := Aside0.mk hE4
      have HSM : Aside0 (∀ W, Ext w W → Ext w3 W → Calls Tryz.prog 10 #[.agg #[.slice E5 q.cols.length d5, .string (strB q.tab), .slice E7 q.wh.length d7, .string (strB q.ord), .bool q.down, .int .i64 q.lim], .agg #[.slice A5 q.cols.length c5, .string (strB q.tab), .slice A7 q.wh.length c7, .string (strB q.ord), .bool q.down, .int .i64 q.lim]] W (fun e w' => e = .returned (.bool true) ∧ Ext W w')) := ⟨fun W hW hW3 => same_calls q E5 d5 E7 d7 A5 c5 A7 c7 W (Kd.C_below HD.out.1 hW3) hd5 (Kd.C_below HD.out.2 hW3) hd7 (Kd.C_below H5.out hW) hc5 (Kd.C_below H7.out hW) hc7 (by omega) (by omega)⟩
      clear hE4 hz
      go_wp2_with (first
        | (go_at_call 9; (with_reducible refine (num_calls 0 _).mono ?_); rintro e w5 ⟨rfl, hE5⟩; have HX := Aside0.mk (HX.out.trans hE5); have HY := Aside0.mk (HY.out.trans hE5); have y0 := cell_ext hE5 y0; have y1 := cell_ext hE5 y1; have y2 := cell_ext hE5 y2; have y3 := cell_ext hE5 y3; have y4 := cell_ext hE5 y4; have y5 := cell_ext hE5 y5; have z0 := cell_ext hE5 z0; have z1 := cell_ext hE5 z1; have z2 := cell_ext hE5 z2; have z3 := cell_ext hE5 z3; have z4 := cell_ext hE5 z4; have z5 := cell_ext hE5 z5; clear hE5)
        | (go_at_call 10; (with_reducible refine (HSM.out _ HX.out HY.out).mono ?_); rintro e w5 ⟨rfl, hE5⟩; have HX := Aside0.mk (HX.out.trans hE5); clear hE5))
      go_meet
      case rel => exact HX.out
    | false =>
      have hB2 : E = 320 ∧ S = ⟨#[]⟩ := by
        rcases HB.out with h | h
        · rw [h] at hb0; cases hb0
        · exact h.2
      obtain ⟨h1, h2⟩ := hB2
      subst h1 h2
      clear hm hpr HB HB0 hb0
      go_wp2_with (go_at_call 9; (with_reducible refine (num_calls 320 _).mono ?_); rintro e w5 ⟨rfl, hE5⟩; have HX := Aside0.mk (HX.out.trans hE5); clear hE5)
      go_meet
      case rel => exact HX.out
  case rest =>
    obtain ⟨wr, hwr⟩ : ∃ w2, w2 = wc := ⟨_, rfl⟩
    subst hwr
    have HX := Aside0.mk hcut
    clear hcut hm hpr HB HB0 hb0 HS HE
    rcases hpq : parseQ s with ⟨p, at_, f⟩
    have hsz := strB_size s
    have hat : at_ ≤ s.length := by have := place_le s; rw [hpq] at this; exact this
    by_cases hf : f = 0
    · subst hf
      have hp0 : (printQ p).2 = 0 := by have := parse_good s (by rw [hpq]); rw [hpq] at this; exact this
      obtain ⟨hpq2, hpr2, hlen⟩ := parse_print p hp0
      have hmp := may_of_print hp0
      have hcp := hmp.cols
      have hwp := hmp.wh
      obtain ⟨T, hT⟩ : ∃ T, T = strB (textQ p) := ⟨_, rfl⟩
      have HP1 : Aside0 (∀ W, Ext w W → Calls Tryz.prog 7 #[.string (strB s)] W _) := ⟨fun W hW => parse_ret s W (Glob.of_below HG.out hW) (by omega) p at_ 0 hpq (by omega) (by omega)⟩
      have HP2 : Aside0 (∀ W, Ext w W → Calls Tryz.prog 7 #[.string T] W _) := ⟨fun W hW => by rw [hT]; exact parse_ret (textQ p) W (Glob.of_below HG.out hW) (by omega) p 0 0 hpq2 (by omega) (by omega)⟩
      have HPR : Aside0 (∀ W, Ext w W → ∀ E5 d5 E7 d7, p.cols.length ≤ d5 → p.wh.length ≤ d7 → Kd.C Kd.string W E5 p.cols.length (p.cols.map strB) → Kd.C k37 W E7 p.wh.length (p.wh.map t37) → Calls Tryz.prog 13 #[.agg #[.slice E5 p.cols.length d5, .string (strB p.tab), .slice E7 p.wh.length d7, .string (strB p.ord), .bool p.down, .int .i64 p.lim]] W (fun e w' => e = .returned (.tuple #[.string T, .int .i64 0]) ∧ Ext W w')) := ⟨fun W hW E5 d5 E7 d7 hd5 hd7 hD5 hD7 => by
        have := qprint_calls p hmp.okQ E5 d5 E7 d7 W hD5 hd5 hD7 hd7 (Glob.of_below HG.out hW)
        rw [hpr2, ← hT] at this
        exact this⟩
      clear hp0 hpq2 hpr2 hmp hpq hlen hT hcp hwp hat
      go_upto_region 9 with (go_at_call 7; (with_reducible refine (HP1.out _ HX.out).mono ?_); rintro e w3 ⟨E5, d5, E7, d7, rfl, hd5, hd7, hD5, hD7, hE3⟩; have HX := Aside0.mk (HX.out.trans hE3); have HD := Aside0.mk (And.intro hd5 (And.intro hd7 (And.intro hD5 hD7))); clear hE3 hD5 hD7 hd5 hd7)
      obtain ⟨w4, hw4⟩ : ∃ W, W = w3.alloc (.cells #[.slice E5 p.cols.length d5, .string (strB p.tab), .slice E7 p.wh.length d7, .string (strB p.ord), .bool p.down, .int .i64 p.lim] 25) := ⟨_, rfl⟩
      have hE4 : Ext w3 w4 := by rw [hw4]; exact (Ext.refl w3).alloc _
      have hz : w4.heap[w3.heap.size]? = some (.cells #[.slice E5 p.cols.length d5, .string (strB p.tab), .slice E7 p.wh.length d7, .string (strB p.ord), .bool p.down, .int .i64 p.lim] 25 (0, 0)) := by rw [hw4]; exact heap_alloc_new _ _
      obtain ⟨pb, hpb⟩ : ∃ n, n = w3.heap.size := ⟨_, rfl⟩
      rw [← hpb] at hz
      rw [← hw4, ← hpb]
      clear hw4 hpb
      have z0 := blk_cell hz 0
      have z1 := blk_cell hz 1
      have z2 := blk_cell hz 2
      have z3 := blk_cell hz 3
      have z4 := blk_cell hz 4
      have z5 := blk_cell hz 5
      have HX := Aside0.mk (HX.out.trans hE4)
      have HY := Aside0.mk hE4
      clear hE4 hz
      go_upto_region 14 with (first
        | (go_at_call 9; (with_reducible refine (num_calls 0 _).mono ?_); rintro e w5 ⟨rfl, hE5⟩; have HX := Aside0.mk (HX.out.trans hE5); have HY := Aside0.mk (HY.out.trans hE5); have z0 := cell_ext hE5 z0; have z1 := cell_ext hE5 z1; have z2 := cell_ext hE5 z2; have z3 := cell_ext hE5 z3; have z4 := cell_ext hE5 z4; have z5 := cell_ext hE5 z5; clear hE5)
        | (go_at_call 13; (with_reducible refine (HPR.out _ HX.out E5 d5 E7 d7 HD.out.1 HD.out.2.1 ?hA ?hB).mono ?_); (case hA => exact Kd.C_below HD.out.2.2.1 HY.out); (case hB => exact Kd.C_below HD.out.2.2.2 HY.out); rintro e w5 ⟨rfl, hE5⟩; have HX := Aside0.mk (HX.out.trans hE5); have HY := Aside0.mk (HY.out.trans hE5); have z0 := cell_ext hE5 z0; have z1 := cell_ext hE5 z1; have z2 := cell_ext hE5 z2; have z3 := cell_ext hE5 z3; have z4 := cell_ext hE5 z4; have z5 := cell_ext hE5 z5; clear hE5))
      go_upto_region 15 with (go_at_call 7; (with_reducible refine (HP2.out _ HX.out).mono ?_); rintro e w6 ⟨F5, e5, F7, e7, rfl, hd5, hd7, hD5, hD7, hE3⟩; have HX := Aside0.mk (HX.out.trans hE3); have HF := Aside0.mk (And.intro hd5 (And.intro hd7 (And.intro hD5 hD7))); clear hE3 hD5 hD7 hd5 hd7)
      obtain ⟨w7, hw7⟩ : ∃ W, W = w6.alloc (.cells #[.slice F5 p.cols.length e5, .string (strB p.tab), .slice F7 p.wh.length e7, .string (strB p.ord), .bool p.down, .int .i64 p.lim] 25) := ⟨_, rfl⟩
      have hE7 : Ext w6 w7 := by rw [hw7]; exact (Ext.refl w6).alloc _
      have hz : w7.heap[w6.heap.size]? = some (.cells #[.slice F5 p.cols.length e5, .string (strB p.tab), .slice F7 p.wh.length e7, .string (strB p.ord), .bool p.down, .int .i64 p.lim] 25 (0, 0)) := by rw [hw7]; exact heap_alloc_new _ _
      obtain ⟨pc, hpc⟩ : ∃ n, n = w6.heap.size := ⟨_, rfl⟩
      rw [← hpc] at hz
      rw [← hw7, ← hpc]
      clear hw7 hpc
      have x0 := blk_cell hz 0
      have x1 := blk_cell hz 1
      have x2 := blk_cell hz 2
      have x3 := blk_cell hz 3
      have x4 := blk_cell hz 4
      have x5 := blk_cell hz 5
      have HX := Aside0.mk (HX.out.trans hE7)
      have HY := Aside0.mk hE7
      clear hE7 hz
      go_wp2_with (first
        | (go_at_call 13; (with_reducible refine (HPR.out _ HX.out F5 e5 F7 e7 HF.out.1 HF.out.2.1 ?hA2 ?hB2).mono ?_); (case hA2 => exact Kd.C_below HF.out.2.2.1 HY.out); (case hB2 => exact Kd.C_below HF.out.2.2.2 HY.out); rintro e w5 ⟨rfl, hE5⟩; have HX := Aside0.mk (HX.out.trans hE5); clear hE5)
        | (go_at_call 9; (with_reducible refine (num_calls 0 _).mono ?_); rintro e w5 ⟨rfl, hE5⟩; have HX := Aside0.mk (HX.out.trans hE5); clear hE5)
        | (go_at_call 11; (with_reducible refine (HKN.out _ HX.out).mono ?_); rintro e w5 ⟨rfl, hE5⟩; have HX := Aside0.mk (HX.out.trans hE5); clear hE5))
      go_ret
      exact ⟨rfl, HX.out⟩
    · have hp0 : p = ⟨[], [], [], [], false, 0⟩ := by have := parse_place s (by rw [hpq]; exact hf); rw [hpq] at this; exact this
      have hfb : (f == 0) = false := by rw [beq_eq_false_iff_ne]; exact hf
      have hfn : (f != 0) = true := by rw [bne_iff_ne]; exact hf
      have ha1 : (at_ : Int) ≤ s.length := by omega
      have HP1 : Aside0 (∀ W, Ext w W → Calls Tryz.prog 7 #[.string (strB s)] W fun e w' => ∃ A c A2 c2, e = .returned (.tuple #[.agg #[.slice A 0 c, .string ⟨#[]⟩, .slice A2 0 c2, .string ⟨#[]⟩, .bool false, .int .i64 0], .int .i64 (at_ : Int), .int .i64 f]) ∧ Ext W w') := ⟨fun W hW => by
        refine Calls.mono (parse_ret s W (Glob.of_below HG.out hW) (by omega) p at_ f hpq (by rw [hp0]; simp) (by rw [hp0]; simp)) ?_
        rintro e w' ⟨E5, d5, E7, d7, rfl, _, _, _, _, hE3⟩
        exact ⟨E5, d5, E7, d7, by rw [hp0]; rfl, hE3⟩⟩
      clear hp0 hpq hat
      go_upto_region 9 with (go_at_call 7; (with_reducible refine (HP1.out _ HX.out).mono ?_); rintro e w3 ⟨A, c, A2, c2, rfl, hE3⟩; have HX := Aside0.mk (HX.out.trans hE3); clear hE3)
      obtain ⟨w4, hw4⟩ : ∃ W, W = w3.alloc (.cells #[.slice A 0 c, .string ⟨#[]⟩, .slice A2 0 c2, .string ⟨#[]⟩, .bool false, .int .i64 0] 25) := ⟨_, rfl⟩
      have hE4 : Ext w3 w4 := by rw [hw4]; exact (Ext.refl w3).alloc _
      have hz : w4.heap[w3.heap.size]? = some (.cells #[.slice A 0 c, .string ⟨#[]⟩, .slice A2 0 c2, .string ⟨#[]⟩, .bool false, .int .i64 0] 25 (0, 0)) := by rw [hw4]; exact heap_alloc_new _ _
      obtain ⟨pb, hpb⟩ : ∃ n, n = w3.heap.size := ⟨_, rfl⟩
      rw [← hpb] at hz
      rw [← hw4, ← hpb]
      clear hw4 hpb
      have z1 := blk_cell hz 1
      have HX := Aside0.mk (HX.out.trans hE4)
      clear hE4 hz
      go_wp2_with (first
        | (go_at_call 9; (with_reducible refine (num_calls f _).mono ?_); rintro e w5 ⟨rfl, hE5⟩; have HX := Aside0.mk (HX.out.trans hE5); have z1 := cell_ext hE5 z1; clear hE5)
        | (go_at_call 11; (with_reducible refine (HKN.out _ HX.out).mono ?_); rintro e w5 ⟨rfl, hE5⟩; have HX := Aside0.mk (HX.out.trans hE5); clear hE5))
      go_ret
      exact ⟨rfl, HX.out⟩
end Go.Proofs.YthhemephaabblaaGreatDoor.Hq
set_option linter.unusedVariables false
set_option linter.unusedSimpArgs false
namespace Go.Proofs.YthhemephaabblaaGreatDoor.lawQueryRound
open Go.ChangeShapes Go.WideShapes Go.ChangeAt Go.RowKit
open Go.Proofs.YthhemephaabblaaGreatDoor Go.Proofs.YthhemephaabblaaGreatDoor.Hq Go.Proofs.YthhemephaabblaaGreatDoorW.PrintWords

theorem own : ownKnob Tryz.prog.godebug = none := by kernel_rfl
theorem laidOut : laidOutB Tryz.prog = true := by kernel_rfl
theorem tables {W : World} (h : laidMetH Tryz.prog Rows.queryRoundUptoRow.laid W) : Glob2 W := glob_of_laid h

set_option maxRecDepth 100000 in
theorem contract (H : Type) (enc : TypeId × Value → H) (W : World) (base : Nat) (args : Array Value) (ds gs : List (DataW H)) (before : List MemPlace)
    (hval : ∀ (j : Nat) t v, Tryz.f5.params[j]? = some t → args[j]? = some v → Value.okWide Tryz.prog W .any base t v)
    (hW : DataW.Whole enc Tryz.prog Tryz.f5.params.toList Rows.queryRoundSpec.vars false W args.toList ds gs before) (hk : Rows.uptoSmall H (ds ++ gs) = true) (hL : laidMetH Tryz.prog Rows.queryRoundUptoRow.laid W) :
    Calls Tryz.prog 5 args W fun e W' => ∃ v, e = .returned v ∧ Rows.queryRoundSpec.post enc Tryz.prog Tryz.f5 false true false false W args v W' := by
  have hW' := hW
  obtain ⟨p, q, hA0, hV, rfl, hfz, hnd⟩ := hW
  have hA : DataW.TrodAll enc Tryz.prog W 0 (fun _ => true) true Tryz.f5.params.toList args.toList ds p := hA0
  rw [Tryz.params5] at hA hval
  obtain ⟨v0, vs0, d0, ds0, p0, q0, hargs, rfl, rfl, h0, r0⟩ := trodAll_cons hA
  obtain ⟨v1, vs1, d1, ds1, p1, q1, rfl, rfl, rfl, h1, r1⟩ := trodAll_cons r0
  obtain ⟨rfl, rfl, rfl⟩ := trodAll_nil r1
  obtain rfl : args = #[v0, v1] := by cases args; simp_all
  obtain ⟨rfl, rfl⟩ := trodVars_none hV
  have k0 := h0
  have lt0 : ∀ x ∈ p0, x.block < W.heap.size := by obtain ⟨m, hm⟩ := k0; exact DataW.trod_lt m _ _ _ hm
  have k1 := h1
  have lt1 : ∀ x ∈ p1, x.block < W.heap.size := by obtain ⟨m, hm⟩ := k1; exact DataW.trod_lt m _ _ _ hm
  have hbulk := of_decide_eq_true hk
  simp only [List.append_nil, List.cons_append, List.nil_append, Rows.uptoBulkAll] at hbulk
  clear hk
  obtain ⟨q0, A5_0, c5_0, A7_0, c7_0, rfl, hc5_0, hc7_0, hC5_0, hC7_0, hb5_0, hb7_0, hok_0⟩ := open_arg_q (hval 0 31 v0 rfl rfl) h0
  obtain ⟨s1, rfl, hd1, _, _⟩ := Go.ChangeMaps.open_string Tryz.underlying9 (hval 1 9 v1 rfl rfl) h1
  have hs1 : s1.data.toList.length ≤ 1048576 := by rw [hd1] at hbulk; simp only [Rows.uptoBulk] at hbulk; omega
  clear hA0 hnd hfz
  have ht := tables hL
  have e1 : s1 = strB s1.data.toList := (strB_data s1).symm
  rw [e1]
  refine Calls.mono (queryRound_calls q0 (hok_0 (by omega)) A5_0 c5_0 A7_0 c7_0 s1.data.toList W ht.tab hC5_0 hc5_0 hC7_0 hc7_0 (by omega) (by omega) (by omega)) fun e W' ⟨he, bel⟩ => ?_
  subst he
  exact ⟨_, rfl, _, _, _, [], _, [], hW', trodAll_mk1 (shut_bool Tryz.underlying4 _), (trodAll_cons_mk (Below.trod laidOut (by kernel_rfl) (of_decide_eq_true (by kernel_rfl)) k0 bel lt0) (trodAll_cons_mk (Below.trod laidOut (by kernel_rfl) (of_decide_eq_true (by kernel_rfl)) k1 bel lt1) trodAll_mk0)), rfl, bel.frame _, fun h => by cases h⟩

theorem reads (os : Os) {H : Type} (enc : TypeId × Value → H) : ∃ places, DataW.whole enc Tryz.prog ((laidWorld os).forCall (fun _ _ => 0) ⟨#[], #[.agg #[.slice none 0 0, .string ⟨#[]⟩, .slice none 0 0, .string ⟨#[]⟩, .bool false, .int .i64 0], .string ⟨#[]⟩], []⟩).memory Tryz.f5.params.toList Rows.queryRoundSpec.vars false (#[.agg #[.slice none 0 0, .string ⟨#[]⟩, .slice none 0 0, .string ⟨#[]⟩, .bool false, .int .i64 0], .string ⟨#[]⟩] : Array Value).toList 8 = some ([.agg [.nil, .lit (.string []), .nil, .lit (.string []), .lit (.bool false), .lit (.int .i64 0)], .lit (.string [])], [], places) :=
  ⟨[], by kernel_rfl⟩

set_option maxRecDepth 100000 in
theorem lifted (os : Os) (started : os.Started) (H : Type) (enc : TypeId × Value → H) (F : Stop.Interp) :
    ReturnsInHanded {} Tryz.checked os 5 .any ((Rows.OpenSpec.upto Rows.queryRoundSpec).preRow enc Tryz.prog Tryz.f5 Rows.queryRoundUptoRow.domain false Rows.queryRoundUptoRow.laid) (((Rows.OpenSpec.upto Rows.queryRoundSpec).at F).post enc Tryz.prog Tryz.f5 false true false false) := by
  obtain ⟨places, hx⟩ := reads os enc
  refine returnsInHanded_of_row (C := Tryz.checked) (s := (Rows.OpenSpec.upto Rows.queryRoundSpec)) own started (by kernel_rfl) Tryz.func5
    (witness_row_at (enc := enc) (C := Tryz.checked) false (laidWorld os) #[.agg #[.slice none 0 0, .string ⟨#[]⟩, .slice none 0 0, .string ⟨#[]⟩, .bool false, .int .i64 0], .string ⟨#[]⟩] rfl (by kernel_rfl) (by kernel_rfl) (by kernel_rfl)
      (OpenSpec.preRow_of_cond 8 hx (by kernel_rfl) (fun k hk => by cases hk; kernel_rfl) (by kernel_rfl) (laid_met os _))) ?_
  intro W base args ds gs before hval hW _ hcond _ hL _ _
  exact contract H enc W base args ds gs before hval hW (hcond _ rfl) hL

theorem said : Rows.QueryRoundUptoSaid :=
  OpenClaim.holds_of_cond 5 Tryz.f5 rfl rfl rfl rfl rfl rfl rfl ⟨rfl, rfl, rfl, rfl, rfl⟩ rfl rfl rfl rfl rfl (by kernel_rfl) Tryz.func5 (by kernel_rfl)
    (of_decide_eq_true (by kernel_rfl)) (by unfold Func.isWrapper; first | (rw [if_pos (by decide +kernel)]; kernel_rfl) | (rw [if_neg (by decide +kernel)]; exact ⟨rfl, rfl⟩))
    (fun os started H enc _ F => by rw [OpenClaim.pre_eq_preRow]; exact lifted os started H enc F)

theorem plain (f : FuncId) (fn : Func) (hf : Tryz.pinned.checked.prog.funcNamed "cairn/cairnlaw32.QueryRound" = some f) (hfn : Tryz.pinned.checked.prog.funcs[f]? = some fn) :
    true = Tryz.pinned.checked.prog.looks [] ∧ ∀ (j : Nat) t, fn.params[j]? = some t → Tryz.pinned.checked.prog.wantsStandIn t = false := by
  obtain rfl : f = 5 := Option.some.inj ((show Tryz.prog.funcNamed "cairn/cairnlaw32.QueryRound" = some 5 by kernel_rfl).symm.trans hf) |>.symm
  obtain rfl : fn = Tryz.f5 := (Option.some.inj (Tryz.func5.symm.trans hfn)).symm
  refine ⟨by kernel_rfl, fun j t ht => ?_⟩
  rw [Tryz.params5] at ht
  match j, ht with
  | 0, ht =>
    obtain rfl : 31 = t := by simpa using ht
    exact (show Tryz.prog.wantsStandIn 31 = false by kernel_rfl)
  | 1, ht =>
    obtain rfl : 9 = t := by simpa using ht
    exact (show Tryz.prog.wantsStandIn 9 = false by kernel_rfl)
  | j + 2, ht => simp at ht

/-- the card -/
theorem card : Rows.QueryRoundUptoCardSaid :=
  Claim7.holds_tied_plain_at .later [] _ _ _ _ said (fun _ h => by cases h) (by kernel_rfl) (fun _ h => by cases h) queryRoundUpto_row_tie rfl ⟨rfl, rfl⟩ (by kernel_rfl) rfl plain (by kernel_rfl)
#print axioms card
end Go.Proofs.YthhemephaabblaaGreatDoor.lawQueryRound
