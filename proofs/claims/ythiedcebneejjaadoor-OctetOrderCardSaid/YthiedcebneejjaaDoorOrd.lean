/- cairnlaw01.OctetOrder: true of any three strings of bytes. -/
import Derived.Test.YthiedcebneejjaaDoorCmp
import Derived.Deep.CutBlock
import Derived.Deep.CutRange
set_option linter.unusedVariables false
set_option linter.unusedSimpArgs false
namespace Go.Proofs.YthiedcebneejjaaDoor.Ord
open Go.RowKit Go.Proofs.YthiedcebneejjaaDoorW.PrintWords Go.Proofs.YthiedcebneejjaaDoorW.PrintLast Go.Proofs.YthiedcebneejjaaDoorW.PrintMore
open Go.Proofs.YthiedcebneejjaaDoor.A Go.Proofs.YthiedcebneejjaaDoor.Hand Go.Proofs.YthiedcebneejjaaDoor.B

theorem i5 : ∃ i : TypeInfo, Tryd.prog.info? 5 = some i := by
  have h : (Tryd.prog.info? 5).map (·.size) = some 1 := by kernel_rfl
  cases hi : Tryd.prog.info? 5 with
  | none => rw [hi] at h; cases h
  | some i => exact ⟨i, rfl⟩
theorem Rs.cell {w : World} {A : Option Addr} {c : Nat} {l : List Int} (h : Rs w A c l) (i : Nat) (hi : i < l.length) : ∃ ad, A = some ad ∧ w.cell? (ad.add i) = some (.int .u8 (l.getD i 0)) := by
  have hR : ReadsOf (Value.int .u8) (0 : Int) w A l.length l := Kd.reads_of_C (h1 := fun _ => rfl) h.rd
  obtain ⟨ad, e, hc⟩ := hR.2.2 (by omega)
  exact ⟨ad, e, hc i hi⟩
theorem Rs.str {w : World} {A : Option Addr} {c : Nat} {l : List Int} (h : Rs w A c l) (k : Nat) (hk : k ≤ l.length) : (convert 22 9 (.slice A k c)).run Tryd.prog w = .ok (.string (strOfNums (l.take k))) w := by
  have h1 := Kd.C_take (m := k) h.rd hk
  rw [show (l.take k).length = k by simp; omega] at h1
  exact Kd.C_string Tryd.underlying22 Tryd.underlying5 Tryd.underlying9 h1
theorem exec_conv {w : World} {ρ : Operand → Value} {o : Oper} {x : Operand} {t u : TypeId} (ho : o.op = .convert t u x) {v : Value} {w1 : World} (h : (convert t u (ρ x)).run Tryd.prog w = .ok v w1) : (execOp ρ o).run Tryd.prog w = .ok (.value v) w1 := by
  unfold execOp; rw [ho]; simp [h]
theorem elem22 : Tryd.prog.underlying 22 = some (.slice (Tryd.prog.elem 22)) := by kernel_rfl
theorem exec_slice {w : World} {ρ : Operand → Value} {o : Oper} {x : Operand} {lo hi mx : Option Operand} (ho : o.op = .slice 22 x lo hi mx) {v : Value} {w1 : World}
    (h : (Instr.slice 22 (ρ x) (lo.map ρ) (hi.map ρ) (mx.map ρ)).run Tryd.prog w = .ok v w1) : (execOp ρ o).run Tryd.prog w = .ok (.value v) w1 := by
  unfold execOp
  rw [ho]
  simp only [Sem.run_bind, Sem.run_pure, Result.andThen_ok, run_sliceAt_slice _ _ _ _ _ _ elem22, h]
theorem cell_ext {w w' : World} (hE : Ext w w') {p : Addr} {v : Value} (h : w.cell? p = some v) : w'.cell? p = some v := (hE.cell (p := p) (Go.World.block_lt_of_cell? _ _ h)).trans h
set_option maxHeartbeats 20000000 in
set_option maxRecDepth 100000 in
theorem order_calls (w : World) (A0 A1 A2 : Option Addr) (c0 c1 c2 : Nat) (la lb lc : List Int) (hG : Glob w) (ha : Rs w A0 c0 la) (hb : Rs w A1 c1 lb) (hc : Rs w A2 c2 lc) (ba : BL la) (bb : BL lb) :
    Calls Tryd.prog 6 #[.slice A0 la.length c0, .slice A1 lb.length c1, .slice A2 lc.length c2] w (fun e w' => e = .returned (.bool true) ∧ Ext w w') := by
  have hma := ha.max
  have hmb := hb.max
  have HG := Aside0.mk hG
  have HA := Aside0.mk ha
  have HB := Aside0.mk hb
  have HC := Aside0.mk hc
  have HSB := Aside0.mk (str_inj la lb ba bb)
  have HBA := Aside0.mk (And.intro ba bb)
  clear hG ha hb hc ba bb
  obtain ⟨X, hX⟩ : ∃ X, X = cmp la lb := ⟨_, rfl⟩
  obtain ⟨Y, hY⟩ : ∃ Y, Y = cmp lb lc := ⟨_, rfl⟩
  obtain ⟨Z, hZ⟩ : ∃ Z, Z = cmp la lc := ⟨_, rfl⟩
  have HX := Aside0.mk hX
  have HY := Aside0.mk hY
  have HZ := Aside0.mk hZ
  have HN := Aside0.mk (show cmp lb la = -X by rw [hX]; exact cmp_neg la lb)
  have HT := Aside0.mk (show X ≤ 0 → Y ≤ 0 → Z ≤ 0 by rw [hX, hY, hZ]; exact cmp_trans la lb lc)
  have hXr : -1 ≤ X ∧ X ≤ 1 := by rw [hX, cmp_com]; repeat' split; all_goals omega
  clear hX hY hZ
  go_enter Tryd.func6, Tryd.ntmps6
  go_upto_region 1 with fail
  go_cut [7, 8, 9] from 14 to 22 (fun (s7 s8 s9 : Value) wx => Ext w wx ∧ s7 = .int .i64 X ∧ s8 = .int .i64 Y ∧ s9 = .int .i64 Z)
  case first =>
    go_wp2_with fail
    refine (compare_calls w A0 A1 c0 c1 la lb HA.out HB.out).mono ?_
    rintro e w1 ⟨rfl, hE1⟩
    rw [← HX.out]
    have HE1 := Aside0.mk hE1
    clear hE1
    go_wp2_with fail
    refine (compare_calls w1 A1 A2 c1 c2 lb lc (HB.out.ext HE1.out) (HC.out.ext HE1.out)).mono ?_
    rintro e w2 ⟨rfl, hE2⟩
    rw [← HY.out]
    have HE2 := Aside0.mk (HE1.out.trans hE2)
    clear hE2
    go_wp2_with fail
    refine (compare_calls w2 A0 A2 c0 c2 la lc (HA.out.ext HE2.out) (HC.out.ext HE2.out)).mono ?_
    rintro e w3 ⟨rfl, hE3⟩
    rw [← HZ.out]
    have HE3 := Aside0.mk (HE2.out.trans hE3)
    clear hE3
    go_wp2_with fail
    go_meet
    case rel => exact ⟨HE3.out, rfl, rfl, rfl⟩
  case rest =>
  obtain ⟨hE, rfl, rfl, rfl⟩ := hcut
  have HE1 := Aside0.mk hE
  clear hE
  obtain ⟨w1, hw1⟩ : ∃ w1, w1 = wc := ⟨_, rfl⟩
  subst hw1
  go_upto_region 2 with fail
  go_cut [60] from 23 to 60 (fun (s60 : Value) wx => Ext w wx ∧ s60 = .bool false)
  case first =>
    go_wp2_with fail
    refine (compare_calls w1 A1 A0 c1 c0 lb la (HB.out.ext HE1.out) (HA.out.ext HE1.out)).mono ?_
    rintro e w2 ⟨rfl, hE2⟩
    rw [HN.out]
    have HE2 := Aside0.mk (HE1.out.trans hE2)
    clear hE2
    go_wp2_with fail
    refine (compare_calls w2 A0 A0 c0 c0 la la (HA.out.ext HE2.out) (HA.out.ext HE2.out)).mono ?_
    rintro e w3 ⟨rfl, hE3⟩
    rw [cmp_self]
    have HE3 := Aside0.mk (HE2.out.trans hE3)
    clear hE3
    have hca := Kd.C_string (P := Tryd.prog) (A := A0) (c := c0) Tryd.underlying22 Tryd.underlying5 Tryd.underlying9 (HA.out.ext HE3.out).rd
    have hcb := Kd.C_string (P := Tryd.prog) (A := A1) (c := c1) Tryd.underlying22 Tryd.underlying5 Tryd.underlying9 (HB.out.ext HE3.out).rd
    have hst : ((strOfNums la).toList == (strOfNums lb).toList) = (X == 0) := by
      rw [Bool.eq_iff_iff, beq_iff_eq, beq_iff_eq, toList_data, toList_data, HX.out, cmp_eq]
      refine Iff.trans ⟨fun h => ?_, fun h => by rw [h]⟩ HSB.out
      cases hsa : strOfNums la; cases hsb : strOfNums lb
      rw [hsa, hsb] at h
      simpa using h
    have hways : (X ≤ 0 ∧ Y ≤ 0 ∧ Z ≤ 0) ∨ (X ≤ 0 ∧ ¬ Y ≤ 0) ∨ ¬ X ≤ 0 := by
      have := HT.out
      omega
    rcases hways with ⟨hx, hy, hz⟩ | ⟨hx, hy⟩ | hx
    · have hz' : ¬ (0 < Z) := by omega
      go_wp2_with fail
      refine (fixed_calls w3 (Glob.ext HG.out HE3.out)).mono ?_
      rintro e w4 ⟨rfl, hE4⟩
      have HE4 := Aside0.mk (HE3.out.trans hE4)
      clear hE4
      go_wp2_with fail
      go_meet
      case rel => exact ⟨HE4.out, by simp [hz']⟩
    · go_wp2_with fail
      refine (fixed_calls w3 (Glob.ext HG.out HE3.out)).mono ?_
      rintro e w4 ⟨rfl, hE4⟩
      have HE4 := Aside0.mk (HE3.out.trans hE4)
      clear hE4
      go_wp2_with fail
      go_meet
      case rel => exact ⟨HE4.out, rfl⟩
    · go_wp2_with fail
      refine (fixed_calls w3 (Glob.ext HG.out HE3.out)).mono ?_
      rintro e w4 ⟨rfl, hE4⟩
      have HE4 := Aside0.mk (HE3.out.trans hE4)
      clear hE4
      go_wp2_with fail
      go_meet
      case rel => exact ⟨HE4.out, rfl⟩
  case rest =>
  obtain ⟨hE, rfl⟩ := hcut
  have HE2 := Aside0.mk hE
  clear hE HE1
  obtain ⟨w2, hw2⟩ : ∃ w2, w2 = wc := ⟨_, rfl⟩
  subst hw2
  go_wp2_with fail
  refine (common_calls w2 A0 A1 c0 c1 la lb (HA.out.ext HE2.out) (HB.out.ext HE2.out)).mono ?_
  rintro e w3 ⟨rfl, hE3⟩
  obtain ⟨k, hk⟩ : ∃ k, k = com la lb := ⟨_, rfl⟩
  rw [← hk]
  have hkl := com_le la lb
  rw [← hk] at hkl
  have HK := Aside0.mk hk
  have HE3 := Aside0.mk (HE2.out.trans hE3)
  have HT := Aside0.mk (show la.take k = lb.take k by rw [hk]; exact com_take la lb)
  have HD := Aside0.mk (show k < la.length → k < lb.length → la.getD k 0 ≠ lb.getD k 0 by rw [hk]; exact com_eq la lb)
  have HCC := Aside0.mk (show X = if k = la.length then (if k = lb.length then 0 else -1) else if k = lb.length then 1 else if la.getD k 0 < lb.getD k 0 then -1 else 1 by rw [HX.out, hk]; exact cmp_com la lb)
  clear hE3 hk HE2
  have HCA := Aside0.mk (cut_to (P := Tryd.prog) 22 5 .i64 Tryd.underlying22 i5.choose_spec A0 la.length c0 (k : Int) (by omega) (by omega) HA.out.cap)
  have HCB := Aside0.mk (cut_to (P := Tryd.prog) 22 5 .i64 Tryd.underlying22 i5.choose_spec A1 lb.length c1 (k : Int) (by omega) (by omega) HB.out.cap)
  rw [Int.toNat_natCast] at HCA HCB
  have HSA := Aside0.mk (show ∀ w', Ext w3 w' → (convert 22 9 (.slice A0 k c0)).run Tryd.prog w' = .ok (.string (strOfNums (la.take k))) w' from fun w' hE' => (HA.out.ext (HE3.out.trans hE')).str k hkl.1)
  have HSBB := Aside0.mk (show ∀ w', Ext w3 w' → (convert 22 9 (.slice A1 k c1)).run Tryd.prog w' = .ok (.string (strOfNums (la.take k))) w' from fun w' hE' => by rw [HT.out]; exact (HB.out.ext (HE3.out.trans hE')).str k hkl.2)
  go_upto_region 5 with fail
  go_cut [111] from 64 to 111 (fun (s111 : Value) wx => Ext w wx ∧ s111 = .bool false)
  case first =>
    have hcase : (k < la.length ∧ k < lb.length) ∨ (k < la.length ∧ k = lb.length) ∨ k = la.length := by omega
    rcases hcase with ⟨h1, h2⟩ | ⟨h1, h2⟩ | h1
    · obtain ⟨ad, rfl, hca⟩ := (HA.out.ext HE3.out).cell k h1
      obtain ⟨bd, rfl, hcb⟩ := (HB.out.ext HE3.out).cell k h2
      obtain ⟨u, hu⟩ : ∃ u, u = la.getD k 0 := ⟨_, rfl⟩
      obtain ⟨vq, hvq⟩ : ∃ vq, vq = lb.getD k 0 := ⟨_, rfl⟩
      rw [← hu] at hca
      rw [← hvq] at hcb
      have HCA0 := Aside0.mk hca
      have HCB0 := Aside0.mk hcb
      have b7 : (0 : Int) ≤ k ∧ (k : Int) < la.length ∧ (k : Int) < lb.length := by omega
      have HNE := Aside0.mk (show u ≠ vq by rw [hu, hvq]; exact HD.out h1 h2)
      clear hca hcb hu hvq
      go_wp2_with fail
      refine ext_region 48 [(0, 64), (1, 65), (2, 66), (3, 67), (4, 68), (5, 69), (6, 70), (7, 71), (8, 72), (9, 73), (10, 74), (11, 75), (12, 76), (13, 77), (14, 78), (15, 79), (16, 80), (17, 81), (18, 82), (19, 83), (20, 84), (21, 85), (22, 86), (23, 87), (24, 88), (25, 89), (26, 90), (27, 91), (28, 92), (29, 93), (30, 94), (31, 95), (32, 96), (33, 97), (34, 98), (35, 99), (36, 100), (37, 101), (38, 102), (39, 103), (40, 104), (41, 105), (42, 106), (43, 107), (44, 108), (45, 109), (46, 110), (47, 111)] [0, 1, 2, 3, 4, 5, 6, 7, 8, 9, 10, 11, 12, 13, 14, 15, 16, 17, 18, 19, 20, 21, 22, 23, 24, 25, 26, 27, 28, 29, 30, 31, 32, 33, 34, 35, 36, 37, 38, 39, 40, 41, 42, 43, 44, 45, 46, 47] (fun i w v => match i with | 0 => v = .int .i64 k | 1 => v = .bool false | 2 => v = .bool false | 3 => v = .int .i64 k | 4 => v = .slice (some ad) la.length c0 | 5 => v = .int .i64 la.length | 6 => v = .bool false | 7 => v = .bool false | 8 => v = .bool false | 9 => v = .int .i64 k | 10 => v = .slice (some bd) lb.length c1 | 11 => v = .int .i64 lb.length | 12 => v = .bool false | 13 => v = .bool false | 14 => v = .bool false | 15 => v = .slice (some ad) la.length c0 | 16 => v = .int .i64 k | 17 => v = .slice (some ad) k c0 | 18 => v = .string (strOfNums (la.take k)) | 19 => v = .slice (some bd) lb.length c1 | 20 => v = .int .i64 k | 21 => v = .slice (some bd) k c1 | 22 => v = .string (strOfNums (la.take k)) | 23 => v = .bool false | 24 => v = .bool false | 25 => v = .bool false | 26 => v = .int .i64 k | 27 => v = .slice (some ad) la.length c0 | 28 => v = .int .i64 la.length | 29 => v = .bool true | 30 => v = .bool true | 31 => v = .int .i64 k | 32 => v = .slice (some bd) lb.length c1 | 33 => v = .int .i64 lb.length | 34 => v = .bool true | 35 => v = .bool true | 36 => v = .bool true | 37 => v = .slice (some ad) la.length c0 | 38 => v = .int .i64 k | 39 => v = .pointer (some (ad.add k)) | 40 => v = .int .u8 u | 41 => v = .slice (some bd) lb.length c1 | 42 => v = .int .i64 k | 43 => v = .pointer (some (bd.add k)) | 44 => v = .int .u8 vq | 45 => v = .bool false | 46 => v = .bool false | 47 => v = .bool false | _ => True) (by kernel_rfl) (by kernel_rfl) (by rfl) rfl ?mono5a ?steps5a ?fin5a
      case mono5a =>
        intro i w w' v h hE
        match i with
        | 0 => exact h
        | 1 => exact h
        | 2 => exact h
        | 3 => exact h
        | 4 => exact h
        | 5 => exact h
        | 6 => exact h
        | 7 => exact h
        | 8 => exact h
        | 9 => exact h
        | 10 => exact h
        | 11 => exact h
        | 12 => exact h
        | 13 => exact h
        | 14 => exact h
        | 15 => exact h
        | 16 => exact h
        | 17 => exact h
        | 18 => exact h
        | 19 => exact h
        | 20 => exact h
        | 21 => exact h
        | 22 => exact h
        | 23 => exact h
        | 24 => exact h
        | 25 => exact h
        | 26 => exact h
        | 27 => exact h
        | 28 => exact h
        | 29 => exact h
        | 30 => exact h
        | 31 => exact h
        | 32 => exact h
        | 33 => exact h
        | 34 => exact h
        | 35 => exact h
        | 36 => exact h
        | 37 => exact h
        | 38 => exact h
        | 39 => exact h
        | 40 => exact h
        | 41 => exact h
        | 42 => exact h
        | 43 => exact h
        | 44 => exact h
        | 45 => exact h
        | 46 => exact h
        | 47 => exact h
        | _ + 48 => trivial
      case steps5a =>
        refine stepE_cons ⟨_, rfl, fun a w hE hH => ?_⟩ ?_
        ·
          have e10 : a.tmps[10]? = some (.int .i64 k) := hH.old 10 rfl
          exact Or.inl ⟨rfl, goodE_move _ rfl (eval_of e10) rfl⟩
        refine stepE_cons ⟨_, rfl, fun a w hE hH => ?_⟩ ?_
        ·
          obtain ⟨v64, e64, g64⟩ := hH.dep 0 64 rfl (by kernel_rfl)
          have q64 : v64 = .int .i64 k := g64
          subst q64
          exact Or.inl ⟨(rfl), goodE_val (.bool false) (by simp [execOp, Act.eval, e64, go_sem]) rfl⟩
        refine stepE_cons ⟨_, rfl, fun a w hE hH => ?_⟩ ?_
        ·
          obtain ⟨v65, e65, g65⟩ := hH.dep 1 65 rfl (by kernel_rfl)
          exact Or.inl ⟨rfl, goodE_move v65 rfl (eval_of e65) g65⟩
        refine stepE_cons ⟨_, rfl, fun a w hE hH => ?_⟩ ?_
        ·
          have e10 : a.tmps[10]? = some (.int .i64 k) := hH.old 10 rfl
          obtain ⟨v66, e66, g66⟩ := hH.dep 2 66 rfl (by kernel_rfl)
          have q66 : v66 = .bool false := g66
          subst q66
          exact Or.inl ⟨wanted_on rfl rfl rfl e66, goodE_move _ rfl (eval_of e10) rfl⟩
        refine stepE_cons ⟨_, rfl, fun a w hE hH => ?_⟩ ?_
        ·
          have e0 : a.tmps[0]? = some (.slice (some ad) la.length c0) := hH.old 0 rfl
          obtain ⟨v66, e66, g66⟩ := hH.dep 2 66 rfl (by kernel_rfl)
          have q66 : v66 = .bool false := g66
          subst q66
          exact Or.inl ⟨wanted_on rfl rfl rfl e66, goodE_move _ rfl (eval_of e0) rfl⟩
        refine stepE_cons ⟨_, rfl, fun a w hE hH => ?_⟩ ?_
        ·
          obtain ⟨v68, e68, g68⟩ := hH.dep 4 68 rfl (by kernel_rfl)
          have q68 : v68 = .slice (some ad) la.length c0 := g68
          subst q68
          obtain ⟨v66, e66, g66⟩ := hH.dep 2 66 rfl (by kernel_rfl)
          have q66 : v66 = .bool false := g66
          subst q66
          exact Or.inl ⟨wanted_on rfl rfl rfl e66, goodE_val (.int .i64 la.length) (by simp [execOp, Act.eval, e66, e68, go_sem]) rfl⟩
        refine stepE_cons ⟨_, rfl, fun a w hE hH => ?_⟩ ?_
        ·
          obtain ⟨v67, e67, g67⟩ := hH.dep 3 67 rfl (by kernel_rfl)
          have q67 : v67 = .int .i64 k := g67
          subst q67
          obtain ⟨v69, e69, g69⟩ := hH.dep 5 69 rfl (by kernel_rfl)
          have q69 : v69 = .int .i64 la.length := g69
          subst q69
          obtain ⟨v66, e66, g66⟩ := hH.dep 2 66 rfl (by kernel_rfl)
          have q66 : v66 = .bool false := g66
          subst q66
          exact Or.inl ⟨(wanted_on rfl rfl rfl e66), goodE_val (.bool false) (by simp [execOp, Act.eval, e67, e69, go_sem]; omega) rfl⟩
        refine stepE_cons ⟨_, rfl, fun a w hE hH => ?_⟩ ?_
        ·
          obtain ⟨v66, e66, g66⟩ := hH.dep 2 66 rfl (by kernel_rfl)
          have q66 : v66 = .bool false := g66
          subst q66
          obtain ⟨v70, e70, g70⟩ := hH.dep 6 70 rfl (by kernel_rfl)
          have q70 : v70 = .bool false := g70
          subst q70
          exact Or.inl ⟨rfl, goodE_pick _ (.bool false) rfl (eval_of e66) (by simp [Act.eval, e66, e70]) rfl⟩
        refine stepE_cons ⟨_, rfl, fun a w hE hH => ?_⟩ ?_
        ·
          obtain ⟨v71, e71, g71⟩ := hH.dep 7 71 rfl (by kernel_rfl)
          exact Or.inl ⟨rfl, goodE_move v71 rfl (eval_of e71) g71⟩
        refine stepE_cons ⟨_, rfl, fun a w hE hH => ?_⟩ ?_
        ·
          have e10 : a.tmps[10]? = some (.int .i64 k) := hH.old 10 rfl
          obtain ⟨v72, e72, g72⟩ := hH.dep 8 72 rfl (by kernel_rfl)
          have q72 : v72 = .bool false := g72
          subst q72
          exact Or.inl ⟨wanted_on rfl rfl rfl e72, goodE_move _ rfl (eval_of e10) rfl⟩
        refine stepE_cons ⟨_, rfl, fun a w hE hH => ?_⟩ ?_
        ·
          have e1 : a.tmps[1]? = some (.slice (some bd) lb.length c1) := hH.old 1 rfl
          obtain ⟨v72, e72, g72⟩ := hH.dep 8 72 rfl (by kernel_rfl)
          have q72 : v72 = .bool false := g72
          subst q72
          exact Or.inl ⟨wanted_on rfl rfl rfl e72, goodE_move _ rfl (eval_of e1) rfl⟩
        refine stepE_cons ⟨_, rfl, fun a w hE hH => ?_⟩ ?_
        ·
          obtain ⟨v74, e74, g74⟩ := hH.dep 10 74 rfl (by kernel_rfl)
          have q74 : v74 = .slice (some bd) lb.length c1 := g74
          subst q74
          obtain ⟨v72, e72, g72⟩ := hH.dep 8 72 rfl (by kernel_rfl)
          have q72 : v72 = .bool false := g72
          subst q72
          exact Or.inl ⟨wanted_on rfl rfl rfl e72, goodE_val (.int .i64 lb.length) (by simp [execOp, Act.eval, e72, e74, go_sem]) rfl⟩
        refine stepE_cons ⟨_, rfl, fun a w hE hH => ?_⟩ ?_
        ·
          obtain ⟨v73, e73, g73⟩ := hH.dep 9 73 rfl (by kernel_rfl)
          have q73 : v73 = .int .i64 k := g73
          subst q73
          obtain ⟨v75, e75, g75⟩ := hH.dep 11 75 rfl (by kernel_rfl)
          have q75 : v75 = .int .i64 lb.length := g75
          subst q75
          obtain ⟨v72, e72, g72⟩ := hH.dep 8 72 rfl (by kernel_rfl)
          have q72 : v72 = .bool false := g72
          subst q72
          exact Or.inl ⟨(wanted_on rfl rfl rfl e72), goodE_val (.bool false) (by simp [execOp, Act.eval, e73, e75, go_sem]; omega) rfl⟩
        refine stepE_cons ⟨_, rfl, fun a w hE hH => ?_⟩ ?_
        ·
          obtain ⟨v72, e72, g72⟩ := hH.dep 8 72 rfl (by kernel_rfl)
          have q72 : v72 = .bool false := g72
          subst q72
          obtain ⟨v76, e76, g76⟩ := hH.dep 12 76 rfl (by kernel_rfl)
          have q76 : v76 = .bool false := g76
          subst q76
          exact Or.inl ⟨rfl, goodE_pick _ (.bool false) rfl (eval_of e72) (by simp [Act.eval, e72, e76]) rfl⟩
        refine stepE_cons ⟨_, rfl, fun a w hE hH => ?_⟩ ?_
        ·
          obtain ⟨v77, e77, g77⟩ := hH.dep 13 77 rfl (by kernel_rfl)
          exact Or.inl ⟨rfl, goodE_move v77 rfl (eval_of e77) g77⟩
        refine stepE_cons ⟨_, rfl, fun a w hE hH => ?_⟩ ?_
        ·
          have e0 : a.tmps[0]? = some (.slice (some ad) la.length c0) := hH.old 0 rfl
          obtain ⟨v78, e78, g78⟩ := hH.dep 14 78 rfl (by kernel_rfl)
          have q78 : v78 = .bool false := g78
          subst q78
          exact Or.inl ⟨wanted_on rfl rfl rfl e78, goodE_move _ rfl (eval_of e0) rfl⟩
        refine stepE_cons ⟨_, rfl, fun a w hE hH => ?_⟩ ?_
        ·
          have e10 : a.tmps[10]? = some (.int .i64 k) := hH.old 10 rfl
          obtain ⟨v78, e78, g78⟩ := hH.dep 14 78 rfl (by kernel_rfl)
          have q78 : v78 = .bool false := g78
          subst q78
          exact Or.inl ⟨wanted_on rfl rfl rfl e78, goodE_move _ rfl (eval_of e10) rfl⟩
        refine stepE_cons ⟨_, rfl, fun a w hE hH => ?_⟩ ?_
        ·
          obtain ⟨v79, e79, g79⟩ := hH.dep 15 79 rfl (by kernel_rfl)
          have q79 : v79 = .slice (some ad) la.length c0 := g79
          subst q79
          obtain ⟨v80, e80, g80⟩ := hH.dep 16 80 rfl (by kernel_rfl)
          have q80 : v80 = .int .i64 k := g80
          subst q80
          obtain ⟨v78, e78, g78⟩ := hH.dep 14 78 rfl (by kernel_rfl)
          have q78 : v78 = .bool false := g78
          subst q78
          exact Or.inl ⟨(wanted_on rfl rfl rfl e78), goodE_val (.slice (some ad) k c0) (exec_slice rfl (by simp only [Option.map_some, Option.map_none, eval_of e79, eval_of e80]; exact HCA.out w)) rfl⟩
        refine stepE_cons ⟨_, rfl, fun a w hE hH => ?_⟩ ?_
        ·
          obtain ⟨v81, e81, g81⟩ := hH.dep 17 81 rfl (by kernel_rfl)
          have q81 : v81 = .slice (some ad) k c0 := g81
          subst q81
          obtain ⟨v78, e78, g78⟩ := hH.dep 14 78 rfl (by kernel_rfl)
          have q78 : v78 = .bool false := g78
          subst q78
          exact Or.inl ⟨(wanted_on rfl rfl rfl e78), goodE_val (.string (strOfNums (la.take k))) (exec_conv (x := .tmp 81) rfl (by rw [eval_of e81]; exact HSA.out w ((Ext.to_drew _).trans hE))) rfl⟩
        refine stepE_cons ⟨_, rfl, fun a w hE hH => ?_⟩ ?_
        ·
          have e1 : a.tmps[1]? = some (.slice (some bd) lb.length c1) := hH.old 1 rfl
          obtain ⟨v78, e78, g78⟩ := hH.dep 14 78 rfl (by kernel_rfl)
          have q78 : v78 = .bool false := g78
          subst q78
          exact Or.inl ⟨wanted_on rfl rfl rfl e78, goodE_move _ rfl (eval_of e1) rfl⟩
        refine stepE_cons ⟨_, rfl, fun a w hE hH => ?_⟩ ?_
        ·
          have e10 : a.tmps[10]? = some (.int .i64 k) := hH.old 10 rfl
          obtain ⟨v78, e78, g78⟩ := hH.dep 14 78 rfl (by kernel_rfl)
          have q78 : v78 = .bool false := g78
          subst q78
          exact Or.inl ⟨wanted_on rfl rfl rfl e78, goodE_move _ rfl (eval_of e10) rfl⟩
        refine stepE_cons ⟨_, rfl, fun a w hE hH => ?_⟩ ?_
        ·
          obtain ⟨v83, e83, g83⟩ := hH.dep 19 83 rfl (by kernel_rfl)
          have q83 : v83 = .slice (some bd) lb.length c1 := g83
          subst q83
          obtain ⟨v84, e84, g84⟩ := hH.dep 20 84 rfl (by kernel_rfl)
          have q84 : v84 = .int .i64 k := g84
          subst q84
          obtain ⟨v78, e78, g78⟩ := hH.dep 14 78 rfl (by kernel_rfl)
          have q78 : v78 = .bool false := g78
          subst q78
          exact Or.inl ⟨(wanted_on rfl rfl rfl e78), goodE_val (.slice (some bd) k c1) (exec_slice rfl (by simp only [Option.map_some, Option.map_none, eval_of e83, eval_of e84]; exact HCB.out w)) rfl⟩
        refine stepE_cons ⟨_, rfl, fun a w hE hH => ?_⟩ ?_
        ·
          obtain ⟨v85, e85, g85⟩ := hH.dep 21 85 rfl (by kernel_rfl)
          have q85 : v85 = .slice (some bd) k c1 := g85
          subst q85
          obtain ⟨v78, e78, g78⟩ := hH.dep 14 78 rfl (by kernel_rfl)
          have q78 : v78 = .bool false := g78
          subst q78
          exact Or.inl ⟨(wanted_on rfl rfl rfl e78), goodE_val (.string (strOfNums (la.take k))) (exec_conv (x := .tmp 85) rfl (by rw [eval_of e85]; exact HSBB.out w ((Ext.to_drew _).trans hE))) rfl⟩
        refine stepE_cons ⟨_, rfl, fun a w hE hH => ?_⟩ ?_
        ·
          obtain ⟨v82, e82, g82⟩ := hH.dep 18 82 rfl (by kernel_rfl)
          have q82 : v82 = .string (strOfNums (la.take k)) := g82
          subst q82
          obtain ⟨v86, e86, g86⟩ := hH.dep 22 86 rfl (by kernel_rfl)
          have q86 : v86 = .string (strOfNums (la.take k)) := g86
          subst q86
          obtain ⟨v78, e78, g78⟩ := hH.dep 14 78 rfl (by kernel_rfl)
          have q78 : v78 = .bool false := g78
          subst q78
          exact Or.inl ⟨(wanted_on rfl rfl rfl e78), goodE_val (.bool false) (by simp [execOp, Act.eval, e82, e86, go_sem]) rfl⟩
        refine stepE_cons ⟨_, rfl, fun a w hE hH => ?_⟩ ?_
        ·
          obtain ⟨v78, e78, g78⟩ := hH.dep 14 78 rfl (by kernel_rfl)
          have q78 : v78 = .bool false := g78
          subst q78
          obtain ⟨v87, e87, g87⟩ := hH.dep 23 87 rfl (by kernel_rfl)
          have q87 : v87 = .bool false := g87
          subst q87
          exact Or.inl ⟨rfl, goodE_pick _ (.bool false) rfl (eval_of e78) (by simp [Act.eval, e78, e87]) rfl⟩
        refine stepE_cons ⟨_, rfl, fun a w hE hH => ?_⟩ ?_
        ·
          obtain ⟨v88, e88, g88⟩ := hH.dep 24 88 rfl (by kernel_rfl)
          exact Or.inl ⟨rfl, goodE_move v88 rfl (eval_of e88) g88⟩
        refine stepE_cons ⟨_, rfl, fun a w hE hH => ?_⟩ ?_
        ·
          have e10 : a.tmps[10]? = some (.int .i64 k) := hH.old 10 rfl
          obtain ⟨v89, e89, g89⟩ := hH.dep 25 89 rfl (by kernel_rfl)
          have q89 : v89 = .bool false := g89
          subst q89
          exact Or.inl ⟨wanted_on rfl rfl rfl e89, goodE_move _ rfl (eval_of e10) rfl⟩
        refine stepE_cons ⟨_, rfl, fun a w hE hH => ?_⟩ ?_
        ·
          have e0 : a.tmps[0]? = some (.slice (some ad) la.length c0) := hH.old 0 rfl
          obtain ⟨v89, e89, g89⟩ := hH.dep 25 89 rfl (by kernel_rfl)
          have q89 : v89 = .bool false := g89
          subst q89
          exact Or.inl ⟨wanted_on rfl rfl rfl e89, goodE_move _ rfl (eval_of e0) rfl⟩
        refine stepE_cons ⟨_, rfl, fun a w hE hH => ?_⟩ ?_
        ·
          obtain ⟨v91, e91, g91⟩ := hH.dep 27 91 rfl (by kernel_rfl)
          have q91 : v91 = .slice (some ad) la.length c0 := g91
          subst q91
          obtain ⟨v89, e89, g89⟩ := hH.dep 25 89 rfl (by kernel_rfl)
          have q89 : v89 = .bool false := g89
          subst q89
          exact Or.inl ⟨wanted_on rfl rfl rfl e89, goodE_val (.int .i64 la.length) (by simp [execOp, Act.eval, e89, e91, go_sem]) rfl⟩
        refine stepE_cons ⟨_, rfl, fun a w hE hH => ?_⟩ ?_
        ·
          obtain ⟨v90, e90, g90⟩ := hH.dep 26 90 rfl (by kernel_rfl)
          have q90 : v90 = .int .i64 k := g90
          subst q90
          obtain ⟨v92, e92, g92⟩ := hH.dep 28 92 rfl (by kernel_rfl)
          have q92 : v92 = .int .i64 la.length := g92
          subst q92
          obtain ⟨v89, e89, g89⟩ := hH.dep 25 89 rfl (by kernel_rfl)
          have q89 : v89 = .bool false := g89
          subst q89
          exact Or.inl ⟨(wanted_on rfl rfl rfl e89), goodE_val (.bool true) (by simp [execOp, Act.eval, e90, e92, go_sem]; omega) rfl⟩
        refine stepE_cons ⟨_, rfl, fun a w hE hH => ?_⟩ ?_
        ·
          obtain ⟨v93, e93, g93⟩ := hH.dep 29 93 rfl (by kernel_rfl)
          obtain ⟨v89, e89, g89⟩ := hH.dep 25 89 rfl (by kernel_rfl)
          have q89 : v89 = .bool false := g89
          subst q89
          exact Or.inl ⟨wanted_on rfl rfl rfl e89, goodE_move v93 rfl (eval_of e93) g93⟩
        refine stepE_cons ⟨_, rfl, fun a w hE hH => ?_⟩ ?_
        ·
          have e10 : a.tmps[10]? = some (.int .i64 k) := hH.old 10 rfl
          obtain ⟨v94, e94, g94⟩ := hH.dep 30 94 rfl (by kernel_rfl)
          have q94 : v94 = .bool true := g94
          subst q94
          exact Or.inl ⟨wanted_on rfl rfl rfl e94, goodE_move _ rfl (eval_of e10) rfl⟩
        refine stepE_cons ⟨_, rfl, fun a w hE hH => ?_⟩ ?_
        ·
          have e1 : a.tmps[1]? = some (.slice (some bd) lb.length c1) := hH.old 1 rfl
          obtain ⟨v94, e94, g94⟩ := hH.dep 30 94 rfl (by kernel_rfl)
          have q94 : v94 = .bool true := g94
          subst q94
          exact Or.inl ⟨wanted_on rfl rfl rfl e94, goodE_move _ rfl (eval_of e1) rfl⟩
        refine stepE_cons ⟨_, rfl, fun a w hE hH => ?_⟩ ?_
        ·
          obtain ⟨v96, e96, g96⟩ := hH.dep 32 96 rfl (by kernel_rfl)
          have q96 : v96 = .slice (some bd) lb.length c1 := g96
          subst q96
          obtain ⟨v94, e94, g94⟩ := hH.dep 30 94 rfl (by kernel_rfl)
          have q94 : v94 = .bool true := g94
          subst q94
          exact Or.inl ⟨wanted_on rfl rfl rfl e94, goodE_val (.int .i64 lb.length) (by simp [execOp, Act.eval, e96, e94, go_sem]) rfl⟩
        refine stepE_cons ⟨_, rfl, fun a w hE hH => ?_⟩ ?_
        ·
          obtain ⟨v95, e95, g95⟩ := hH.dep 31 95 rfl (by kernel_rfl)
          have q95 : v95 = .int .i64 k := g95
          subst q95
          obtain ⟨v97, e97, g97⟩ := hH.dep 33 97 rfl (by kernel_rfl)
          have q97 : v97 = .int .i64 lb.length := g97
          subst q97
          obtain ⟨v94, e94, g94⟩ := hH.dep 30 94 rfl (by kernel_rfl)
          have q94 : v94 = .bool true := g94
          subst q94
          exact Or.inl ⟨(wanted_on rfl rfl rfl e94), goodE_val (.bool true) (by simp [execOp, Act.eval, e95, e97, go_sem]; omega) rfl⟩
        refine stepE_cons ⟨_, rfl, fun a w hE hH => ?_⟩ ?_
        ·
          obtain ⟨v94, e94, g94⟩ := hH.dep 30 94 rfl (by kernel_rfl)
          have q94 : v94 = .bool true := g94
          subst q94
          obtain ⟨v98, e98, g98⟩ := hH.dep 34 98 rfl (by kernel_rfl)
          have q98 : v98 = .bool true := g98
          subst q98
          obtain ⟨v89, e89, g89⟩ := hH.dep 25 89 rfl (by kernel_rfl)
          have q89 : v89 = .bool false := g89
          subst q89
          exact Or.inl ⟨wanted_on rfl rfl rfl e89, goodE_pick _ (.bool true) rfl (eval_of e94) (by simp [Act.eval, e89, e98, e94]) rfl⟩
        refine stepE_cons ⟨_, rfl, fun a w hE hH => ?_⟩ ?_
        ·
          obtain ⟨v99, e99, g99⟩ := hH.dep 35 99 rfl (by kernel_rfl)
          obtain ⟨v89, e89, g89⟩ := hH.dep 25 89 rfl (by kernel_rfl)
          have q89 : v89 = .bool false := g89
          subst q89
          exact Or.inl ⟨wanted_on rfl rfl rfl e89, goodE_move v99 rfl (eval_of e99) g99⟩
        refine stepE_cons ⟨_, rfl, fun a w hE hH => ?_⟩ ?_
        ·
          have e0 : a.tmps[0]? = some (.slice (some ad) la.length c0) := hH.old 0 rfl
          obtain ⟨v100, e100, g100⟩ := hH.dep 36 100 rfl (by kernel_rfl)
          have q100 : v100 = .bool true := g100
          subst q100
          exact Or.inl ⟨wanted_on rfl rfl rfl e100, goodE_move _ rfl (eval_of e0) rfl⟩
        refine stepE_cons ⟨_, rfl, fun a w hE hH => ?_⟩ ?_
        ·
          have e10 : a.tmps[10]? = some (.int .i64 k) := hH.old 10 rfl
          obtain ⟨v100, e100, g100⟩ := hH.dep 36 100 rfl (by kernel_rfl)
          have q100 : v100 = .bool true := g100
          subst q100
          exact Or.inl ⟨wanted_on rfl rfl rfl e100, goodE_move _ rfl (eval_of e10) rfl⟩
        refine stepE_cons ⟨_, rfl, fun a w hE hH => ?_⟩ ?_
        ·
          obtain ⟨v101, e101, g101⟩ := hH.dep 37 101 rfl (by kernel_rfl)
          have q101 : v101 = .slice (some ad) la.length c0 := g101
          subst q101
          obtain ⟨v102, e102, g102⟩ := hH.dep 38 102 rfl (by kernel_rfl)
          have q102 : v102 = .int .i64 k := g102
          subst q102
          obtain ⟨v100, e100, g100⟩ := hH.dep 36 100 rfl (by kernel_rfl)
          have q100 : v100 = .bool true := g100
          subst q100
          exact Or.inl ⟨(wanted_on rfl rfl rfl e100), goodE_val (.pointer (some (ad.add k))) (by simp [execOp, Act.eval, e101, e102, go_sem, b7]) rfl⟩
        refine stepE_cons ⟨_, rfl, fun a w hE hH => ?_⟩ ?_
        ·
          obtain ⟨v103, e103, g103⟩ := hH.dep 39 103 rfl (by kernel_rfl)
          have q103 : v103 = .pointer (some (ad.add k)) := g103
          subst q103
          obtain ⟨v100, e100, g100⟩ := hH.dep 36 100 rfl (by kernel_rfl)
          have q100 : v100 = .bool true := g100
          subst q100
          exact Or.inl ⟨(wanted_on rfl rfl rfl e100), goodE_val (.int .u8 u) (by simp [execOp, Act.eval, e103, go_sem, cell_ext ((Ext.to_drew _).trans hE) HCA0.out]) rfl⟩
        refine stepE_cons ⟨_, rfl, fun a w hE hH => ?_⟩ ?_
        ·
          have e1 : a.tmps[1]? = some (.slice (some bd) lb.length c1) := hH.old 1 rfl
          obtain ⟨v100, e100, g100⟩ := hH.dep 36 100 rfl (by kernel_rfl)
          have q100 : v100 = .bool true := g100
          subst q100
          exact Or.inl ⟨wanted_on rfl rfl rfl e100, goodE_move _ rfl (eval_of e1) rfl⟩
        refine stepE_cons ⟨_, rfl, fun a w hE hH => ?_⟩ ?_
        ·
          have e10 : a.tmps[10]? = some (.int .i64 k) := hH.old 10 rfl
          obtain ⟨v100, e100, g100⟩ := hH.dep 36 100 rfl (by kernel_rfl)
          have q100 : v100 = .bool true := g100
          subst q100
          exact Or.inl ⟨wanted_on rfl rfl rfl e100, goodE_move _ rfl (eval_of e10) rfl⟩
        refine stepE_cons ⟨_, rfl, fun a w hE hH => ?_⟩ ?_
        ·
          obtain ⟨v105, e105, g105⟩ := hH.dep 41 105 rfl (by kernel_rfl)
          have q105 : v105 = .slice (some bd) lb.length c1 := g105
          subst q105
          obtain ⟨v106, e106, g106⟩ := hH.dep 42 106 rfl (by kernel_rfl)
          have q106 : v106 = .int .i64 k := g106
          subst q106
          obtain ⟨v100, e100, g100⟩ := hH.dep 36 100 rfl (by kernel_rfl)
          have q100 : v100 = .bool true := g100
          subst q100
          exact Or.inl ⟨(wanted_on rfl rfl rfl e100), goodE_val (.pointer (some (bd.add k))) (by simp [execOp, Act.eval, e105, e106, go_sem, b7]) rfl⟩
        refine stepE_cons ⟨_, rfl, fun a w hE hH => ?_⟩ ?_
        ·
          obtain ⟨v107, e107, g107⟩ := hH.dep 43 107 rfl (by kernel_rfl)
          have q107 : v107 = .pointer (some (bd.add k)) := g107
          subst q107
          obtain ⟨v100, e100, g100⟩ := hH.dep 36 100 rfl (by kernel_rfl)
          have q100 : v100 = .bool true := g100
          subst q100
          exact Or.inl ⟨(wanted_on rfl rfl rfl e100), goodE_val (.int .u8 vq) (by simp [execOp, Act.eval, e107, go_sem, cell_ext ((Ext.to_drew _).trans hE) HCB0.out]) rfl⟩
        refine stepE_cons ⟨_, rfl, fun a w hE hH => ?_⟩ ?_
        ·
          obtain ⟨v104, e104, g104⟩ := hH.dep 40 104 rfl (by kernel_rfl)
          have q104 : v104 = .int .u8 u := g104
          subst q104
          obtain ⟨v108, e108, g108⟩ := hH.dep 44 108 rfl (by kernel_rfl)
          have q108 : v108 = .int .u8 vq := g108
          subst q108
          obtain ⟨v100, e100, g100⟩ := hH.dep 36 100 rfl (by kernel_rfl)
          have q100 : v100 = .bool true := g100
          subst q100
          exact Or.inl ⟨(wanted_on rfl rfl rfl e100), goodE_val (.bool false) (by simp [execOp, Act.eval, e104, e108, go_sem]; exact HNE.out) rfl⟩
        refine stepE_cons ⟨_, rfl, fun a w hE hH => ?_⟩ ?_
        ·
          obtain ⟨v100, e100, g100⟩ := hH.dep 36 100 rfl (by kernel_rfl)
          have q100 : v100 = .bool true := g100
          subst q100
          obtain ⟨v109, e109, g109⟩ := hH.dep 45 109 rfl (by kernel_rfl)
          have q109 : v109 = .bool false := g109
          subst q109
          obtain ⟨v89, e89, g89⟩ := hH.dep 25 89 rfl (by kernel_rfl)
          have q89 : v89 = .bool false := g89
          subst q89
          exact Or.inl ⟨wanted_on rfl rfl rfl e89, goodE_pick _ (.bool false) rfl (eval_of e100) (by simp [Act.eval, e89, e100, e109]) rfl⟩
        refine stepE_cons ⟨_, rfl, fun a w hE hH => ?_⟩ ?_
        ·
          obtain ⟨v89, e89, g89⟩ := hH.dep 25 89 rfl (by kernel_rfl)
          have q89 : v89 = .bool false := g89
          subst q89
          obtain ⟨v110, e110, g110⟩ := hH.dep 46 110 rfl (by kernel_rfl)
          have q110 : v110 = .bool false := g110
          subst q110
          exact Or.inl ⟨rfl, goodE_pick _ (.bool false) rfl (eval_of e89) (by simp [Act.eval, e89, e110]) rfl⟩
        exact stepE_nil
      rintro vals wz hE hV
      have k111 : vals 47 = .bool false := hV 47 (by simp) rfl
      simp only [List.map_cons, List.map_nil, putAll, Act.put, List.setIfInBounds_toArray, List.set_cons_zero, List.set_cons_succ, k111]
      have HE4 := Aside0.mk (HE3.out.trans ((Ext.to_drew _).trans hE))
      clear hE hV k111
      go_wp2_with fail
      go_meet
      case rel => exact ⟨HE4.out, rfl⟩
    · obtain ⟨ad, rfl, hca⟩ := (HA.out.ext HE3.out).cell k h1
      clear hca
      go_wp2_with fail
      refine ext_region 48 [(0, 64), (1, 65), (2, 66), (3, 67), (4, 68), (5, 69), (6, 70), (7, 71), (8, 72), (9, 73), (10, 74), (11, 75), (12, 76), (13, 77), (14, 78), (15, 79), (16, 80), (17, 81), (18, 82), (19, 83), (20, 84), (21, 85), (22, 86), (23, 87), (24, 88), (25, 89), (26, 90), (27, 91), (28, 92), (29, 93), (30, 94), (31, 95), (32, 96), (33, 97), (34, 98), (35, 99), (36, 100), (37, 101), (38, 102), (39, 103), (40, 104), (41, 105), (42, 106), (43, 107), (44, 108), (45, 109), (46, 110), (47, 111)] [0, 1, 2, 3, 4, 5, 6, 7, 8, 9, 10, 11, 12, 13, 14, 15, 16, 17, 18, 19, 20, 21, 22, 23, 24, 25, 26, 27, 28, 29, 30, 31, 32, 33, 34, 35, 36, 37, 38, 39, 40, 41, 42, 43, 44, 45, 46, 47] (fun i w v => match i with | 0 => v = .int .i64 k | 1 => v = .bool false | 2 => v = .bool false | 3 => v = .int .i64 k | 4 => v = .slice (some ad) la.length c0 | 5 => v = .int .i64 la.length | 6 => v = .bool false | 7 => v = .bool false | 8 => v = .bool false | 9 => v = .int .i64 k | 10 => v = .slice A1 lb.length c1 | 11 => v = .int .i64 lb.length | 12 => v = .bool false | 13 => v = .bool false | 14 => v = .bool false | 15 => v = .slice (some ad) la.length c0 | 16 => v = .int .i64 k | 17 => v = .slice (some ad) k c0 | 18 => v = .string (strOfNums (la.take k)) | 19 => v = .slice A1 lb.length c1 | 20 => v = .int .i64 k | 21 => v = .slice A1 k c1 | 22 => v = .string (strOfNums (la.take k)) | 23 => v = .bool false | 24 => v = .bool false | 25 => v = .bool false | 26 => v = .int .i64 k | 27 => v = .slice (some ad) la.length c0 | 28 => v = .int .i64 la.length | 29 => v = .bool true | 30 => v = .bool true | 31 => v = .int .i64 k | 32 => v = .slice A1 lb.length c1 | 33 => v = .int .i64 lb.length | 34 => v = .bool false | 35 => v = .bool false | 36 => v = .bool false | 37 => v = undef | 38 => v = undef | 39 => v = undef | 40 => v = undef | 41 => v = undef | 42 => v = undef | 43 => v = undef | 44 => v = undef | 45 => v = undef | 46 => v = .bool false | 47 => v = .bool false | _ => True) (by kernel_rfl) (by kernel_rfl) (by rfl) rfl ?mono5b ?steps5b ?fin5b
      case mono5b =>
        intro i w w' v h hE
        match i with
        | 0 => exact h
        | 1 => exact h
        | 2 => exact h
        | 3 => exact h
        | 4 => exact h
        | 5 => exact h
        | 6 => exact h
        | 7 => exact h
        | 8 => exact h
        | 9 => exact h
        | 10 => exact h
        | 11 => exact h
        | 12 => exact h
        | 13 => exact h
        | 14 => exact h
        | 15 => exact h
        | 16 => exact h
        | 17 => exact h
        | 18 => exact h
        | 19 => exact h
        | 20 => exact h
        | 21 => exact h
        | 22 => exact h
        | 23 => exact h
        | 24 => exact h
        | 25 => exact h
        | 26 => exact h
        | 27 => exact h
        | 28 => exact h
        | 29 => exact h
        | 30 => exact h
        | 31 => exact h
        | 32 => exact h
        | 33 => exact h
        | 34 => exact h
        | 35 => exact h
        | 36 => exact h
        | 37 => exact h
        | 38 => exact h
        | 39 => exact h
        | 40 => exact h
        | 41 => exact h
        | 42 => exact h
        | 43 => exact h
        | 44 => exact h
        | 45 => exact h
        | 46 => exact h
        | 47 => exact h
        | _ + 48 => trivial
      case steps5b =>
        refine stepE_cons ⟨_, rfl, fun a w hE hH => ?_⟩ ?_
        ·
          have e10 : a.tmps[10]? = some (.int .i64 k) := hH.old 10 rfl
          exact Or.inl ⟨rfl, goodE_move _ rfl (eval_of e10) rfl⟩
        refine stepE_cons ⟨_, rfl, fun a w hE hH => ?_⟩ ?_
        ·
          obtain ⟨v64, e64, g64⟩ := hH.dep 0 64 rfl (by kernel_rfl)
          have q64 : v64 = .int .i64 k := g64
          subst q64
          exact Or.inl ⟨(rfl), goodE_val (.bool false) (by simp [execOp, Act.eval, e64, go_sem]) rfl⟩
        refine stepE_cons ⟨_, rfl, fun a w hE hH => ?_⟩ ?_
        ·
          obtain ⟨v65, e65, g65⟩ := hH.dep 1 65 rfl (by kernel_rfl)
          exact Or.inl ⟨rfl, goodE_move v65 rfl (eval_of e65) g65⟩
        refine stepE_cons ⟨_, rfl, fun a w hE hH => ?_⟩ ?_
        ·
          have e10 : a.tmps[10]? = some (.int .i64 k) := hH.old 10 rfl
          obtain ⟨v66, e66, g66⟩ := hH.dep 2 66 rfl (by kernel_rfl)
          have q66 : v66 = .bool false := g66
          subst q66
          exact Or.inl ⟨wanted_on rfl rfl rfl e66, goodE_move _ rfl (eval_of e10) rfl⟩
        refine stepE_cons ⟨_, rfl, fun a w hE hH => ?_⟩ ?_
        ·
          have e0 : a.tmps[0]? = some (.slice (some ad) la.length c0) := hH.old 0 rfl
          obtain ⟨v66, e66, g66⟩ := hH.dep 2 66 rfl (by kernel_rfl)
          have q66 : v66 = .bool false := g66
          subst q66
          exact Or.inl ⟨wanted_on rfl rfl rfl e66, goodE_move _ rfl (eval_of e0) rfl⟩
        refine stepE_cons ⟨_, rfl, fun a w hE hH => ?_⟩ ?_
        ·
          obtain ⟨v68, e68, g68⟩ := hH.dep 4 68 rfl (by kernel_rfl)
          have q68 : v68 = .slice (some ad) la.length c0 := g68
          subst q68
          obtain ⟨v66, e66, g66⟩ := hH.dep 2 66 rfl (by kernel_rfl)
          have q66 : v66 = .bool false := g66
          subst q66
          exact Or.inl ⟨wanted_on rfl rfl rfl e66, goodE_val (.int .i64 la.length) (by simp [execOp, Act.eval, e66, e68, go_sem]) rfl⟩
        refine stepE_cons ⟨_, rfl, fun a w hE hH => ?_⟩ ?_
        ·
          obtain ⟨v67, e67, g67⟩ := hH.dep 3 67 rfl (by kernel_rfl)
          have q67 : v67 = .int .i64 k := g67
          subst q67
          obtain ⟨v69, e69, g69⟩ := hH.dep 5 69 rfl (by kernel_rfl)
          have q69 : v69 = .int .i64 la.length := g69
          subst q69
          obtain ⟨v66, e66, g66⟩ := hH.dep 2 66 rfl (by kernel_rfl)
          have q66 : v66 = .bool false := g66
          subst q66
          exact Or.inl ⟨(wanted_on rfl rfl rfl e66), goodE_val (.bool false) (by simp [execOp, Act.eval, e67, e69, go_sem]; omega) rfl⟩
        refine stepE_cons ⟨_, rfl, fun a w hE hH => ?_⟩ ?_
        ·
          obtain ⟨v66, e66, g66⟩ := hH.dep 2 66 rfl (by kernel_rfl)
          have q66 : v66 = .bool false := g66
          subst q66
          obtain ⟨v70, e70, g70⟩ := hH.dep 6 70 rfl (by kernel_rfl)
          have q70 : v70 = .bool false := g70
          subst q70
          exact Or.inl ⟨rfl, goodE_pick _ (.bool false) rfl (eval_of e66) (by simp [Act.eval, e66, e70]) rfl⟩
        refine stepE_cons ⟨_, rfl, fun a w hE hH => ?_⟩ ?_
        ·
          obtain ⟨v71, e71, g71⟩ := hH.dep 7 71 rfl (by kernel_rfl)
          exact Or.inl ⟨rfl, goodE_move v71 rfl (eval_of e71) g71⟩
        refine stepE_cons ⟨_, rfl, fun a w hE hH => ?_⟩ ?_
        ·
          have e10 : a.tmps[10]? = some (.int .i64 k) := hH.old 10 rfl
          obtain ⟨v72, e72, g72⟩ := hH.dep 8 72 rfl (by kernel_rfl)
          have q72 : v72 = .bool false := g72
          subst q72
          exact Or.inl ⟨wanted_on rfl rfl rfl e72, goodE_move _ rfl (eval_of e10) rfl⟩
        refine stepE_cons ⟨_, rfl, fun a w hE hH => ?_⟩ ?_
        ·
          have e1 : a.tmps[1]? = some (.slice A1 lb.length c1) := hH.old 1 rfl
          obtain ⟨v72, e72, g72⟩ := hH.dep 8 72 rfl (by kernel_rfl)
          have q72 : v72 = .bool false := g72
          subst q72
          exact Or.inl ⟨wanted_on rfl rfl rfl e72, goodE_move _ rfl (eval_of e1) rfl⟩
        refine stepE_cons ⟨_, rfl, fun a w hE hH => ?_⟩ ?_
        ·
          obtain ⟨v74, e74, g74⟩ := hH.dep 10 74 rfl (by kernel_rfl)
          have q74 : v74 = .slice A1 lb.length c1 := g74
          subst q74
          obtain ⟨v72, e72, g72⟩ := hH.dep 8 72 rfl (by kernel_rfl)
          have q72 : v72 = .bool false := g72
          subst q72
          exact Or.inl ⟨wanted_on rfl rfl rfl e72, goodE_val (.int .i64 lb.length) (by simp [execOp, Act.eval, e72, e74, go_sem]) rfl⟩
        refine stepE_cons ⟨_, rfl, fun a w hE hH => ?_⟩ ?_
        ·
          obtain ⟨v73, e73, g73⟩ := hH.dep 9 73 rfl (by kernel_rfl)
          have q73 : v73 = .int .i64 k := g73
          subst q73
          obtain ⟨v75, e75, g75⟩ := hH.dep 11 75 rfl (by kernel_rfl)
          have q75 : v75 = .int .i64 lb.length := g75
          subst q75
          obtain ⟨v72, e72, g72⟩ := hH.dep 8 72 rfl (by kernel_rfl)
          have q72 : v72 = .bool false := g72
          subst q72
          exact Or.inl ⟨(wanted_on rfl rfl rfl e72), goodE_val (.bool false) (by simp [execOp, Act.eval, e73, e75, go_sem]; omega) rfl⟩
        refine stepE_cons ⟨_, rfl, fun a w hE hH => ?_⟩ ?_
        ·
          obtain ⟨v72, e72, g72⟩ := hH.dep 8 72 rfl (by kernel_rfl)
          have q72 : v72 = .bool false := g72
          subst q72
          obtain ⟨v76, e76, g76⟩ := hH.dep 12 76 rfl (by kernel_rfl)
          have q76 : v76 = .bool false := g76
          subst q76
          exact Or.inl ⟨rfl, goodE_pick _ (.bool false) rfl (eval_of e72) (by simp [Act.eval, e72, e76]) rfl⟩
        refine stepE_cons ⟨_, rfl, fun a w hE hH => ?_⟩ ?_
        ·
          obtain ⟨v77, e77, g77⟩ := hH.dep 13 77 rfl (by kernel_rfl)
          exact Or.inl ⟨rfl, goodE_move v77 rfl (eval_of e77) g77⟩
        refine stepE_cons ⟨_, rfl, fun a w hE hH => ?_⟩ ?_
        ·
          have e0 : a.tmps[0]? = some (.slice (some ad) la.length c0) := hH.old 0 rfl
          obtain ⟨v78, e78, g78⟩ := hH.dep 14 78 rfl (by kernel_rfl)
          have q78 : v78 = .bool false := g78
          subst q78
          exact Or.inl ⟨wanted_on rfl rfl rfl e78, goodE_move _ rfl (eval_of e0) rfl⟩
        refine stepE_cons ⟨_, rfl, fun a w hE hH => ?_⟩ ?_
        ·
          have e10 : a.tmps[10]? = some (.int .i64 k) := hH.old 10 rfl
          obtain ⟨v78, e78, g78⟩ := hH.dep 14 78 rfl (by kernel_rfl)
          have q78 : v78 = .bool false := g78
          subst q78
          exact Or.inl ⟨wanted_on rfl rfl rfl e78, goodE_move _ rfl (eval_of e10) rfl⟩
        refine stepE_cons ⟨_, rfl, fun a w hE hH => ?_⟩ ?_
        ·
          obtain ⟨v79, e79, g79⟩ := hH.dep 15 79 rfl (by kernel_rfl)
          have q79 : v79 = .slice (some ad) la.length c0 := g79
          subst q79
          obtain ⟨v80, e80, g80⟩ := hH.dep 16 80 rfl (by kernel_rfl)
          have q80 : v80 = .int .i64 k := g80
          subst q80
          obtain ⟨v78, e78, g78⟩ := hH.dep 14 78 rfl (by kernel_rfl)
          have q78 : v78 = .bool false := g78
          subst q78
          exact Or.inl ⟨(wanted_on rfl rfl rfl e78), goodE_val (.slice (some ad) k c0) (exec_slice rfl (by simp only [Option.map_some, Option.map_none, eval_of e79, eval_of e80]; exact HCA.out w)) rfl⟩
        refine stepE_cons ⟨_, rfl, fun a w hE hH => ?_⟩ ?_
        ·
          obtain ⟨v81, e81, g81⟩ := hH.dep 17 81 rfl (by kernel_rfl)
          have q81 : v81 = .slice (some ad) k c0 := g81
          subst q81
          obtain ⟨v78, e78, g78⟩ := hH.dep 14 78 rfl (by kernel_rfl)
          have q78 : v78 = .bool false := g78
          subst q78
          exact Or.inl ⟨(wanted_on rfl rfl rfl e78), goodE_val (.string (strOfNums (la.take k))) (exec_conv (x := .tmp 81) rfl (by rw [eval_of e81]; exact HSA.out w ((Ext.to_drew _).trans hE))) rfl⟩
        refine stepE_cons ⟨_, rfl, fun a w hE hH => ?_⟩ ?_
        ·
          have e1 : a.tmps[1]? = some (.slice A1 lb.length c1) := hH.old 1 rfl
          obtain ⟨v78, e78, g78⟩ := hH.dep 14 78 rfl (by kernel_rfl)
          have q78 : v78 = .bool false := g78
          subst q78
          exact Or.inl ⟨wanted_on rfl rfl rfl e78, goodE_move _ rfl (eval_of e1) rfl⟩
        refine stepE_cons ⟨_, rfl, fun a w hE hH => ?_⟩ ?_
        ·
          have e10 : a.tmps[10]? = some (.int .i64 k) := hH.old 10 rfl
          obtain ⟨v78, e78, g78⟩ := hH.dep 14 78 rfl (by kernel_rfl)
          have q78 : v78 = .bool false := g78
          subst q78
          exact Or.inl ⟨wanted_on rfl rfl rfl e78, goodE_move _ rfl (eval_of e10) rfl⟩
        refine stepE_cons ⟨_, rfl, fun a w hE hH => ?_⟩ ?_
        ·
          obtain ⟨v83, e83, g83⟩ := hH.dep 19 83 rfl (by kernel_rfl)
          have q83 : v83 = .slice A1 lb.length c1 := g83
          subst q83
          obtain ⟨v84, e84, g84⟩ := hH.dep 20 84 rfl (by kernel_rfl)
          have q84 : v84 = .int .i64 k := g84
          subst q84
          obtain ⟨v78, e78, g78⟩ := hH.dep 14 78 rfl (by kernel_rfl)
          have q78 : v78 = .bool false := g78
          subst q78
          exact Or.inl ⟨(wanted_on rfl rfl rfl e78), goodE_val (.slice A1 k c1) (exec_slice rfl (by simp only [Option.map_some, Option.map_none, eval_of e83, eval_of e84]; exact HCB.out w)) rfl⟩
        refine stepE_cons ⟨_, rfl, fun a w hE hH => ?_⟩ ?_
        ·
          obtain ⟨v85, e85, g85⟩ := hH.dep 21 85 rfl (by kernel_rfl)
          have q85 : v85 = .slice A1 k c1 := g85
          subst q85
          obtain ⟨v78, e78, g78⟩ := hH.dep 14 78 rfl (by kernel_rfl)
          have q78 : v78 = .bool false := g78
          subst q78
          exact Or.inl ⟨(wanted_on rfl rfl rfl e78), goodE_val (.string (strOfNums (la.take k))) (exec_conv (x := .tmp 85) rfl (by rw [eval_of e85]; exact HSBB.out w ((Ext.to_drew _).trans hE))) rfl⟩
        refine stepE_cons ⟨_, rfl, fun a w hE hH => ?_⟩ ?_
        ·
          obtain ⟨v82, e82, g82⟩ := hH.dep 18 82 rfl (by kernel_rfl)
          have q82 : v82 = .string (strOfNums (la.take k)) := g82
          subst q82
          obtain ⟨v86, e86, g86⟩ := hH.dep 22 86 rfl (by kernel_rfl)
          have q86 : v86 = .string (strOfNums (la.take k)) := g86
          subst q86
          obtain ⟨v78, e78, g78⟩ := hH.dep 14 78 rfl (by kernel_rfl)
          have q78 : v78 = .bool false := g78
          subst q78
          exact Or.inl ⟨(wanted_on rfl rfl rfl e78), goodE_val (.bool false) (by simp [execOp, Act.eval, e82, e86, go_sem]) rfl⟩
        refine stepE_cons ⟨_, rfl, fun a w hE hH => ?_⟩ ?_
        ·
          obtain ⟨v78, e78, g78⟩ := hH.dep 14 78 rfl (by kernel_rfl)
          have q78 : v78 = .bool false := g78
          subst q78
          obtain ⟨v87, e87, g87⟩ := hH.dep 23 87 rfl (by kernel_rfl)
          have q87 : v87 = .bool false := g87
          subst q87
          exact Or.inl ⟨rfl, goodE_pick _ (.bool false) rfl (eval_of e78) (by simp [Act.eval, e78, e87]) rfl⟩
        refine stepE_cons ⟨_, rfl, fun a w hE hH => ?_⟩ ?_
        ·
          obtain ⟨v88, e88, g88⟩ := hH.dep 24 88 rfl (by kernel_rfl)
          exact Or.inl ⟨rfl, goodE_move v88 rfl (eval_of e88) g88⟩
        refine stepE_cons ⟨_, rfl, fun a w hE hH => ?_⟩ ?_
        ·
          have e10 : a.tmps[10]? = some (.int .i64 k) := hH.old 10 rfl
          obtain ⟨v89, e89, g89⟩ := hH.dep 25 89 rfl (by kernel_rfl)
          have q89 : v89 = .bool false := g89
          subst q89
          exact Or.inl ⟨wanted_on rfl rfl rfl e89, goodE_move _ rfl (eval_of e10) rfl⟩
        refine stepE_cons ⟨_, rfl, fun a w hE hH => ?_⟩ ?_
        ·
          have e0 : a.tmps[0]? = some (.slice (some ad) la.length c0) := hH.old 0 rfl
          obtain ⟨v89, e89, g89⟩ := hH.dep 25 89 rfl (by kernel_rfl)
          have q89 : v89 = .bool false := g89
          subst q89
          exact Or.inl ⟨wanted_on rfl rfl rfl e89, goodE_move _ rfl (eval_of e0) rfl⟩
        refine stepE_cons ⟨_, rfl, fun a w hE hH => ?_⟩ ?_
        ·
          obtain ⟨v91, e91, g91⟩ := hH.dep 27 91 rfl (by kernel_rfl)
          have q91 : v91 = .slice (some ad) la.length c0 := g91
          subst q91
          obtain ⟨v89, e89, g89⟩ := hH.dep 25 89 rfl (by kernel_rfl)
          have q89 : v89 = .bool false := g89
          subst q89
          exact Or.inl ⟨wanted_on rfl rfl rfl e89, goodE_val (.int .i64 la.length) (by simp [execOp, Act.eval, e89, e91, go_sem]) rfl⟩
        refine stepE_cons ⟨_, rfl, fun a w hE hH => ?_⟩ ?_
        ·
          obtain ⟨v90, e90, g90⟩ := hH.dep 26 90 rfl (by kernel_rfl)
          have q90 : v90 = .int .i64 k := g90
          subst q90
          obtain ⟨v92, e92, g92⟩ := hH.dep 28 92 rfl (by kernel_rfl)
          have q92 : v92 = .int .i64 la.length := g92
          subst q92
          obtain ⟨v89, e89, g89⟩ := hH.dep 25 89 rfl (by kernel_rfl)
          have q89 : v89 = .bool false := g89
          subst q89
          exact Or.inl ⟨(wanted_on rfl rfl rfl e89), goodE_val (.bool true) (by simp [execOp, Act.eval, e90, e92, go_sem]; omega) rfl⟩
        refine stepE_cons ⟨_, rfl, fun a w hE hH => ?_⟩ ?_
        ·
          obtain ⟨v93, e93, g93⟩ := hH.dep 29 93 rfl (by kernel_rfl)
          obtain ⟨v89, e89, g89⟩ := hH.dep 25 89 rfl (by kernel_rfl)
          have q89 : v89 = .bool false := g89
          subst q89
          exact Or.inl ⟨wanted_on rfl rfl rfl e89, goodE_move v93 rfl (eval_of e93) g93⟩
        refine stepE_cons ⟨_, rfl, fun a w hE hH => ?_⟩ ?_
        ·
          have e10 : a.tmps[10]? = some (.int .i64 k) := hH.old 10 rfl
          obtain ⟨v94, e94, g94⟩ := hH.dep 30 94 rfl (by kernel_rfl)
          have q94 : v94 = .bool true := g94
          subst q94
          exact Or.inl ⟨wanted_on rfl rfl rfl e94, goodE_move _ rfl (eval_of e10) rfl⟩
        refine stepE_cons ⟨_, rfl, fun a w hE hH => ?_⟩ ?_
        ·
          have e1 : a.tmps[1]? = some (.slice A1 lb.length c1) := hH.old 1 rfl
          obtain ⟨v94, e94, g94⟩ := hH.dep 30 94 rfl (by kernel_rfl)
          have q94 : v94 = .bool true := g94
          subst q94
          exact Or.inl ⟨wanted_on rfl rfl rfl e94, goodE_move _ rfl (eval_of e1) rfl⟩
        refine stepE_cons ⟨_, rfl, fun a w hE hH => ?_⟩ ?_
        ·
          obtain ⟨v96, e96, g96⟩ := hH.dep 32 96 rfl (by kernel_rfl)
          have q96 : v96 = .slice A1 lb.length c1 := g96
          subst q96
          obtain ⟨v94, e94, g94⟩ := hH.dep 30 94 rfl (by kernel_rfl)
          have q94 : v94 = .bool true := g94
          subst q94
          exact Or.inl ⟨wanted_on rfl rfl rfl e94, goodE_val (.int .i64 lb.length) (by simp [execOp, Act.eval, e96, e94, go_sem]) rfl⟩
        refine stepE_cons ⟨_, rfl, fun a w hE hH => ?_⟩ ?_
        ·
          obtain ⟨v95, e95, g95⟩ := hH.dep 31 95 rfl (by kernel_rfl)
          have q95 : v95 = .int .i64 k := g95
          subst q95
          obtain ⟨v97, e97, g97⟩ := hH.dep 33 97 rfl (by kernel_rfl)
          have q97 : v97 = .int .i64 lb.length := g97
          subst q97
          obtain ⟨v94, e94, g94⟩ := hH.dep 30 94 rfl (by kernel_rfl)
          have q94 : v94 = .bool true := g94
          subst q94
          exact Or.inl ⟨(wanted_on rfl rfl rfl e94), goodE_val (.bool false) (by simp [execOp, Act.eval, e95, e97, go_sem]; omega) rfl⟩
        refine stepE_cons ⟨_, rfl, fun a w hE hH => ?_⟩ ?_
        ·
          obtain ⟨v94, e94, g94⟩ := hH.dep 30 94 rfl (by kernel_rfl)
          have q94 : v94 = .bool true := g94
          subst q94
          obtain ⟨v98, e98, g98⟩ := hH.dep 34 98 rfl (by kernel_rfl)
          have q98 : v98 = .bool false := g98
          subst q98
          obtain ⟨v89, e89, g89⟩ := hH.dep 25 89 rfl (by kernel_rfl)
          have q89 : v89 = .bool false := g89
          subst q89
          exact Or.inl ⟨wanted_on rfl rfl rfl e89, goodE_pick _ (.bool false) rfl (eval_of e94) (by simp [Act.eval, e89, e98, e94]) rfl⟩
        refine stepE_cons ⟨_, rfl, fun a w hE hH => ?_⟩ ?_
        ·
          obtain ⟨v99, e99, g99⟩ := hH.dep 35 99 rfl (by kernel_rfl)
          obtain ⟨v89, e89, g89⟩ := hH.dep 25 89 rfl (by kernel_rfl)
          have q89 : v89 = .bool false := g89
          subst q89
          exact Or.inl ⟨wanted_on rfl rfl rfl e89, goodE_move v99 rfl (eval_of e99) g99⟩
        refine stepE_cons ⟨_, rfl, fun a w hE hH => ?_⟩ ?_
        ·
          obtain ⟨v100, e100, g100⟩ := hH.dep 36 100 rfl (by kernel_rfl)
          have q100 : v100 = .bool false := g100
          subst q100
          exact Or.inr ⟨wanted_off rfl rfl rfl e100, rfl⟩
        refine stepE_cons ⟨_, rfl, fun a w hE hH => ?_⟩ ?_
        ·
          obtain ⟨v100, e100, g100⟩ := hH.dep 36 100 rfl (by kernel_rfl)
          have q100 : v100 = .bool false := g100
          subst q100
          exact Or.inr ⟨wanted_off rfl rfl rfl e100, rfl⟩
        refine stepE_cons ⟨_, rfl, fun a w hE hH => ?_⟩ ?_
        ·
          obtain ⟨v100, e100, g100⟩ := hH.dep 36 100 rfl (by kernel_rfl)
          have q100 : v100 = .bool false := g100
          subst q100
          exact Or.inr ⟨wanted_off rfl rfl rfl e100, rfl⟩
        refine stepE_cons ⟨_, rfl, fun a w hE hH => ?_⟩ ?_
        ·
          obtain ⟨v100, e100, g100⟩ := hH.dep 36 100 rfl (by kernel_rfl)
          have q100 : v100 = .bool false := g100
          subst q100
          exact Or.inr ⟨wanted_off rfl rfl rfl e100, rfl⟩
        refine stepE_cons ⟨_, rfl, fun a w hE hH => ?_⟩ ?_
        ·
          obtain ⟨v100, e100, g100⟩ := hH.dep 36 100 rfl (by kernel_rfl)
          have q100 : v100 = .bool false := g100
          subst q100
          exact Or.inr ⟨wanted_off rfl rfl rfl e100, rfl⟩
        refine stepE_cons ⟨_, rfl, fun a w hE hH => ?_⟩ ?_
        ·
          obtain ⟨v100, e100, g100⟩ := hH.dep 36 100 rfl (by kernel_rfl)
          have q100 : v100 = .bool false := g100
          subst q100
          exact Or.inr ⟨wanted_off rfl rfl rfl e100, rfl⟩
        refine stepE_cons ⟨_, rfl, fun a w hE hH => ?_⟩ ?_
        ·
          obtain ⟨v100, e100, g100⟩ := hH.dep 36 100 rfl (by kernel_rfl)
          have q100 : v100 = .bool false := g100
          subst q100
          exact Or.inr ⟨wanted_off rfl rfl rfl e100, rfl⟩
        refine stepE_cons ⟨_, rfl, fun a w hE hH => ?_⟩ ?_
        ·
          obtain ⟨v100, e100, g100⟩ := hH.dep 36 100 rfl (by kernel_rfl)
          have q100 : v100 = .bool false := g100
          subst q100
          exact Or.inr ⟨wanted_off rfl rfl rfl e100, rfl⟩
        refine stepE_cons ⟨_, rfl, fun a w hE hH => ?_⟩ ?_
        ·
          obtain ⟨v100, e100, g100⟩ := hH.dep 36 100 rfl (by kernel_rfl)
          have q100 : v100 = .bool false := g100
          subst q100
          exact Or.inr ⟨wanted_off rfl rfl rfl e100, rfl⟩
        refine stepE_cons ⟨_, rfl, fun a w hE hH => ?_⟩ ?_
        ·
          obtain ⟨v100, e100, g100⟩ := hH.dep 36 100 rfl (by kernel_rfl)
          have q100 : v100 = .bool false := g100
          subst q100
          obtain ⟨v109, e109, g109⟩ := hH.dep 45 109 rfl (by kernel_rfl)
          have q109 : v109 = undef := g109
          subst q109
          obtain ⟨v89, e89, g89⟩ := hH.dep 25 89 rfl (by kernel_rfl)
          have q89 : v89 = .bool false := g89
          subst q89
          exact Or.inl ⟨wanted_on rfl rfl rfl e89, goodE_pick _ (.bool false) rfl (eval_of e100) (by simp [Act.eval, e89, e100, e109]) rfl⟩
        refine stepE_cons ⟨_, rfl, fun a w hE hH => ?_⟩ ?_
        ·
          obtain ⟨v89, e89, g89⟩ := hH.dep 25 89 rfl (by kernel_rfl)
          have q89 : v89 = .bool false := g89
          subst q89
          obtain ⟨v110, e110, g110⟩ := hH.dep 46 110 rfl (by kernel_rfl)
          have q110 : v110 = .bool false := g110
          subst q110
          exact Or.inl ⟨rfl, goodE_pick _ (.bool false) rfl (eval_of e89) (by simp [Act.eval, e89, e110]) rfl⟩
        exact stepE_nil
      rintro vals wz hE hV
      have k111 : vals 47 = .bool false := hV 47 (by simp) rfl
      simp only [List.map_cons, List.map_nil, putAll, Act.put, List.setIfInBounds_toArray, List.set_cons_zero, List.set_cons_succ, k111]
      have HE4 := Aside0.mk (HE3.out.trans ((Ext.to_drew _).trans hE))
      clear hE hV k111
      go_wp2_with fail
      go_meet
      case rel => exact ⟨HE4.out, rfl⟩
    · go_wp2_with fail
      refine ext_region 48 [(0, 64), (1, 65), (2, 66), (3, 67), (4, 68), (5, 69), (6, 70), (7, 71), (8, 72), (9, 73), (10, 74), (11, 75), (12, 76), (13, 77), (14, 78), (15, 79), (16, 80), (17, 81), (18, 82), (19, 83), (20, 84), (21, 85), (22, 86), (23, 87), (24, 88), (25, 89), (26, 90), (27, 91), (28, 92), (29, 93), (30, 94), (31, 95), (32, 96), (33, 97), (34, 98), (35, 99), (36, 100), (37, 101), (38, 102), (39, 103), (40, 104), (41, 105), (42, 106), (43, 107), (44, 108), (45, 109), (46, 110), (47, 111)] [0, 1, 2, 3, 4, 5, 6, 7, 8, 9, 10, 11, 12, 13, 14, 15, 16, 17, 18, 19, 20, 21, 22, 23, 24, 25, 26, 27, 28, 29, 30, 31, 32, 33, 34, 35, 36, 37, 38, 39, 40, 41, 42, 43, 44, 45, 46, 47] (fun i w v => match i with | 0 => v = .int .i64 k | 1 => v = .bool false | 2 => v = .bool false | 3 => v = .int .i64 k | 4 => v = .slice A0 la.length c0 | 5 => v = .int .i64 la.length | 6 => v = .bool false | 7 => v = .bool false | 8 => v = .bool false | 9 => v = .int .i64 k | 10 => v = .slice A1 lb.length c1 | 11 => v = .int .i64 lb.length | 12 => v = .bool false | 13 => v = .bool false | 14 => v = .bool false | 15 => v = .slice A0 la.length c0 | 16 => v = .int .i64 k | 17 => v = .slice A0 k c0 | 18 => v = .string (strOfNums (la.take k)) | 19 => v = .slice A1 lb.length c1 | 20 => v = .int .i64 k | 21 => v = .slice A1 k c1 | 22 => v = .string (strOfNums (la.take k)) | 23 => v = .bool false | 24 => v = .bool false | 25 => v = .bool false | 26 => v = .int .i64 k | 27 => v = .slice A0 la.length c0 | 28 => v = .int .i64 la.length | 29 => v = .bool false | 30 => v = .bool false | 31 => v = undef | 32 => v = undef | 33 => v = undef | 34 => v = undef | 35 => v = .bool false | 36 => v = .bool false | 37 => v = undef | 38 => v = undef | 39 => v = undef | 40 => v = undef | 41 => v = undef | 42 => v = undef | 43 => v = undef | 44 => v = undef | 45 => v = undef | 46 => v = .bool false | 47 => v = .bool false | _ => True) (by kernel_rfl) (by kernel_rfl) (by rfl) rfl ?mono5c ?steps5c ?fin5c
      case mono5c =>
        intro i w w' v h hE
        match i with
        | 0 => exact h
        | 1 => exact h
        | 2 => exact h
        | 3 => exact h
        | 4 => exact h
        | 5 => exact h
        | 6 => exact h
        | 7 => exact h
        | 8 => exact h
        | 9 => exact h
        | 10 => exact h
        | 11 => exact h
        | 12 => exact h
        | 13 => exact h
        | 14 => exact h
        | 15 => exact h
        | 16 => exact h
        | 17 => exact h
        | 18 => exact h
        | 19 => exact h
        | 20 => exact h
        | 21 => exact h
        | 22 => exact h
        | 23 => exact h
        | 24 => exact h
        | 25 => exact h
        | 26 => exact h
        | 27 => exact h
        | 28 => exact h
        | 29 => exact h
        | 30 => exact h
        | 31 => exact h
        | 32 => exact h
        | 33 => exact h
        | 34 => exact h
        | 35 => exact h
        | 36 => exact h
        | 37 => exact h
        | 38 => exact h
        | 39 => exact h
        | 40 => exact h
        | 41 => exact h
        | 42 => exact h
        | 43 => exact h
        | 44 => exact h
        | 45 => exact h
        | 46 => exact h
        | 47 => exact h
        | _ + 48 => trivial
      case steps5c =>
        refine stepE_cons ⟨_, rfl, fun a w hE hH => ?_⟩ ?_
        ·
          have e10 : a.tmps[10]? = some (.int .i64 k) := hH.old 10 rfl
          exact Or.inl ⟨rfl, goodE_move _ rfl (eval_of e10) rfl⟩
        refine stepE_cons ⟨_, rfl, fun a w hE hH => ?_⟩ ?_
        ·
          obtain ⟨v64, e64, g64⟩ := hH.dep 0 64 rfl (by kernel_rfl)
          have q64 : v64 = .int .i64 k := g64
          subst q64
          exact Or.inl ⟨(rfl), goodE_val (.bool false) (by simp [execOp, Act.eval, e64, go_sem]) rfl⟩
        refine stepE_cons ⟨_, rfl, fun a w hE hH => ?_⟩ ?_
        ·
          obtain ⟨v65, e65, g65⟩ := hH.dep 1 65 rfl (by kernel_rfl)
          exact Or.inl ⟨rfl, goodE_move v65 rfl (eval_of e65) g65⟩
        refine stepE_cons ⟨_, rfl, fun a w hE hH => ?_⟩ ?_
        ·
          have e10 : a.tmps[10]? = some (.int .i64 k) := hH.old 10 rfl
          obtain ⟨v66, e66, g66⟩ := hH.dep 2 66 rfl (by kernel_rfl)
          have q66 : v66 = .bool false := g66
          subst q66
          exact Or.inl ⟨wanted_on rfl rfl rfl e66, goodE_move _ rfl (eval_of e10) rfl⟩
        refine stepE_cons ⟨_, rfl, fun a w hE hH => ?_⟩ ?_
        ·
          have e0 : a.tmps[0]? = some (.slice A0 la.length c0) := hH.old 0 rfl
          obtain ⟨v66, e66, g66⟩ := hH.dep 2 66 rfl (by kernel_rfl)
          have q66 : v66 = .bool false := g66
          subst q66
          exact Or.inl ⟨wanted_on rfl rfl rfl e66, goodE_move _ rfl (eval_of e0) rfl⟩
        refine stepE_cons ⟨_, rfl, fun a w hE hH => ?_⟩ ?_
        ·
          obtain ⟨v68, e68, g68⟩ := hH.dep 4 68 rfl (by kernel_rfl)
          have q68 : v68 = .slice A0 la.length c0 := g68
          subst q68
          obtain ⟨v66, e66, g66⟩ := hH.dep 2 66 rfl (by kernel_rfl)
          have q66 : v66 = .bool false := g66
          subst q66
          exact Or.inl ⟨wanted_on rfl rfl rfl e66, goodE_val (.int .i64 la.length) (by simp [execOp, Act.eval, e66, e68, go_sem]) rfl⟩
        refine stepE_cons ⟨_, rfl, fun a w hE hH => ?_⟩ ?_
        ·
          obtain ⟨v67, e67, g67⟩ := hH.dep 3 67 rfl (by kernel_rfl)
          have q67 : v67 = .int .i64 k := g67
          subst q67
          obtain ⟨v69, e69, g69⟩ := hH.dep 5 69 rfl (by kernel_rfl)
          have q69 : v69 = .int .i64 la.length := g69
          subst q69
          obtain ⟨v66, e66, g66⟩ := hH.dep 2 66 rfl (by kernel_rfl)
          have q66 : v66 = .bool false := g66
          subst q66
          exact Or.inl ⟨(wanted_on rfl rfl rfl e66), goodE_val (.bool false) (by simp [execOp, Act.eval, e67, e69, go_sem]; omega) rfl⟩
        refine stepE_cons ⟨_, rfl, fun a w hE hH => ?_⟩ ?_
        ·
          obtain ⟨v66, e66, g66⟩ := hH.dep 2 66 rfl (by kernel_rfl)
          have q66 : v66 = .bool false := g66
          subst q66
          obtain ⟨v70, e70, g70⟩ := hH.dep 6 70 rfl (by kernel_rfl)
          have q70 : v70 = .bool false := g70
          subst q70
          exact Or.inl ⟨rfl, goodE_pick _ (.bool false) rfl (eval_of e66) (by simp [Act.eval, e66, e70]) rfl⟩
        refine stepE_cons ⟨_, rfl, fun a w hE hH => ?_⟩ ?_
        ·
          obtain ⟨v71, e71, g71⟩ := hH.dep 7 71 rfl (by kernel_rfl)
          exact Or.inl ⟨rfl, goodE_move v71 rfl (eval_of e71) g71⟩
        refine stepE_cons ⟨_, rfl, fun a w hE hH => ?_⟩ ?_
        ·
          have e10 : a.tmps[10]? = some (.int .i64 k) := hH.old 10 rfl
          obtain ⟨v72, e72, g72⟩ := hH.dep 8 72 rfl (by kernel_rfl)
          have q72 : v72 = .bool false := g72
          subst q72
          exact Or.inl ⟨wanted_on rfl rfl rfl e72, goodE_move _ rfl (eval_of e10) rfl⟩
        refine stepE_cons ⟨_, rfl, fun a w hE hH => ?_⟩ ?_
        ·
          have e1 : a.tmps[1]? = some (.slice A1 lb.length c1) := hH.old 1 rfl
          obtain ⟨v72, e72, g72⟩ := hH.dep 8 72 rfl (by kernel_rfl)
          have q72 : v72 = .bool false := g72
          subst q72
          exact Or.inl ⟨wanted_on rfl rfl rfl e72, goodE_move _ rfl (eval_of e1) rfl⟩
        refine stepE_cons ⟨_, rfl, fun a w hE hH => ?_⟩ ?_
        ·
          obtain ⟨v74, e74, g74⟩ := hH.dep 10 74 rfl (by kernel_rfl)
          have q74 : v74 = .slice A1 lb.length c1 := g74
          subst q74
          obtain ⟨v72, e72, g72⟩ := hH.dep 8 72 rfl (by kernel_rfl)
          have q72 : v72 = .bool false := g72
          subst q72
          exact Or.inl ⟨wanted_on rfl rfl rfl e72, goodE_val (.int .i64 lb.length) (by simp [execOp, Act.eval, e72, e74, go_sem]) rfl⟩
        refine stepE_cons ⟨_, rfl, fun a w hE hH => ?_⟩ ?_
        ·
          obtain ⟨v73, e73, g73⟩ := hH.dep 9 73 rfl (by kernel_rfl)
          have q73 : v73 = .int .i64 k := g73
          subst q73
          obtain ⟨v75, e75, g75⟩ := hH.dep 11 75 rfl (by kernel_rfl)
          have q75 : v75 = .int .i64 lb.length := g75
          subst q75
          obtain ⟨v72, e72, g72⟩ := hH.dep 8 72 rfl (by kernel_rfl)
          have q72 : v72 = .bool false := g72
          subst q72
          exact Or.inl ⟨(wanted_on rfl rfl rfl e72), goodE_val (.bool false) (by simp [execOp, Act.eval, e73, e75, go_sem]; omega) rfl⟩
        refine stepE_cons ⟨_, rfl, fun a w hE hH => ?_⟩ ?_
        ·
          obtain ⟨v72, e72, g72⟩ := hH.dep 8 72 rfl (by kernel_rfl)
          have q72 : v72 = .bool false := g72
          subst q72
          obtain ⟨v76, e76, g76⟩ := hH.dep 12 76 rfl (by kernel_rfl)
          have q76 : v76 = .bool false := g76
          subst q76
          exact Or.inl ⟨rfl, goodE_pick _ (.bool false) rfl (eval_of e72) (by simp [Act.eval, e72, e76]) rfl⟩
        refine stepE_cons ⟨_, rfl, fun a w hE hH => ?_⟩ ?_
        ·
          obtain ⟨v77, e77, g77⟩ := hH.dep 13 77 rfl (by kernel_rfl)
          exact Or.inl ⟨rfl, goodE_move v77 rfl (eval_of e77) g77⟩
        refine stepE_cons ⟨_, rfl, fun a w hE hH => ?_⟩ ?_
        ·
          have e0 : a.tmps[0]? = some (.slice A0 la.length c0) := hH.old 0 rfl
          obtain ⟨v78, e78, g78⟩ := hH.dep 14 78 rfl (by kernel_rfl)
          have q78 : v78 = .bool false := g78
          subst q78
          exact Or.inl ⟨wanted_on rfl rfl rfl e78, goodE_move _ rfl (eval_of e0) rfl⟩
        refine stepE_cons ⟨_, rfl, fun a w hE hH => ?_⟩ ?_
        ·
          have e10 : a.tmps[10]? = some (.int .i64 k) := hH.old 10 rfl
          obtain ⟨v78, e78, g78⟩ := hH.dep 14 78 rfl (by kernel_rfl)
          have q78 : v78 = .bool false := g78
          subst q78
          exact Or.inl ⟨wanted_on rfl rfl rfl e78, goodE_move _ rfl (eval_of e10) rfl⟩
        refine stepE_cons ⟨_, rfl, fun a w hE hH => ?_⟩ ?_
        ·
          obtain ⟨v79, e79, g79⟩ := hH.dep 15 79 rfl (by kernel_rfl)
          have q79 : v79 = .slice A0 la.length c0 := g79
          subst q79
          obtain ⟨v80, e80, g80⟩ := hH.dep 16 80 rfl (by kernel_rfl)
          have q80 : v80 = .int .i64 k := g80
          subst q80
          obtain ⟨v78, e78, g78⟩ := hH.dep 14 78 rfl (by kernel_rfl)
          have q78 : v78 = .bool false := g78
          subst q78
          exact Or.inl ⟨(wanted_on rfl rfl rfl e78), goodE_val (.slice A0 k c0) (exec_slice rfl (by simp only [Option.map_some, Option.map_none, eval_of e79, eval_of e80]; exact HCA.out w)) rfl⟩
        refine stepE_cons ⟨_, rfl, fun a w hE hH => ?_⟩ ?_
        ·
          obtain ⟨v81, e81, g81⟩ := hH.dep 17 81 rfl (by kernel_rfl)
          have q81 : v81 = .slice A0 k c0 := g81
          subst q81
          obtain ⟨v78, e78, g78⟩ := hH.dep 14 78 rfl (by kernel_rfl)
          have q78 : v78 = .bool false := g78
          subst q78
          exact Or.inl ⟨(wanted_on rfl rfl rfl e78), goodE_val (.string (strOfNums (la.take k))) (exec_conv (x := .tmp 81) rfl (by rw [eval_of e81]; exact HSA.out w ((Ext.to_drew _).trans hE))) rfl⟩
        refine stepE_cons ⟨_, rfl, fun a w hE hH => ?_⟩ ?_
        ·
          have e1 : a.tmps[1]? = some (.slice A1 lb.length c1) := hH.old 1 rfl
          obtain ⟨v78, e78, g78⟩ := hH.dep 14 78 rfl (by kernel_rfl)
          have q78 : v78 = .bool false := g78
          subst q78
          exact Or.inl ⟨wanted_on rfl rfl rfl e78, goodE_move _ rfl (eval_of e1) rfl⟩
        refine stepE_cons ⟨_, rfl, fun a w hE hH => ?_⟩ ?_
        ·
          have e10 : a.tmps[10]? = some (.int .i64 k) := hH.old 10 rfl
          obtain ⟨v78, e78, g78⟩ := hH.dep 14 78 rfl (by kernel_rfl)
          have q78 : v78 = .bool false := g78
          subst q78
          exact Or.inl ⟨wanted_on rfl rfl rfl e78, goodE_move _ rfl (eval_of e10) rfl⟩
        refine stepE_cons ⟨_, rfl, fun a w hE hH => ?_⟩ ?_
        ·
          obtain ⟨v83, e83, g83⟩ := hH.dep 19 83 rfl (by kernel_rfl)
          have q83 : v83 = .slice A1 lb.length c1 := g83
          subst q83
          obtain ⟨v84, e84, g84⟩ := hH.dep 20 84 rfl (by kernel_rfl)
          have q84 : v84 = .int .i64 k := g84
          subst q84
          obtain ⟨v78, e78, g78⟩ := hH.dep 14 78 rfl (by kernel_rfl)
          have q78 : v78 = .bool false := g78
          subst q78
          exact Or.inl ⟨(wanted_on rfl rfl rfl e78), goodE_val (.slice A1 k c1) (exec_slice rfl (by simp only [Option.map_some, Option.map_none, eval_of e83, eval_of e84]; exact HCB.out w)) rfl⟩
        refine stepE_cons ⟨_, rfl, fun a w hE hH => ?_⟩ ?_
        ·
          obtain ⟨v85, e85, g85⟩ := hH.dep 21 85 rfl (by kernel_rfl)
          have q85 : v85 = .slice A1 k c1 := g85
          subst q85
          obtain ⟨v78, e78, g78⟩ := hH.dep 14 78 rfl (by kernel_rfl)
          have q78 : v78 = .bool false := g78
          subst q78
          exact Or.inl ⟨(wanted_on rfl rfl rfl e78), goodE_val (.string (strOfNums (la.take k))) (exec_conv (x := .tmp 85) rfl (by rw [eval_of e85]; exact HSBB.out w ((Ext.to_drew _).trans hE))) rfl⟩
        refine stepE_cons ⟨_, rfl, fun a w hE hH => ?_⟩ ?_
        ·
          obtain ⟨v82, e82, g82⟩ := hH.dep 18 82 rfl (by kernel_rfl)
          have q82 : v82 = .string (strOfNums (la.take k)) := g82
          subst q82
          obtain ⟨v86, e86, g86⟩ := hH.dep 22 86 rfl (by kernel_rfl)
          have q86 : v86 = .string (strOfNums (la.take k)) := g86
          subst q86
          obtain ⟨v78, e78, g78⟩ := hH.dep 14 78 rfl (by kernel_rfl)
          have q78 : v78 = .bool false := g78
          subst q78
          exact Or.inl ⟨(wanted_on rfl rfl rfl e78), goodE_val (.bool false) (by simp [execOp, Act.eval, e82, e86, go_sem]) rfl⟩
        refine stepE_cons ⟨_, rfl, fun a w hE hH => ?_⟩ ?_
        ·
          obtain ⟨v78, e78, g78⟩ := hH.dep 14 78 rfl (by kernel_rfl)
          have q78 : v78 = .bool false := g78
          subst q78
          obtain ⟨v87, e87, g87⟩ := hH.dep 23 87 rfl (by kernel_rfl)
          have q87 : v87 = .bool false := g87
          subst q87
          exact Or.inl ⟨rfl, goodE_pick _ (.bool false) rfl (eval_of e78) (by simp [Act.eval, e78, e87]) rfl⟩
        refine stepE_cons ⟨_, rfl, fun a w hE hH => ?_⟩ ?_
        ·
          obtain ⟨v88, e88, g88⟩ := hH.dep 24 88 rfl (by kernel_rfl)
          exact Or.inl ⟨rfl, goodE_move v88 rfl (eval_of e88) g88⟩
        refine stepE_cons ⟨_, rfl, fun a w hE hH => ?_⟩ ?_
        ·
          have e10 : a.tmps[10]? = some (.int .i64 k) := hH.old 10 rfl
          obtain ⟨v89, e89, g89⟩ := hH.dep 25 89 rfl (by kernel_rfl)
          have q89 : v89 = .bool false := g89
          subst q89
          exact Or.inl ⟨wanted_on rfl rfl rfl e89, goodE_move _ rfl (eval_of e10) rfl⟩
        refine stepE_cons ⟨_, rfl, fun a w hE hH => ?_⟩ ?_
        ·
          have e0 : a.tmps[0]? = some (.slice A0 la.length c0) := hH.old 0 rfl
          obtain ⟨v89, e89, g89⟩ := hH.dep 25 89 rfl (by kernel_rfl)
          have q89 : v89 = .bool false := g89
          subst q89
          exact Or.inl ⟨wanted_on rfl rfl rfl e89, goodE_move _ rfl (eval_of e0) rfl⟩
        refine stepE_cons ⟨_, rfl, fun a w hE hH => ?_⟩ ?_
        ·
          obtain ⟨v91, e91, g91⟩ := hH.dep 27 91 rfl (by kernel_rfl)
          have q91 : v91 = .slice A0 la.length c0 := g91
          subst q91
          obtain ⟨v89, e89, g89⟩ := hH.dep 25 89 rfl (by kernel_rfl)
          have q89 : v89 = .bool false := g89
          subst q89
          exact Or.inl ⟨wanted_on rfl rfl rfl e89, goodE_val (.int .i64 la.length) (by simp [execOp, Act.eval, e89, e91, go_sem]) rfl⟩
        refine stepE_cons ⟨_, rfl, fun a w hE hH => ?_⟩ ?_
        ·
          obtain ⟨v90, e90, g90⟩ := hH.dep 26 90 rfl (by kernel_rfl)
          have q90 : v90 = .int .i64 k := g90
          subst q90
          obtain ⟨v92, e92, g92⟩ := hH.dep 28 92 rfl (by kernel_rfl)
          have q92 : v92 = .int .i64 la.length := g92
          subst q92
          obtain ⟨v89, e89, g89⟩ := hH.dep 25 89 rfl (by kernel_rfl)
          have q89 : v89 = .bool false := g89
          subst q89
          exact Or.inl ⟨(wanted_on rfl rfl rfl e89), goodE_val (.bool false) (by simp [execOp, Act.eval, e90, e92, go_sem]; omega) rfl⟩
        refine stepE_cons ⟨_, rfl, fun a w hE hH => ?_⟩ ?_
        ·
          obtain ⟨v93, e93, g93⟩ := hH.dep 29 93 rfl (by kernel_rfl)
          obtain ⟨v89, e89, g89⟩ := hH.dep 25 89 rfl (by kernel_rfl)
          have q89 : v89 = .bool false := g89
          subst q89
          exact Or.inl ⟨wanted_on rfl rfl rfl e89, goodE_move v93 rfl (eval_of e93) g93⟩
        refine stepE_cons ⟨_, rfl, fun a w hE hH => ?_⟩ ?_
        ·
          obtain ⟨v94, e94, g94⟩ := hH.dep 30 94 rfl (by kernel_rfl)
          have q94 : v94 = .bool false := g94
          subst q94
          exact Or.inr ⟨wanted_off rfl rfl rfl e94, rfl⟩
        refine stepE_cons ⟨_, rfl, fun a w hE hH => ?_⟩ ?_
        ·
          obtain ⟨v94, e94, g94⟩ := hH.dep 30 94 rfl (by kernel_rfl)
          have q94 : v94 = .bool false := g94
          subst q94
          exact Or.inr ⟨wanted_off rfl rfl rfl e94, rfl⟩
        refine stepE_cons ⟨_, rfl, fun a w hE hH => ?_⟩ ?_
        ·
          obtain ⟨v94, e94, g94⟩ := hH.dep 30 94 rfl (by kernel_rfl)
          have q94 : v94 = .bool false := g94
          subst q94
          exact Or.inr ⟨wanted_off rfl rfl rfl e94, rfl⟩
        refine stepE_cons ⟨_, rfl, fun a w hE hH => ?_⟩ ?_
        ·
          obtain ⟨v94, e94, g94⟩ := hH.dep 30 94 rfl (by kernel_rfl)
          have q94 : v94 = .bool false := g94
          subst q94
          exact Or.inr ⟨wanted_off rfl rfl rfl e94, rfl⟩
        refine stepE_cons ⟨_, rfl, fun a w hE hH => ?_⟩ ?_
        ·
          obtain ⟨v94, e94, g94⟩ := hH.dep 30 94 rfl (by kernel_rfl)
          have q94 : v94 = .bool false := g94
          subst q94
          obtain ⟨v98, e98, g98⟩ := hH.dep 34 98 rfl (by kernel_rfl)
          have q98 : v98 = undef := g98
          subst q98
          obtain ⟨v89, e89, g89⟩ := hH.dep 25 89 rfl (by kernel_rfl)
          have q89 : v89 = .bool false := g89
          subst q89
          exact Or.inl ⟨wanted_on rfl rfl rfl e89, goodE_pick _ (.bool false) rfl (eval_of e94) (by simp [Act.eval, e89, e98, e94]) rfl⟩
        refine stepE_cons ⟨_, rfl, fun a w hE hH => ?_⟩ ?_
        ·
          obtain ⟨v99, e99, g99⟩ := hH.dep 35 99 rfl (by kernel_rfl)
          obtain ⟨v89, e89, g89⟩ := hH.dep 25 89 rfl (by kernel_rfl)
          have q89 : v89 = .bool false := g89
          subst q89
          exact Or.inl ⟨wanted_on rfl rfl rfl e89, goodE_move v99 rfl (eval_of e99) g99⟩
        refine stepE_cons ⟨_, rfl, fun a w hE hH => ?_⟩ ?_
        ·
          obtain ⟨v100, e100, g100⟩ := hH.dep 36 100 rfl (by kernel_rfl)
          have q100 : v100 = .bool false := g100
          subst q100
          exact Or.inr ⟨wanted_off rfl rfl rfl e100, rfl⟩
        refine stepE_cons ⟨_, rfl, fun a w hE hH => ?_⟩ ?_
        ·
          obtain ⟨v100, e100, g100⟩ := hH.dep 36 100 rfl (by kernel_rfl)
          have q100 : v100 = .bool false := g100
          subst q100
          exact Or.inr ⟨wanted_off rfl rfl rfl e100, rfl⟩
        refine stepE_cons ⟨_, rfl, fun a w hE hH => ?_⟩ ?_
        ·
          obtain ⟨v100, e100, g100⟩ := hH.dep 36 100 rfl (by kernel_rfl)
          have q100 : v100 = .bool false := g100
          subst q100
          exact Or.inr ⟨wanted_off rfl rfl rfl e100, rfl⟩
        refine stepE_cons ⟨_, rfl, fun a w hE hH => ?_⟩ ?_
        ·
          obtain ⟨v100, e100, g100⟩ := hH.dep 36 100 rfl (by kernel_rfl)
          have q100 : v100 = .bool false := g100
          subst q100
          exact Or.inr ⟨wanted_off rfl rfl rfl e100, rfl⟩
        refine stepE_cons ⟨_, rfl, fun a w hE hH => ?_⟩ ?_
        ·
          obtain ⟨v100, e100, g100⟩ := hH.dep 36 100 rfl (by kernel_rfl)
          have q100 : v100 = .bool false := g100
          subst q100
          exact Or.inr ⟨wanted_off rfl rfl rfl e100, rfl⟩
        refine stepE_cons ⟨_, rfl, fun a w hE hH => ?_⟩ ?_
        ·
          obtain ⟨v100, e100, g100⟩ := hH.dep 36 100 rfl (by kernel_rfl)
          have q100 : v100 = .bool false := g100
          subst q100
          exact Or.inr ⟨wanted_off rfl rfl rfl e100, rfl⟩
        refine stepE_cons ⟨_, rfl, fun a w hE hH => ?_⟩ ?_
        ·
          obtain ⟨v100, e100, g100⟩ := hH.dep 36 100 rfl (by kernel_rfl)
          have q100 : v100 = .bool false := g100
          subst q100
          exact Or.inr ⟨wanted_off rfl rfl rfl e100, rfl⟩
        refine stepE_cons ⟨_, rfl, fun a w hE hH => ?_⟩ ?_
        ·
          obtain ⟨v100, e100, g100⟩ := hH.dep 36 100 rfl (by kernel_rfl)
          have q100 : v100 = .bool false := g100
          subst q100
          exact Or.inr ⟨wanted_off rfl rfl rfl e100, rfl⟩
        refine stepE_cons ⟨_, rfl, fun a w hE hH => ?_⟩ ?_
        ·
          obtain ⟨v100, e100, g100⟩ := hH.dep 36 100 rfl (by kernel_rfl)
          have q100 : v100 = .bool false := g100
          subst q100
          exact Or.inr ⟨wanted_off rfl rfl rfl e100, rfl⟩
        refine stepE_cons ⟨_, rfl, fun a w hE hH => ?_⟩ ?_
        ·
          obtain ⟨v100, e100, g100⟩ := hH.dep 36 100 rfl (by kernel_rfl)
          have q100 : v100 = .bool false := g100
          subst q100
          obtain ⟨v109, e109, g109⟩ := hH.dep 45 109 rfl (by kernel_rfl)
          have q109 : v109 = undef := g109
          subst q109
          obtain ⟨v89, e89, g89⟩ := hH.dep 25 89 rfl (by kernel_rfl)
          have q89 : v89 = .bool false := g89
          subst q89
          exact Or.inl ⟨wanted_on rfl rfl rfl e89, goodE_pick _ (.bool false) rfl (eval_of e100) (by simp [Act.eval, e89, e100, e109]) rfl⟩
        refine stepE_cons ⟨_, rfl, fun a w hE hH => ?_⟩ ?_
        ·
          obtain ⟨v89, e89, g89⟩ := hH.dep 25 89 rfl (by kernel_rfl)
          have q89 : v89 = .bool false := g89
          subst q89
          obtain ⟨v110, e110, g110⟩ := hH.dep 46 110 rfl (by kernel_rfl)
          have q110 : v110 = .bool false := g110
          subst q110
          exact Or.inl ⟨rfl, goodE_pick _ (.bool false) rfl (eval_of e89) (by simp [Act.eval, e89, e110]) rfl⟩
        exact stepE_nil
      rintro vals wz hE hV
      have k111 : vals 47 = .bool false := hV 47 (by simp) rfl
      simp only [List.map_cons, List.map_nil, putAll, Act.put, List.setIfInBounds_toArray, List.set_cons_zero, List.set_cons_succ, k111]
      have HE4 := Aside0.mk (HE3.out.trans ((Ext.to_drew _).trans hE))
      clear hE hV k111
      go_wp2_with fail
      go_meet
      case rel => exact ⟨HE4.out, rfl⟩
  case rest =>
  obtain ⟨hE, rfl⟩ := hcut
  have HE4 := Aside0.mk hE
  clear hE HE3 HSA HSBB
  go_upto_region 7 with fail
  go_cut [125] from 112 to 125 (fun (s125 : Value) wx => Ext w wx ∧ s125 = .bool false)
  case first =>
    have hcase : (k = la.length ∧ k < lb.length ∧ X = -1) ∨ (k = la.length ∧ k = lb.length) ∨ k < la.length := by
      have hX := HCC.out
      by_cases h1 : k = la.length
      · rw [if_pos h1] at hX
        by_cases h2 : k = lb.length
        · omega
        · rw [if_neg h2] at hX; omega
      · omega
    rcases hcase with ⟨h1, h2, h3⟩ | ⟨h1, h2⟩ | h1
    · have e1 : ((k : Int) == (la.length : Int)) = true := by rw [beq_iff_eq]; omega
      have e2 : (k : Int) < lb.length := by omega
      have e3 : (X != -1) = false := by rw [h3]; rfl
      clear h1 h3
      go_wp2_with fail
      go_meet
      case rel => exact ⟨HE4.out, rfl⟩
    · have e1 : ((k : Int) == (la.length : Int)) = true := by rw [beq_iff_eq]; omega
      have e2 : ¬ ((k : Int) < lb.length) := by omega
      clear h1 h2
      go_wp2_with fail
      go_meet
      case rel => exact ⟨HE4.out, rfl⟩
    · have e1 : ((k : Int) == (la.length : Int)) = false := by rw [beq_eq_false_iff_ne]; omega
      clear h1
      go_wp2_with fail
      go_meet
      case rel => exact ⟨HE4.out, rfl⟩
  case rest =>
  obtain ⟨hE, rfl⟩ := hcut
  have HE5 := Aside0.mk hE
  clear hE HE4
  obtain ⟨w5, hw5⟩ : ∃ w5, w5 = wc := ⟨_, rfl⟩
  subst hw5
  go_upto_region 9 with fail
  go_cut [149] from 126 to 149 (fun (s149 : Value) wx => Ext w wx ∧ s149 = .bool false)
  case first =>
    have hcase : (k < la.length ∧ k < lb.length) ∨ (k < la.length ∧ k = lb.length) ∨ k = la.length := by omega
    rcases hcase with ⟨h1, h2⟩ | ⟨h1, h2⟩ | h1
    · obtain ⟨ad, rfl, hca⟩ := (HA.out.ext HE5.out).cell k h1
      obtain ⟨bd, rfl, hcb⟩ := (HB.out.ext HE5.out).cell k h2
      have hX := HCC.out
      rw [if_neg (by omega), if_neg (by omega)] at hX
      obtain ⟨u, hu⟩ : ∃ u, u = la.getD k 0 := ⟨_, rfl⟩
      obtain ⟨vq, hvq⟩ : ∃ vq, vq = lb.getD k 0 := ⟨_, rfl⟩
      rw [← hu] at hca
      rw [← hvq] at hcb
      rw [← hu, ← hvq] at hX
      have HXU := Aside0.mk (show (decide (X < 0)) = decide (u < vq) by
        by_cases h : u < vq
        · rw [if_pos h] at hX; simp [h, hX]
        · rw [if_neg h] at hX; simp [h, hX])
      have HCA0 := Aside0.mk hca
      have HCB0 := Aside0.mk hcb
      have b7 : (0 : Int) ≤ k ∧ (k : Int) < la.length ∧ (k : Int) < lb.length := by omega
      clear hca hcb hu hvq hX
      go_wp2_with fail
      refine ext_region 24 [(0, 126), (1, 127), (2, 128), (3, 129), (4, 130), (5, 131), (6, 132), (7, 133), (8, 134), (9, 135), (10, 136), (11, 137), (12, 138), (13, 139), (14, 140), (15, 141), (16, 142), (17, 143), (18, 144), (19, 145), (20, 146), (21, 147), (22, 148), (23, 149)] [0, 1, 2, 3, 4, 5, 6, 7, 8, 9, 10, 11, 12, 13, 14, 15, 16, 17, 18, 19, 20, 21, 22, 23] (fun i w v => match i with | 0 => v = .int .i64 k | 1 => v = .slice (some ad) la.length c0 | 2 => v = .int .i64 la.length | 3 => v = .bool true | 4 => v = .bool true | 5 => v = .int .i64 k | 6 => v = .slice (some bd) lb.length c1 | 7 => v = .int .i64 lb.length | 8 => v = .bool true | 9 => v = .bool true | 10 => v = .bool true | 11 => v = .int .i64 X | 12 => v = .bool (decide (X < 0)) | 13 => v = .slice (some ad) la.length c0 | 14 => v = .int .i64 k | 15 => v = .pointer (some (ad.add k)) | 16 => v = .int .u8 u | 17 => v = .slice (some bd) lb.length c1 | 18 => v = .int .i64 k | 19 => v = .pointer (some (bd.add k)) | 20 => v = .int .u8 vq | 21 => v = .bool (decide (u < vq)) | 22 => v = .bool false | 23 => v = .bool false | _ => True) (by kernel_rfl) (by kernel_rfl) (by rfl) rfl ?mono9a ?steps9a ?fin9a
      case mono9a =>
        intro i w w' v h hE
        match i with
        | 0 => exact h
        | 1 => exact h
        | 2 => exact h
        | 3 => exact h
        | 4 => exact h
        | 5 => exact h
        | 6 => exact h
        | 7 => exact h
        | 8 => exact h
        | 9 => exact h
        | 10 => exact h
        | 11 => exact h
        | 12 => exact h
        | 13 => exact h
        | 14 => exact h
        | 15 => exact h
        | 16 => exact h
        | 17 => exact h
        | 18 => exact h
        | 19 => exact h
        | 20 => exact h
        | 21 => exact h
        | 22 => exact h
        | 23 => exact h
        | _ + 24 => trivial
      case steps9a =>
        refine stepE_cons ⟨_, rfl, fun a w hE hH => ?_⟩ ?_
        ·
          have e10 : a.tmps[10]? = some (.int .i64 k) := hH.old 10 rfl
          exact Or.inl ⟨rfl, goodE_move _ rfl (eval_of e10) rfl⟩
        refine stepE_cons ⟨_, rfl, fun a w hE hH => ?_⟩ ?_
        ·
          have e0 : a.tmps[0]? = some (.slice (some ad) la.length c0) := hH.old 0 rfl
          exact Or.inl ⟨rfl, goodE_move _ rfl (eval_of e0) rfl⟩
        refine stepE_cons ⟨_, rfl, fun a w hE hH => ?_⟩ ?_
        ·
          obtain ⟨v127, e127, g127⟩ := hH.dep 1 127 rfl (by kernel_rfl)
          have q127 : v127 = .slice (some ad) la.length c0 := g127
          subst q127
          exact Or.inl ⟨rfl, goodE_val (.int .i64 la.length) (by simp [execOp, Act.eval, e127, go_sem]) rfl⟩
        refine stepE_cons ⟨_, rfl, fun a w hE hH => ?_⟩ ?_
        ·
          obtain ⟨v126, e126, g126⟩ := hH.dep 0 126 rfl (by kernel_rfl)
          have q126 : v126 = .int .i64 k := g126
          subst q126
          obtain ⟨v128, e128, g128⟩ := hH.dep 2 128 rfl (by kernel_rfl)
          have q128 : v128 = .int .i64 la.length := g128
          subst q128
          exact Or.inl ⟨(rfl), goodE_val (.bool true) (by simp [execOp, Act.eval, e126, e128, go_sem]; omega) rfl⟩
        refine stepE_cons ⟨_, rfl, fun a w hE hH => ?_⟩ ?_
        ·
          obtain ⟨v129, e129, g129⟩ := hH.dep 3 129 rfl (by kernel_rfl)
          exact Or.inl ⟨rfl, goodE_move v129 rfl (eval_of e129) g129⟩
        refine stepE_cons ⟨_, rfl, fun a w hE hH => ?_⟩ ?_
        ·
          have e10 : a.tmps[10]? = some (.int .i64 k) := hH.old 10 rfl
          obtain ⟨v130, e130, g130⟩ := hH.dep 4 130 rfl (by kernel_rfl)
          have q130 : v130 = .bool true := g130
          subst q130
          exact Or.inl ⟨wanted_on rfl rfl rfl e130, goodE_move _ rfl (eval_of e10) rfl⟩
        refine stepE_cons ⟨_, rfl, fun a w hE hH => ?_⟩ ?_
        ·
          have e1 : a.tmps[1]? = some (.slice (some bd) lb.length c1) := hH.old 1 rfl
          obtain ⟨v130, e130, g130⟩ := hH.dep 4 130 rfl (by kernel_rfl)
          have q130 : v130 = .bool true := g130
          subst q130
          exact Or.inl ⟨wanted_on rfl rfl rfl e130, goodE_move _ rfl (eval_of e1) rfl⟩
        refine stepE_cons ⟨_, rfl, fun a w hE hH => ?_⟩ ?_
        ·
          obtain ⟨v132, e132, g132⟩ := hH.dep 6 132 rfl (by kernel_rfl)
          have q132 : v132 = .slice (some bd) lb.length c1 := g132
          subst q132
          obtain ⟨v130, e130, g130⟩ := hH.dep 4 130 rfl (by kernel_rfl)
          have q130 : v130 = .bool true := g130
          subst q130
          exact Or.inl ⟨wanted_on rfl rfl rfl e130, goodE_val (.int .i64 lb.length) (by simp [execOp, Act.eval, e130, e132, go_sem]) rfl⟩
        refine stepE_cons ⟨_, rfl, fun a w hE hH => ?_⟩ ?_
        ·
          obtain ⟨v131, e131, g131⟩ := hH.dep 5 131 rfl (by kernel_rfl)
          have q131 : v131 = .int .i64 k := g131
          subst q131
          obtain ⟨v133, e133, g133⟩ := hH.dep 7 133 rfl (by kernel_rfl)
          have q133 : v133 = .int .i64 lb.length := g133
          subst q133
          obtain ⟨v130, e130, g130⟩ := hH.dep 4 130 rfl (by kernel_rfl)
          have q130 : v130 = .bool true := g130
          subst q130
          exact Or.inl ⟨(wanted_on rfl rfl rfl e130), goodE_val (.bool true) (by simp [execOp, Act.eval, e131, e133, go_sem]; omega) rfl⟩
        refine stepE_cons ⟨_, rfl, fun a w hE hH => ?_⟩ ?_
        ·
          obtain ⟨v130, e130, g130⟩ := hH.dep 4 130 rfl (by kernel_rfl)
          have q130 : v130 = .bool true := g130
          subst q130
          obtain ⟨v134, e134, g134⟩ := hH.dep 8 134 rfl (by kernel_rfl)
          have q134 : v134 = .bool true := g134
          subst q134
          exact Or.inl ⟨rfl, goodE_pick _ (.bool true) rfl (eval_of e130) (by simp [Act.eval, e130, e134]) rfl⟩
        refine stepE_cons ⟨_, rfl, fun a w hE hH => ?_⟩ ?_
        ·
          obtain ⟨v135, e135, g135⟩ := hH.dep 9 135 rfl (by kernel_rfl)
          exact Or.inl ⟨rfl, goodE_move v135 rfl (eval_of e135) g135⟩
        refine stepE_cons ⟨_, rfl, fun a w hE hH => ?_⟩ ?_
        ·
          have e7 : a.tmps[7]? = some (.int .i64 X) := hH.old 7 rfl
          obtain ⟨v136, e136, g136⟩ := hH.dep 10 136 rfl (by kernel_rfl)
          have q136 : v136 = .bool true := g136
          subst q136
          exact Or.inl ⟨wanted_on rfl rfl rfl e136, goodE_move _ rfl (eval_of e7) rfl⟩
        refine stepE_cons ⟨_, rfl, fun a w hE hH => ?_⟩ ?_
        ·
          obtain ⟨v137, e137, g137⟩ := hH.dep 11 137 rfl (by kernel_rfl)
          have q137 : v137 = .int .i64 X := g137
          subst q137
          obtain ⟨v136, e136, g136⟩ := hH.dep 10 136 rfl (by kernel_rfl)
          have q136 : v136 = .bool true := g136
          subst q136
          exact Or.inl ⟨wanted_on rfl rfl rfl e136, goodE_val (.bool (decide (X < 0))) (by simp [execOp, Act.eval, e136, e137, go_sem]) rfl⟩
        refine stepE_cons ⟨_, rfl, fun a w hE hH => ?_⟩ ?_
        ·
          have e0 : a.tmps[0]? = some (.slice (some ad) la.length c0) := hH.old 0 rfl
          obtain ⟨v136, e136, g136⟩ := hH.dep 10 136 rfl (by kernel_rfl)
          have q136 : v136 = .bool true := g136
          subst q136
          exact Or.inl ⟨wanted_on rfl rfl rfl e136, goodE_move _ rfl (eval_of e0) rfl⟩
        refine stepE_cons ⟨_, rfl, fun a w hE hH => ?_⟩ ?_
        ·
          have e10 : a.tmps[10]? = some (.int .i64 k) := hH.old 10 rfl
          obtain ⟨v136, e136, g136⟩ := hH.dep 10 136 rfl (by kernel_rfl)
          have q136 : v136 = .bool true := g136
          subst q136
          exact Or.inl ⟨wanted_on rfl rfl rfl e136, goodE_move _ rfl (eval_of e10) rfl⟩
        refine stepE_cons ⟨_, rfl, fun a w hE hH => ?_⟩ ?_
        ·
          obtain ⟨v139, e139, g139⟩ := hH.dep 13 139 rfl (by kernel_rfl)
          have q139 : v139 = .slice (some ad) la.length c0 := g139
          subst q139
          obtain ⟨v140, e140, g140⟩ := hH.dep 14 140 rfl (by kernel_rfl)
          have q140 : v140 = .int .i64 k := g140
          subst q140
          obtain ⟨v136, e136, g136⟩ := hH.dep 10 136 rfl (by kernel_rfl)
          have q136 : v136 = .bool true := g136
          subst q136
          exact Or.inl ⟨(wanted_on rfl rfl rfl e136), goodE_val (.pointer (some (ad.add k))) (by simp [execOp, Act.eval, e139, e140, go_sem, b7]) rfl⟩
        refine stepE_cons ⟨_, rfl, fun a w hE hH => ?_⟩ ?_
        ·
          obtain ⟨v141, e141, g141⟩ := hH.dep 15 141 rfl (by kernel_rfl)
          have q141 : v141 = .pointer (some (ad.add k)) := g141
          subst q141
          obtain ⟨v136, e136, g136⟩ := hH.dep 10 136 rfl (by kernel_rfl)
          have q136 : v136 = .bool true := g136
          subst q136
          exact Or.inl ⟨(wanted_on rfl rfl rfl e136), goodE_val (.int .u8 u) (by simp [execOp, Act.eval, e141, go_sem, cell_ext ((Ext.to_drew _).trans hE) HCA0.out]) rfl⟩
        refine stepE_cons ⟨_, rfl, fun a w hE hH => ?_⟩ ?_
        ·
          have e1 : a.tmps[1]? = some (.slice (some bd) lb.length c1) := hH.old 1 rfl
          obtain ⟨v136, e136, g136⟩ := hH.dep 10 136 rfl (by kernel_rfl)
          have q136 : v136 = .bool true := g136
          subst q136
          exact Or.inl ⟨wanted_on rfl rfl rfl e136, goodE_move _ rfl (eval_of e1) rfl⟩
        refine stepE_cons ⟨_, rfl, fun a w hE hH => ?_⟩ ?_
        ·
          have e10 : a.tmps[10]? = some (.int .i64 k) := hH.old 10 rfl
          obtain ⟨v136, e136, g136⟩ := hH.dep 10 136 rfl (by kernel_rfl)
          have q136 : v136 = .bool true := g136
          subst q136
          exact Or.inl ⟨wanted_on rfl rfl rfl e136, goodE_move _ rfl (eval_of e10) rfl⟩
        refine stepE_cons ⟨_, rfl, fun a w hE hH => ?_⟩ ?_
        ·
          obtain ⟨v143, e143, g143⟩ := hH.dep 17 143 rfl (by kernel_rfl)
          have q143 : v143 = .slice (some bd) lb.length c1 := g143
          subst q143
          obtain ⟨v144, e144, g144⟩ := hH.dep 18 144 rfl (by kernel_rfl)
          have q144 : v144 = .int .i64 k := g144
          subst q144
          obtain ⟨v136, e136, g136⟩ := hH.dep 10 136 rfl (by kernel_rfl)
          have q136 : v136 = .bool true := g136
          subst q136
          exact Or.inl ⟨(wanted_on rfl rfl rfl e136), goodE_val (.pointer (some (bd.add k))) (by simp [execOp, Act.eval, e143, e144, go_sem, b7]) rfl⟩
        refine stepE_cons ⟨_, rfl, fun a w hE hH => ?_⟩ ?_
        ·
          obtain ⟨v145, e145, g145⟩ := hH.dep 19 145 rfl (by kernel_rfl)
          have q145 : v145 = .pointer (some (bd.add k)) := g145
          subst q145
          obtain ⟨v136, e136, g136⟩ := hH.dep 10 136 rfl (by kernel_rfl)
          have q136 : v136 = .bool true := g136
          subst q136
          exact Or.inl ⟨(wanted_on rfl rfl rfl e136), goodE_val (.int .u8 vq) (by simp [execOp, Act.eval, e145, go_sem, cell_ext ((Ext.to_drew _).trans hE) HCB0.out]) rfl⟩
        refine stepE_cons ⟨_, rfl, fun a w hE hH => ?_⟩ ?_
        ·
          obtain ⟨v142, e142, g142⟩ := hH.dep 16 142 rfl (by kernel_rfl)
          have q142 : v142 = .int .u8 u := g142
          subst q142
          obtain ⟨v146, e146, g146⟩ := hH.dep 20 146 rfl (by kernel_rfl)
          have q146 : v146 = .int .u8 vq := g146
          subst q146
          obtain ⟨v136, e136, g136⟩ := hH.dep 10 136 rfl (by kernel_rfl)
          have q136 : v136 = .bool true := g136
          subst q136
          exact Or.inl ⟨wanted_on rfl rfl rfl e136, goodE_val (.bool (decide (u < vq))) (by simp [execOp, Act.eval, e136, e146, e142, go_sem]) rfl⟩
        refine stepE_cons ⟨_, rfl, fun a w hE hH => ?_⟩ ?_
        ·
          obtain ⟨v138, e138, g138⟩ := hH.dep 12 138 rfl (by kernel_rfl)
          have q138 : v138 = .bool (decide (X < 0)) := g138
          subst q138
          obtain ⟨v147, e147, g147⟩ := hH.dep 21 147 rfl (by kernel_rfl)
          have q147 : v147 = .bool (decide (u < vq)) := g147
          subst q147
          obtain ⟨v136, e136, g136⟩ := hH.dep 10 136 rfl (by kernel_rfl)
          have q136 : v136 = .bool true := g136
          subst q136
          exact Or.inl ⟨(wanted_on rfl rfl rfl e136), goodE_val (.bool false) (by simp [execOp, Act.eval, e138, e147, go_sem, HXU.out]) rfl⟩
        refine stepE_cons ⟨_, rfl, fun a w hE hH => ?_⟩ ?_
        ·
          obtain ⟨v136, e136, g136⟩ := hH.dep 10 136 rfl (by kernel_rfl)
          have q136 : v136 = .bool true := g136
          subst q136
          obtain ⟨v148, e148, g148⟩ := hH.dep 22 148 rfl (by kernel_rfl)
          have q148 : v148 = .bool false := g148
          subst q148
          exact Or.inl ⟨rfl, goodE_pick _ (.bool false) rfl (eval_of e136) (by simp [Act.eval, e136, e148]) rfl⟩
        exact stepE_nil
      rintro vals wz hE hV
      have k149 : vals 23 = .bool false := hV 23 (by simp) rfl
      simp only [List.map_cons, List.map_nil, putAll, Act.put, List.setIfInBounds_toArray, List.set_cons_zero, List.set_cons_succ, k149]
      have HE6 := Aside0.mk (HE5.out.trans ((Ext.to_drew _).trans hE))
      clear hE hV k149
      go_wp2_with fail
      go_meet
      case rel => exact ⟨HE6.out, rfl⟩
    · obtain ⟨ad, rfl, hca⟩ := (HA.out.ext HE5.out).cell k h1
      clear hca
      go_wp2_with fail
      refine ext_region 24 [(0, 126), (1, 127), (2, 128), (3, 129), (4, 130), (5, 131), (6, 132), (7, 133), (8, 134), (9, 135), (10, 136), (11, 137), (12, 138), (13, 139), (14, 140), (15, 141), (16, 142), (17, 143), (18, 144), (19, 145), (20, 146), (21, 147), (22, 148), (23, 149)] [0, 1, 2, 3, 4, 5, 6, 7, 8, 9, 10, 11, 12, 13, 14, 15, 16, 17, 18, 19, 20, 21, 22, 23] (fun i w v => match i with | 0 => v = .int .i64 k | 1 => v = .slice (some ad) la.length c0 | 2 => v = .int .i64 la.length | 3 => v = .bool true | 4 => v = .bool true | 5 => v = .int .i64 k | 6 => v = .slice A1 lb.length c1 | 7 => v = .int .i64 lb.length | 8 => v = .bool false | 9 => v = .bool false | 10 => v = .bool false | 11 => v = undef | 12 => v = undef | 13 => v = undef | 14 => v = undef | 15 => v = undef | 16 => v = undef | 17 => v = undef | 18 => v = undef | 19 => v = undef | 20 => v = undef | 21 => v = undef | 22 => v = undef | 23 => v = .bool false | _ => True) (by kernel_rfl) (by kernel_rfl) (by rfl) rfl ?mono9b ?steps9b ?fin9b
      case mono9b =>
        intro i w w' v h hE
        match i with
        | 0 => exact h
        | 1 => exact h
        | 2 => exact h
        | 3 => exact h
        | 4 => exact h
        | 5 => exact h
        | 6 => exact h
        | 7 => exact h
        | 8 => exact h
        | 9 => exact h
        | 10 => exact h
        | 11 => exact h
        | 12 => exact h
        | 13 => exact h
        | 14 => exact h
        | 15 => exact h
        | 16 => exact h
        | 17 => exact h
        | 18 => exact h
        | 19 => exact h
        | 20 => exact h
        | 21 => exact h
        | 22 => exact h
        | 23 => exact h
        | _ + 24 => trivial
      case steps9b =>
        refine stepE_cons ⟨_, rfl, fun a w hE hH => ?_⟩ ?_
        ·
          have e10 : a.tmps[10]? = some (.int .i64 k) := hH.old 10 rfl
          exact Or.inl ⟨rfl, goodE_move _ rfl (eval_of e10) rfl⟩
        refine stepE_cons ⟨_, rfl, fun a w hE hH => ?_⟩ ?_
        ·
          have e0 : a.tmps[0]? = some (.slice (some ad) la.length c0) := hH.old 0 rfl
          exact Or.inl ⟨rfl, goodE_move _ rfl (eval_of e0) rfl⟩
        refine stepE_cons ⟨_, rfl, fun a w hE hH => ?_⟩ ?_
        ·
          obtain ⟨v127, e127, g127⟩ := hH.dep 1 127 rfl (by kernel_rfl)
          have q127 : v127 = .slice (some ad) la.length c0 := g127
          subst q127
          exact Or.inl ⟨rfl, goodE_val (.int .i64 la.length) (by simp [execOp, Act.eval, e127, go_sem]) rfl⟩
        refine stepE_cons ⟨_, rfl, fun a w hE hH => ?_⟩ ?_
        ·
          obtain ⟨v126, e126, g126⟩ := hH.dep 0 126 rfl (by kernel_rfl)
          have q126 : v126 = .int .i64 k := g126
          subst q126
          obtain ⟨v128, e128, g128⟩ := hH.dep 2 128 rfl (by kernel_rfl)
          have q128 : v128 = .int .i64 la.length := g128
          subst q128
          exact Or.inl ⟨(rfl), goodE_val (.bool true) (by simp [execOp, Act.eval, e126, e128, go_sem]; omega) rfl⟩
        refine stepE_cons ⟨_, rfl, fun a w hE hH => ?_⟩ ?_
        ·
          obtain ⟨v129, e129, g129⟩ := hH.dep 3 129 rfl (by kernel_rfl)
          exact Or.inl ⟨rfl, goodE_move v129 rfl (eval_of e129) g129⟩
        refine stepE_cons ⟨_, rfl, fun a w hE hH => ?_⟩ ?_
        ·
          have e10 : a.tmps[10]? = some (.int .i64 k) := hH.old 10 rfl
          obtain ⟨v130, e130, g130⟩ := hH.dep 4 130 rfl (by kernel_rfl)
          have q130 : v130 = .bool true := g130
          subst q130
          exact Or.inl ⟨wanted_on rfl rfl rfl e130, goodE_move _ rfl (eval_of e10) rfl⟩
        refine stepE_cons ⟨_, rfl, fun a w hE hH => ?_⟩ ?_
        ·
          have e1 : a.tmps[1]? = some (.slice A1 lb.length c1) := hH.old 1 rfl
          obtain ⟨v130, e130, g130⟩ := hH.dep 4 130 rfl (by kernel_rfl)
          have q130 : v130 = .bool true := g130
          subst q130
          exact Or.inl ⟨wanted_on rfl rfl rfl e130, goodE_move _ rfl (eval_of e1) rfl⟩
        refine stepE_cons ⟨_, rfl, fun a w hE hH => ?_⟩ ?_
        ·
          obtain ⟨v132, e132, g132⟩ := hH.dep 6 132 rfl (by kernel_rfl)
          have q132 : v132 = .slice A1 lb.length c1 := g132
          subst q132
          obtain ⟨v130, e130, g130⟩ := hH.dep 4 130 rfl (by kernel_rfl)
          have q130 : v130 = .bool true := g130
          subst q130
          exact Or.inl ⟨wanted_on rfl rfl rfl e130, goodE_val (.int .i64 lb.length) (by simp [execOp, Act.eval, e130, e132, go_sem]) rfl⟩
        refine stepE_cons ⟨_, rfl, fun a w hE hH => ?_⟩ ?_
        ·
          obtain ⟨v131, e131, g131⟩ := hH.dep 5 131 rfl (by kernel_rfl)
          have q131 : v131 = .int .i64 k := g131
          subst q131
          obtain ⟨v133, e133, g133⟩ := hH.dep 7 133 rfl (by kernel_rfl)
          have q133 : v133 = .int .i64 lb.length := g133
          subst q133
          obtain ⟨v130, e130, g130⟩ := hH.dep 4 130 rfl (by kernel_rfl)
          have q130 : v130 = .bool true := g130
          subst q130
          exact Or.inl ⟨(wanted_on rfl rfl rfl e130), goodE_val (.bool false) (by simp [execOp, Act.eval, e131, e133, go_sem]; omega) rfl⟩
        refine stepE_cons ⟨_, rfl, fun a w hE hH => ?_⟩ ?_
        ·
          obtain ⟨v130, e130, g130⟩ := hH.dep 4 130 rfl (by kernel_rfl)
          have q130 : v130 = .bool true := g130
          subst q130
          obtain ⟨v134, e134, g134⟩ := hH.dep 8 134 rfl (by kernel_rfl)
          have q134 : v134 = .bool false := g134
          subst q134
          exact Or.inl ⟨rfl, goodE_pick _ (.bool false) rfl (eval_of e130) (by simp [Act.eval, e130, e134]) rfl⟩
        refine stepE_cons ⟨_, rfl, fun a w hE hH => ?_⟩ ?_
        ·
          obtain ⟨v135, e135, g135⟩ := hH.dep 9 135 rfl (by kernel_rfl)
          exact Or.inl ⟨rfl, goodE_move v135 rfl (eval_of e135) g135⟩
        refine stepE_cons ⟨_, rfl, fun a w hE hH => ?_⟩ ?_
        ·
          obtain ⟨v136, e136, g136⟩ := hH.dep 10 136 rfl (by kernel_rfl)
          have q136 : v136 = .bool false := g136
          subst q136
          exact Or.inr ⟨wanted_off rfl rfl rfl e136, rfl⟩
        refine stepE_cons ⟨_, rfl, fun a w hE hH => ?_⟩ ?_
        ·
          obtain ⟨v136, e136, g136⟩ := hH.dep 10 136 rfl (by kernel_rfl)
          have q136 : v136 = .bool false := g136
          subst q136
          exact Or.inr ⟨wanted_off rfl rfl rfl e136, rfl⟩
        refine stepE_cons ⟨_, rfl, fun a w hE hH => ?_⟩ ?_
        ·
          obtain ⟨v136, e136, g136⟩ := hH.dep 10 136 rfl (by kernel_rfl)
          have q136 : v136 = .bool false := g136
          subst q136
          exact Or.inr ⟨wanted_off rfl rfl rfl e136, rfl⟩
        refine stepE_cons ⟨_, rfl, fun a w hE hH => ?_⟩ ?_
        ·
          obtain ⟨v136, e136, g136⟩ := hH.dep 10 136 rfl (by kernel_rfl)
          have q136 : v136 = .bool false := g136
          subst q136
          exact Or.inr ⟨wanted_off rfl rfl rfl e136, rfl⟩
        refine stepE_cons ⟨_, rfl, fun a w hE hH => ?_⟩ ?_
        ·
          obtain ⟨v136, e136, g136⟩ := hH.dep 10 136 rfl (by kernel_rfl)
          have q136 : v136 = .bool false := g136
          subst q136
          exact Or.inr ⟨wanted_off rfl rfl rfl e136, rfl⟩
        refine stepE_cons ⟨_, rfl, fun a w hE hH => ?_⟩ ?_
        ·
          obtain ⟨v136, e136, g136⟩ := hH.dep 10 136 rfl (by kernel_rfl)
          have q136 : v136 = .bool false := g136
          subst q136
          exact Or.inr ⟨wanted_off rfl rfl rfl e136, rfl⟩
        refine stepE_cons ⟨_, rfl, fun a w hE hH => ?_⟩ ?_
        ·
          obtain ⟨v136, e136, g136⟩ := hH.dep 10 136 rfl (by kernel_rfl)
          have q136 : v136 = .bool false := g136
          subst q136
          exact Or.inr ⟨wanted_off rfl rfl rfl e136, rfl⟩
        refine stepE_cons ⟨_, rfl, fun a w hE hH => ?_⟩ ?_
        ·
          obtain ⟨v136, e136, g136⟩ := hH.dep 10 136 rfl (by kernel_rfl)
          have q136 : v136 = .bool false := g136
          subst q136
          exact Or.inr ⟨wanted_off rfl rfl rfl e136, rfl⟩
        refine stepE_cons ⟨_, rfl, fun a w hE hH => ?_⟩ ?_
        ·
          obtain ⟨v136, e136, g136⟩ := hH.dep 10 136 rfl (by kernel_rfl)
          have q136 : v136 = .bool false := g136
          subst q136
          exact Or.inr ⟨wanted_off rfl rfl rfl e136, rfl⟩
        refine stepE_cons ⟨_, rfl, fun a w hE hH => ?_⟩ ?_
        ·
          obtain ⟨v136, e136, g136⟩ := hH.dep 10 136 rfl (by kernel_rfl)
          have q136 : v136 = .bool false := g136
          subst q136
          exact Or.inr ⟨wanted_off rfl rfl rfl e136, rfl⟩
        refine stepE_cons ⟨_, rfl, fun a w hE hH => ?_⟩ ?_
        ·
          obtain ⟨v136, e136, g136⟩ := hH.dep 10 136 rfl (by kernel_rfl)
          have q136 : v136 = .bool false := g136
          subst q136
          exact Or.inr ⟨wanted_off rfl rfl rfl e136, rfl⟩
        refine stepE_cons ⟨_, rfl, fun a w hE hH => ?_⟩ ?_
        ·
          obtain ⟨v136, e136, g136⟩ := hH.dep 10 136 rfl (by kernel_rfl)
          have q136 : v136 = .bool false := g136
          subst q136
          exact Or.inr ⟨wanted_off rfl rfl rfl e136, rfl⟩
        refine stepE_cons ⟨_, rfl, fun a w hE hH => ?_⟩ ?_
        ·
          obtain ⟨v136, e136, g136⟩ := hH.dep 10 136 rfl (by kernel_rfl)
          have q136 : v136 = .bool false := g136
          subst q136
          obtain ⟨v148, e148, g148⟩ := hH.dep 22 148 rfl (by kernel_rfl)
          have q148 : v148 = undef := g148
          subst q148
          exact Or.inl ⟨rfl, goodE_pick _ (.bool false) rfl (eval_of e136) (by simp [Act.eval, e136, e148]) rfl⟩
        exact stepE_nil
      rintro vals wz hE hV
      have k149 : vals 23 = .bool false := hV 23 (by simp) rfl
      simp only [List.map_cons, List.map_nil, putAll, Act.put, List.setIfInBounds_toArray, List.set_cons_zero, List.set_cons_succ, k149]
      have HE6 := Aside0.mk (HE5.out.trans ((Ext.to_drew _).trans hE))
      clear hE hV k149
      go_wp2_with fail
      go_meet
      case rel => exact ⟨HE6.out, rfl⟩
    · go_wp2_with fail
      refine ext_region 24 [(0, 126), (1, 127), (2, 128), (3, 129), (4, 130), (5, 131), (6, 132), (7, 133), (8, 134), (9, 135), (10, 136), (11, 137), (12, 138), (13, 139), (14, 140), (15, 141), (16, 142), (17, 143), (18, 144), (19, 145), (20, 146), (21, 147), (22, 148), (23, 149)] [0, 1, 2, 3, 4, 5, 6, 7, 8, 9, 10, 11, 12, 13, 14, 15, 16, 17, 18, 19, 20, 21, 22, 23] (fun i w v => match i with | 0 => v = .int .i64 k | 1 => v = .slice A0 la.length c0 | 2 => v = .int .i64 la.length | 3 => v = .bool false | 4 => v = .bool false | 5 => v = undef | 6 => v = undef | 7 => v = undef | 8 => v = undef | 9 => v = .bool false | 10 => v = .bool false | 11 => v = undef | 12 => v = undef | 13 => v = undef | 14 => v = undef | 15 => v = undef | 16 => v = undef | 17 => v = undef | 18 => v = undef | 19 => v = undef | 20 => v = undef | 21 => v = undef | 22 => v = undef | 23 => v = .bool false | _ => True) (by kernel_rfl) (by kernel_rfl) (by rfl) rfl ?mono9c ?steps9c ?fin9c
      case mono9c =>
        intro i w w' v h hE
        match i with
        | 0 => exact h
        | 1 => exact h
        | 2 => exact h
        | 3 => exact h
        | 4 => exact h
        | 5 => exact h
        | 6 => exact h
        | 7 => exact h
        | 8 => exact h
        | 9 => exact h
        | 10 => exact h
        | 11 => exact h
        | 12 => exact h
        | 13 => exact h
        | 14 => exact h
        | 15 => exact h
        | 16 => exact h
        | 17 => exact h
        | 18 => exact h
        | 19 => exact h
        | 20 => exact h
        | 21 => exact h
        | 22 => exact h
        | 23 => exact h
        | _ + 24 => trivial
      case steps9c =>
        refine stepE_cons ⟨_, rfl, fun a w hE hH => ?_⟩ ?_
        ·
          have e10 : a.tmps[10]? = some (.int .i64 k) := hH.old 10 rfl
          exact Or.inl ⟨rfl, goodE_move _ rfl (eval_of e10) rfl⟩
        refine stepE_cons ⟨_, rfl, fun a w hE hH => ?_⟩ ?_
        ·
          have e0 : a.tmps[0]? = some (.slice A0 la.length c0) := hH.old 0 rfl
          exact Or.inl ⟨rfl, goodE_move _ rfl (eval_of e0) rfl⟩
        refine stepE_cons ⟨_, rfl, fun a w hE hH => ?_⟩ ?_
        ·
          obtain ⟨v127, e127, g127⟩ := hH.dep 1 127 rfl (by kernel_rfl)
          have q127 : v127 = .slice A0 la.length c0 := g127
          subst q127
          exact Or.inl ⟨rfl, goodE_val (.int .i64 la.length) (by simp [execOp, Act.eval, e127, go_sem]) rfl⟩
        refine stepE_cons ⟨_, rfl, fun a w hE hH => ?_⟩ ?_
        ·
          obtain ⟨v126, e126, g126⟩ := hH.dep 0 126 rfl (by kernel_rfl)
          have q126 : v126 = .int .i64 k := g126
          subst q126
          obtain ⟨v128, e128, g128⟩ := hH.dep 2 128 rfl (by kernel_rfl)
          have q128 : v128 = .int .i64 la.length := g128
          subst q128
          exact Or.inl ⟨(rfl), goodE_val (.bool false) (by simp [execOp, Act.eval, e126, e128, go_sem]; omega) rfl⟩
        refine stepE_cons ⟨_, rfl, fun a w hE hH => ?_⟩ ?_
        ·
          obtain ⟨v129, e129, g129⟩ := hH.dep 3 129 rfl (by kernel_rfl)
          exact Or.inl ⟨rfl, goodE_move v129 rfl (eval_of e129) g129⟩
        refine stepE_cons ⟨_, rfl, fun a w hE hH => ?_⟩ ?_
        ·
          obtain ⟨v130, e130, g130⟩ := hH.dep 4 130 rfl (by kernel_rfl)
          have q130 : v130 = .bool false := g130
          subst q130
          exact Or.inr ⟨wanted_off rfl rfl rfl e130, rfl⟩
        refine stepE_cons ⟨_, rfl, fun a w hE hH => ?_⟩ ?_
        ·
          obtain ⟨v130, e130, g130⟩ := hH.dep 4 130 rfl (by kernel_rfl)
          have q130 : v130 = .bool false := g130
          subst q130
          exact Or.inr ⟨wanted_off rfl rfl rfl e130, rfl⟩
        refine stepE_cons ⟨_, rfl, fun a w hE hH => ?_⟩ ?_
        ·
          obtain ⟨v130, e130, g130⟩ := hH.dep 4 130 rfl (by kernel_rfl)
          have q130 : v130 = .bool false := g130
          subst q130
          exact Or.inr ⟨wanted_off rfl rfl rfl e130, rfl⟩
        refine stepE_cons ⟨_, rfl, fun a w hE hH => ?_⟩ ?_
        ·
          obtain ⟨v130, e130, g130⟩ := hH.dep 4 130 rfl (by kernel_rfl)
          have q130 : v130 = .bool false := g130
          subst q130
          exact Or.inr ⟨wanted_off rfl rfl rfl e130, rfl⟩
        refine stepE_cons ⟨_, rfl, fun a w hE hH => ?_⟩ ?_
        ·
          obtain ⟨v130, e130, g130⟩ := hH.dep 4 130 rfl (by kernel_rfl)
          have q130 : v130 = .bool false := g130
          subst q130
          obtain ⟨v134, e134, g134⟩ := hH.dep 8 134 rfl (by kernel_rfl)
          have q134 : v134 = undef := g134
          subst q134
          exact Or.inl ⟨rfl, goodE_pick _ (.bool false) rfl (eval_of e130) (by simp [Act.eval, e130, e134]) rfl⟩
        refine stepE_cons ⟨_, rfl, fun a w hE hH => ?_⟩ ?_
        ·
          obtain ⟨v135, e135, g135⟩ := hH.dep 9 135 rfl (by kernel_rfl)
          exact Or.inl ⟨rfl, goodE_move v135 rfl (eval_of e135) g135⟩
        refine stepE_cons ⟨_, rfl, fun a w hE hH => ?_⟩ ?_
        ·
          obtain ⟨v136, e136, g136⟩ := hH.dep 10 136 rfl (by kernel_rfl)
          have q136 : v136 = .bool false := g136
          subst q136
          exact Or.inr ⟨wanted_off rfl rfl rfl e136, rfl⟩
        refine stepE_cons ⟨_, rfl, fun a w hE hH => ?_⟩ ?_
        ·
          obtain ⟨v136, e136, g136⟩ := hH.dep 10 136 rfl (by kernel_rfl)
          have q136 : v136 = .bool false := g136
          subst q136
          exact Or.inr ⟨wanted_off rfl rfl rfl e136, rfl⟩
        refine stepE_cons ⟨_, rfl, fun a w hE hH => ?_⟩ ?_
        ·
          obtain ⟨v136, e136, g136⟩ := hH.dep 10 136 rfl (by kernel_rfl)
          have q136 : v136 = .bool false := g136
          subst q136
          exact Or.inr ⟨wanted_off rfl rfl rfl e136, rfl⟩
        refine stepE_cons ⟨_, rfl, fun a w hE hH => ?_⟩ ?_
        ·
          obtain ⟨v136, e136, g136⟩ := hH.dep 10 136 rfl (by kernel_rfl)
          have q136 : v136 = .bool false := g136
          subst q136
          exact Or.inr ⟨wanted_off rfl rfl rfl e136, rfl⟩
        refine stepE_cons ⟨_, rfl, fun a w hE hH => ?_⟩ ?_
        ·
          obtain ⟨v136, e136, g136⟩ := hH.dep 10 136 rfl (by kernel_rfl)
          have q136 : v136 = .bool false := g136
          subst q136
          exact Or.inr ⟨wanted_off rfl rfl rfl e136, rfl⟩
        refine stepE_cons ⟨_, rfl, fun a w hE hH => ?_⟩ ?_
        ·
          obtain ⟨v136, e136, g136⟩ := hH.dep 10 136 rfl (by kernel_rfl)
          have q136 : v136 = .bool false := g136
          subst q136
          exact Or.inr ⟨wanted_off rfl rfl rfl e136, rfl⟩
        refine stepE_cons ⟨_, rfl, fun a w hE hH => ?_⟩ ?_
        ·
          obtain ⟨v136, e136, g136⟩ := hH.dep 10 136 rfl (by kernel_rfl)
          have q136 : v136 = .bool false := g136
          subst q136
          exact Or.inr ⟨wanted_off rfl rfl rfl e136, rfl⟩
        refine stepE_cons ⟨_, rfl, fun a w hE hH => ?_⟩ ?_
        ·
          obtain ⟨v136, e136, g136⟩ := hH.dep 10 136 rfl (by kernel_rfl)
          have q136 : v136 = .bool false := g136
          subst q136
          exact Or.inr ⟨wanted_off rfl rfl rfl e136, rfl⟩
        refine stepE_cons ⟨_, rfl, fun a w hE hH => ?_⟩ ?_
        ·
          obtain ⟨v136, e136, g136⟩ := hH.dep 10 136 rfl (by kernel_rfl)
          have q136 : v136 = .bool false := g136
          subst q136
          exact Or.inr ⟨wanted_off rfl rfl rfl e136, rfl⟩
        refine stepE_cons ⟨_, rfl, fun a w hE hH => ?_⟩ ?_
        ·
          obtain ⟨v136, e136, g136⟩ := hH.dep 10 136 rfl (by kernel_rfl)
          have q136 : v136 = .bool false := g136
          subst q136
          exact Or.inr ⟨wanted_off rfl rfl rfl e136, rfl⟩
        refine stepE_cons ⟨_, rfl, fun a w hE hH => ?_⟩ ?_
        ·
          obtain ⟨v136, e136, g136⟩ := hH.dep 10 136 rfl (by kernel_rfl)
          have q136 : v136 = .bool false := g136
          subst q136
          exact Or.inr ⟨wanted_off rfl rfl rfl e136, rfl⟩
        refine stepE_cons ⟨_, rfl, fun a w hE hH => ?_⟩ ?_
        ·
          obtain ⟨v136, e136, g136⟩ := hH.dep 10 136 rfl (by kernel_rfl)
          have q136 : v136 = .bool false := g136
          subst q136
          exact Or.inr ⟨wanted_off rfl rfl rfl e136, rfl⟩
        refine stepE_cons ⟨_, rfl, fun a w hE hH => ?_⟩ ?_
        ·
          obtain ⟨v136, e136, g136⟩ := hH.dep 10 136 rfl (by kernel_rfl)
          have q136 : v136 = .bool false := g136
          subst q136
          obtain ⟨v148, e148, g148⟩ := hH.dep 22 148 rfl (by kernel_rfl)
          have q148 : v148 = undef := g148
          subst q148
          exact Or.inl ⟨rfl, goodE_pick _ (.bool false) rfl (eval_of e136) (by simp [Act.eval, e136, e148]) rfl⟩
        exact stepE_nil
      rintro vals wz hE hV
      have k149 : vals 23 = .bool false := hV 23 (by simp) rfl
      simp only [List.map_cons, List.map_nil, putAll, Act.put, List.setIfInBounds_toArray, List.set_cons_zero, List.set_cons_succ, k149]
      have HE6 := Aside0.mk (HE5.out.trans ((Ext.to_drew _).trans hE))
      clear hE hV k149
      go_wp2_with fail
      go_meet
      case rel => exact ⟨HE6.out, rfl⟩
  case rest =>
  obtain ⟨hE, rfl⟩ := hcut
  have HE6 := Aside0.mk hE
  clear hE HE5
  go_wp2_with fail
  refine (within_calls _ A2 A0 A1 c2 c0 c1 lc la lb false (HC.out.ext HE6.out) (HA.out.ext HE6.out) (HB.out.ext HE6.out)).mono ?_
  rintro e w7 ⟨rfl, hE7⟩
  rw [show withS lc la lb false = (decide (Z ≤ 0) && decide (0 < Y)) by unfold withS; rw [← HZ.out, cmp_neg lb lc, ← HY.out]; simp]
  have HE7 := Aside0.mk (HE6.out.trans hE7)
  clear hE7
  go_wp2_with fail
  refine (within_calls w7 A2 A1 none c2 c1 0 lc lb [] true (HC.out.ext HE7.out) (HB.out.ext HE7.out) (Rs.none w7)).mono ?_
  rintro e w8 ⟨rfl, hE8⟩
  rw [show withS lc lb [] true = decide (Y ≤ 0) by unfold withS; rw [← HY.out]; simp]
  have HE8 := Aside0.mk (HE7.out.trans hE8)
  clear hE8
  go_wp2_with fail
  refine (within_calls w8 A2 A0 none c2 c0 0 lc la [] true (HC.out.ext HE8.out) (HA.out.ext HE8.out) (Rs.none w8)).mono ?_
  rintro e w9 ⟨rfl, hE9⟩
  rw [show withS lc la [] true = decide (Z ≤ 0) by unfold withS; rw [← HZ.out]; simp]
  have HE9 := Aside0.mk (HE8.out.trans hE9)
  clear hE9
  by_cases hz : Z ≤ 0
  · by_cases hy : Y ≤ 0
    · have hy' : ¬ (0 < Y) := by omega
      go_wp2_with fail
      go_ret
      exact ⟨rfl, HE9.out⟩
    · have hy' : 0 < Y := by omega
      go_wp2_with fail
      go_ret
      exact ⟨rfl, HE9.out⟩
  · by_cases hy : Y ≤ 0
    · have hy' : ¬ (0 < Y) := by omega
      go_wp2_with fail
      go_ret
      exact ⟨rfl, HE9.out⟩
    · have hy' : 0 < Y := by omega
      go_wp2_with fail
      go_ret
      exact ⟨rfl, HE9.out⟩
end Go.Proofs.YthiedcebneejjaaDoor.Ord
