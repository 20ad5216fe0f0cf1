
import Derived.Test.YthhemephaabblaaGreatDoorZDm
import Derived.Test.YthhemephaabblaaGreatDoorZDl
namespace Go.Proofs.YthhemephaabblaaGreatDoor.Hq
open Go.RowKit Go.Proofs.YthhemephaabblaaGreatDoorW.PrintWords Go.Proofs.YthhemephaabblaaGreatDoorW.PrintLast Go.Proofs.YthhemephaabblaaGreatDoorW.PrintMore Go.Proofs.YthhemephaabblaaGreatDoor Go.Proofs.YthhemephaabblaaGreatDoor.Q Go.Proofs.YthhemephaabblaaGreatDoor.R
set_option linter.unusedVariables false
set_option linter.unusedSimpArgs false
theorem asked_calls (q : Qry) (a : ByteArray) (A5 : Option Addr) (c5 : Nat) (A7 : Option Addr) (c7 : Nat) (w : World) (h5 : Kd.C Kd.string w A5 q.cols.length (q.cols.map strB)) (hc5 : q.cols.length ≤ c5) (h7 : Kd.C k70 w A7 q.wh.length (q.wh.map t70)) (hc7 : q.wh.length ≤ c7) (hl7 : q.wh.length ≤ 2000000) :
  Calls Tryz.prog 60 #[.agg #[.slice A5 q.cols.length c5, .string (strB q.tab), .slice A7 q.wh.length c7, .string (strB q.ord), .bool q.down, .int .i64 q.lim], .string a] w fun e w' => e = .returned (.tuple #[.string (askV (askL q.wh a.toList)).1, .bool (askV (askL q.wh a.toList)).2]) ∧ Ext w w' := by
 have hf : cairnref32_Asked.f 2000001 (q.cols.map strB) (strB q.tab) (q.wh.map t70) (strB q.ord) q.down q.lim a = some ((askV (askL q.wh a.toList)).1, (askV (askL q.wh a.toList)).2) := by
  have := rasked_l0 q.wh a (by omega) (q.cols.map strB) (strB q.tab) (strB q.ord) q.down q.lim _ 2000001 0 rfl (by omega) (by omega)
  rw [show ((0 : Nat) : Int) = 0 from rfl, List.drop_zero] at this
  exact this
 have := cairnref32_Asked.calls 2000001 A5 c5 (q.cols.map strB) (strB q.tab) A7 c7 (q.wh.map t70) (strB q.ord) q.down q.lim a _ _ w (by rw [List.length_map]; exact h5) (by rw [List.length_map]; exact hc5) (by rw [List.length_map]; exact h7) (by rw [List.length_map]; exact hc7) hf
 rw [List.length_map, List.length_map] at this
 exact this.mono (fun e w' h => ⟨h.1, h.2⟩)
set_option maxRecDepth 100000 in
set_option maxHeartbeats 3200000 in
theorem count_calls (nm : ByteArray) (cols : List ByteArray) (ks : Int) (v3 : Value) (q : Qry) (l : List Int) (A1 : Option Addr) (c1 : Nat) (A2 : Option Addr) (c2 : Nat) (A5 : Option Addr) (c5 : Nat) (A7 : Option Addr) (c7 : Nat) (w : World)
  (h1 : Kd.C Kd.string w A1 cols.length cols) (hc1 : cols.length ≤ c1) (h2 : Kd.C (Kd.int .i64) w A2 l.length l) (hc2 : l.length ≤ c2) (h5 : Kd.C Kd.string w A5 q.cols.length (q.cols.map strB)) (hc5 : q.cols.length ≤ c5) (h7 : Kd.C k70 w A7 q.wh.length (q.wh.map t70)) (hc7 : q.wh.length ≤ c7) (h3 : ∃ A n c, v3 = .slice A n c) (hl : l.length ≤ 2000000) (hl7 : q.wh.length ≤ 2000000) :
  Calls Tryz.prog 37 #[.agg #[.string nm, .slice A1 cols.length c1, .int .i64 ks, v3], .agg #[.slice A5 q.cols.length c5, .string (strB q.tab), .slice A7 q.wh.length c7, .string (strB q.ord), .bool q.down, .int .i64 q.lim], .slice A2 l.length c2] w fun e w' => e = .returned (.int .i64 ((valsL cols q.wh l).length : Nat)) ∧ Ext w w' := by
 have H1 := Aside0.mk h1
 have H2 := Aside0.mk h2
 have H5 := Aside0.mk h5
 have H7 := Aside0.mk h7
 obtain ⟨A3, n3, c3, rfl⟩ := h3
 clear h1 h2 h5 h7
 go_enter Tryz.func37, Tryz.ntmps37
 go_upto_region 1 with fail
 obtain ⟨w2, hw2⟩ : ∃ W, W = (w.alloc (.cells #[.string nm, .slice A1 cols.length c1, .int .i64 ks, .slice A3 n3 c3] 49)).alloc (.cells #[.slice A5 q.cols.length c5, .string (strB q.tab), .slice A7 q.wh.length c7, .string (strB q.ord), .bool q.down, .int .i64 q.lim] 31) := ⟨_, rfl⟩
 have hE2 : Ext w w2 := by rw [hw2]; exact ((Ext.refl w).alloc _).alloc _
 have hzs : w2.heap[w.heap.size]? = some (.cells #[.string nm, .slice A1 cols.length c1, .int .i64 ks, .slice A3 n3 c3] 49 (0, 0)) := by rw [hw2]; exact heap_alloc2_old w _ _
 have hza : w2.heap[w.heap.size + 1]? = some (.cells #[.slice A5 q.cols.length c5, .string (strB q.tab), .slice A7 q.wh.length c7, .string (strB q.ord), .bool q.down, .int .i64 q.lim] 31 (0, 0)) := by rw [hw2]; have := heap_alloc_new (w.alloc (.cells #[.string nm, .slice A1 cols.length c1, .int .i64 ks, .slice A3 n3 c3] 49)) (.cells #[.slice A5 q.cols.length c5, .string (strB q.tab), .slice A7 q.wh.length c7, .string (strB q.ord), .bool q.down, .int .i64 q.lim] 31); simpa using this
 rw [← hw2]
 obtain ⟨sb, hsb⟩ : ∃ n, n = w.heap.size := ⟨_, rfl⟩
 obtain ⟨ab, hab⟩ : ∃ n, n = w.heap.size + 1 := ⟨_, rfl⟩
 rw [← hab] at hza ⊢
 rw [← hsb] at hzs ⊢
 have HZS := Aside0.mk hzs
 have HZA := Aside0.mk hza
 have HE2 := Aside0.mk hE2
 clear hw2 hab hsb hzs hza hE2
 go_wp2_with fail
 go_loopw [7] (fun s7 W => ∃ j : Nat, j ≤ l.length ∧ s7 = .int .i64 j ∧ Ext w2 W ∧ (valsL cols q.wh l).length = j + (valsL cols q.wh (l.drop j)).length) (fun v _ => l.length - (intOf v).toNat)
 case atStart => exact ⟨0, by omega, rfl, Ext.refl _, by simp⟩
 case round =>
 obtain ⟨wo, hwo⟩ : ∃ wo : World, wo = wr := ⟨_, rfl⟩
 subst hwo
 obtain ⟨j, hj, rfl, hX, hv⟩ := hrel
 have HX := Aside0.mk hX
 have HXX := Aside0.mk (HE2.out.trans hX)
 have HV := Aside0.mk hv
 clear hX hv
 by_cases hlt : j < l.length
 ·
  obtain ⟨a2, hA2, hc0⟩ := (intC_cells (Kd.C_below H2.out HXX.out)).2 (by omega)
  subst hA2
  obtain ⟨x, hx⟩ : ∃ x, x = l[j] := ⟨_, rfl⟩
  have HCX : Aside0 (wo.cell? (a2.add j) = some (.int .i64 x)) := ⟨hc0 j (iv x) (by rw [List.getElem?_map, List.getElem?_eq_getElem hlt, hx]; rfl)⟩
  have HZ1 : Aside0 (wo.cell? ⟨sb, 1, none⟩ = some (.slice A1 cols.length c1)) := ⟨cell_ext HX.out (blk_cell HZS.out 1)⟩
  have HLT := Aside0.mk (show (j : Int) < l.length by omega)
  have HLT2 := Aside0.mk (show (0 : Int) ≤ (j : Int) by omega)
  obtain ⟨m2, hm2⟩ : ∃ m, m = decide (0 ≤ x) := ⟨_, rfl⟩
  obtain ⟨D3, hd3⟩ : ∃ m, m = decide (x < (cols.length : Int)) := ⟨_, rfl⟩
  obtain ⟨m3, hm3⟩ : ∃ m, m = (m2 && D3) := ⟨_, rfl⟩
  have HM2 := Aside0.mk hm2.symm
  have HD3 := Aside0.mk hd3.symm
  have HM3 := Aside0.mk hm3
  have hval : valsL cols q.wh (l.drop j) = if 0 ≤ x ∧ x < (cols.length : Int) then (match askL q.wh (rdOf ByteArray.empty cols x).toList with
   | some v => strB v :: valsL cols q.wh (l.drop (j + 1))
   | none => []) else [] := by
   rw [List.drop_eq_getElem_cons hlt, valsL, ← hx]
   rfl
  have HVAL := Aside0.mk hval
  have hm4 : m3 = decide (0 ≤ x ∧ x < (cols.length : Int)) := by rw [hm3, hm2, hd3]; simp
  have HM4 := Aside0.mk hm4
  clear hc0 hx hm2 hd3 hm3 hval hm4
  go_upto_region 2 with fail
  refine ext_region 21 [(0, 10), (1, 11), (2, 12), (3, 13), (4, 14), (5, 15), (6, 16), (7, 17), (8, 18), (9, 19), (10, 20), (11, 21), (12, 22), (13, 23), (14, 24), (15, 25), (16, 26), (17, 27), (18, 28), (19, 29), (20, 30)] [0, 1, 2, 3, 4, 5, 6, 7, 8, 9, 10, 11, 12, 13, 14, 15, 16, 17, 18, 19, 20] (fun i w v => match i with | 0 => v = .int .i64 (j : Nat) | 1 => v = .slice (some a2) l.length c2 | 2 => v = .int .i64 (l.length : Nat) | 3 => v = .bool true | 4 => v = .bool true | 5 => v = .slice (some a2) l.length c2 | 6 => v = .int .i64 (j : Nat) | 7 => v = .pointer (some (a2.add j)) | 8 => v = .int .i64 x | 9 => v = .bool m2 | 10 => v = .bool m2 | 11 => v = .bool m2 | 12 => v = if m2 then .slice (some a2) l.length c2 else undef | 13 => v = if m2 then .int .i64 (j : Nat) else undef | 14 => v = if m2 then .pointer (some (a2.add j)) else undef | 15 => v = if m2 then .int .i64 x else undef | 16 => v = if m2 then .pointer (some ⟨sb, 1, none⟩) else undef | 17 => v = if m2 then .slice A1 cols.length c1 else undef | 18 => v = if m2 then .int .i64 (cols.length : Nat) else undef | 19 => v = if m2 then .bool D3 else undef | 20 => v = .bool m3 | _ => True) (by kernel_rfl) (by kernel_rfl) (by rfl) rfl ?mono2 ?steps2 ?fin2
  case mono2 =>
   intro i w w' v h hE
   match i with
   | 0 => exact h
   | 1 => exact h
   | 2 => exact h
   | 3 => exact h
   | 4 => exact h
   | 5 => exact h
   | 6 => exact h
   | 7 => exact h
   | 8 => exact h
   | 9 => exact h
   | 10 => exact h
   | 11 => exact h
   | 12 => exact h
   | 13 => exact h
   | 14 => exact h
   | 15 => exact h
   | 16 => exact h
   | 17 => exact h
   | 18 => exact h
   | 19 => exact h
   | 20 => exact h
   | _ + 21 => trivial
  case steps2 =>
   refine stepE_cons ⟨_, rfl, fun a w hE hH => ?_⟩ ?_
   ·
    have e7 : a.tmps[7]? = some (.int .i64 (j : Nat)) := hH.old 7 rfl
    exact Or.inl ⟨rfl, goodE_move _ rfl (eval_of e7) rfl⟩
   refine stepE_cons ⟨_, rfl, fun a w hE hH => ?_⟩ ?_
   ·
    have e2 : a.tmps[2]? = some (.slice (some a2) l.length c2) := hH.old 2 rfl
    exact Or.inl ⟨rfl, goodE_move _ rfl (eval_of e2) rfl⟩
   refine stepE_cons ⟨_, rfl, fun a w hE hH => ?_⟩ ?_
   ·
    obtain ⟨v11, e11, g11⟩ := hH.dep 1 11 rfl (by kernel_rfl)
    have q11 : v11 = .slice (some a2) l.length c2 := g11
    subst q11
    exact Or.inl ⟨rfl, goodE_val (.int .i64 (l.length : Nat)) (by simp [execOp, Act.eval, e11, go_sem]) rfl⟩
   refine stepE_cons ⟨_, rfl, fun a w hE hH => ?_⟩ ?_
   ·
    obtain ⟨v10, e10, g10⟩ := hH.dep 0 10 rfl (by kernel_rfl)
    have q10 : v10 = .int .i64 (j : Nat) := g10
    subst q10
    obtain ⟨v12, e12, g12⟩ := hH.dep 2 12 rfl (by kernel_rfl)
    have q12 : v12 = .int .i64 (l.length : Nat) := g12
    subst q12
    have hd := HLT.out
    exact Or.inl ⟨(rfl), goodE_val (.bool true) (by simp [execOp, Act.eval, e10, e12, go_sem]; omega) rfl⟩
   refine stepE_cons ⟨_, rfl, fun a w hE hH => ?_⟩ ?_
   ·
    obtain ⟨v13, e13, g13⟩ := hH.dep 3 13 rfl (by kernel_rfl)
    exact Or.inl ⟨rfl, goodE_move v13 rfl (eval_of e13) g13⟩
   refine stepE_cons ⟨_, rfl, fun a w hE hH => ?_⟩ ?_
   ·
    have e2 : a.tmps[2]? = some (.slice (some a2) l.length c2) := hH.old 2 rfl
    obtain ⟨v14, e14, g14⟩ := hH.dep 4 14 rfl (by kernel_rfl)
    have q14 : v14 = .bool true := g14
    subst q14
    exact Or.inl ⟨wanted_on rfl rfl rfl e14, goodE_move _ rfl (eval_of e2) rfl⟩
   refine stepE_cons ⟨_, rfl, fun a w hE hH => ?_⟩ ?_
   ·
    have e7 : a.tmps[7]? = some (.int .i64 (j : Nat)) := hH.old 7 rfl
    obtain ⟨v14, e14, g14⟩ := hH.dep 4 14 rfl (by kernel_rfl)
    have q14 : v14 = .bool true := g14
    subst q14
    exact Or.inl ⟨wanted_on rfl rfl rfl e14, goodE_move _ rfl (eval_of e7) rfl⟩
   refine stepE_cons ⟨_, rfl, fun a w hE hH => ?_⟩ ?_
   ·
    obtain ⟨v15, e15, g15⟩ := hH.dep 5 15 rfl (by kernel_rfl)
    have q15 : v15 = .slice (some a2) l.length c2 := g15
    subst q15
    obtain ⟨v16, e16, g16⟩ := hH.dep 6 16 rfl (by kernel_rfl)
    have q16 : v16 = .int .i64 (j : Nat) := g16
    subst q16
    obtain ⟨v14, e14, g14⟩ := hH.dep 4 14 rfl (by kernel_rfl)
    have q14 : v14 = .bool true := g14
    subst q14
    exact Or.inl ⟨(wanted_on rfl rfl rfl e14), goodE_val (.pointer (some (a2.add j))) (by simp [execOp, Act.eval, e15, e16, HLT.out, HLT2.out, go_sem]) rfl⟩
   refine stepE_cons ⟨_, rfl, fun a w hE hH => ?_⟩ ?_
   ·
    obtain ⟨v17, e17, g17⟩ := hH.dep 7 17 rfl (by kernel_rfl)
    have q17 : v17 = .pointer (some (a2.add j)) := g17
    subst q17
    obtain ⟨v14, e14, g14⟩ := hH.dep 4 14 rfl (by kernel_rfl)
    have q14 : v14 = .bool true := g14
    subst q14
    have hc := cell_ext ((Ext.to_drew _).trans hE) HCX.out
    exact Or.inl ⟨(wanted_on rfl rfl rfl e14), goodE_val (.int .i64 x) (by simp [execOp, Act.eval, e17, hc, go_sem]) rfl⟩
   refine stepE_cons ⟨_, rfl, fun a w hE hH => ?_⟩ ?_
   ·
    obtain ⟨v18, e18, g18⟩ := hH.dep 8 18 rfl (by kernel_rfl)
    have q18 : v18 = .int .i64 x := g18
    subst q18
    obtain ⟨v14, e14, g14⟩ := hH.dep 4 14 rfl (by kernel_rfl)
    have q14 : v14 = .bool true := g14
    subst q14
    have hd := HM2.out
    exact Or.inl ⟨(wanted_on rfl rfl rfl e14), goodE_val (.bool m2) (by simp [execOp, Act.eval, e18, hd, go_sem]) rfl⟩
   refine stepE_cons ⟨_, rfl, fun a w hE hH => ?_⟩ ?_
   ·
    obtain ⟨v14, e14, g14⟩ := hH.dep 4 14 rfl (by kernel_rfl)
    have q14 : v14 = .bool true := g14
    subst q14
    obtain ⟨v19, e19, g19⟩ := hH.dep 9 19 rfl (by kernel_rfl)
    have q19 : v19 = .bool m2 := g19
    subst q19
    exact Or.inl ⟨(rfl), goodE_pick true (.bool m2) rfl (eval_of e14) (by simp [Act.eval, e19]) rfl⟩
   refine stepE_cons ⟨_, rfl, fun a w hE hH => ?_⟩ ?_
   ·
    obtain ⟨v20, e20, g20⟩ := hH.dep 10 20 rfl (by kernel_rfl)
    exact Or.inl ⟨rfl, goodE_move v20 rfl (eval_of e20) g20⟩
   refine stepE_cons ⟨_, rfl, fun a w hE hH => ?_⟩ ?_
   ·
    have e2 : a.tmps[2]? = some (.slice (some a2) l.length c2) := hH.old 2 rfl
    obtain ⟨v21, e21, g21⟩ := hH.dep 11 21 rfl (by kernel_rfl)
    have q21 : v21 = .bool m2 := g21
    subst q21
    cases m2 with
    | false => exact Or.inr ⟨wanted_off rfl rfl rfl e21, rfl⟩
    | true => exact Or.inl ⟨wanted_on rfl rfl rfl e21, goodE_move (.slice (some a2) l.length c2) rfl (eval_of e2) rfl⟩
   refine stepE_cons ⟨_, rfl, fun a w hE hH => ?_⟩ ?_
   ·
    have e7 : a.tmps[7]? = some (.int .i64 (j : Nat)) := hH.old 7 rfl
    obtain ⟨v21, e21, g21⟩ := hH.dep 11 21 rfl (by kernel_rfl)
    have q21 : v21 = .bool m2 := g21
    subst q21
    cases m2 with
    | false => exact Or.inr ⟨wanted_off rfl rfl rfl e21, rfl⟩
    | true => exact Or.inl ⟨wanted_on rfl rfl rfl e21, goodE_move (.int .i64 (j : Nat)) rfl (eval_of e7) rfl⟩
   refine stepE_cons ⟨_, rfl, fun a w hE hH => ?_⟩ ?_
   ·
    obtain ⟨v22, e22, g22⟩ := hH.dep 12 22 rfl (by kernel_rfl)
    have q22 : v22 = if m2 then .slice (some a2) l.length c2 else undef := g22
    subst q22
    obtain ⟨v23, e23, g23⟩ := hH.dep 13 23 rfl (by kernel_rfl)
    have q23 : v23 = if m2 then .int .i64 (j : Nat) else undef := g23
    subst q23
    obtain ⟨v21, e21, g21⟩ := hH.dep 11 21 rfl (by kernel_rfl)
    have q21 : v21 = .bool m2 := g21
    subst q21
    cases m2 with
    | false => exact Or.inr ⟨wanted_off rfl rfl rfl e21, rfl⟩
    | true => exact Or.inl ⟨wanted_on rfl rfl rfl e21, goodE_val (.pointer (some (a2.add j))) (by simp [execOp, Act.eval, e22, e23, HLT.out, HLT2.out, go_sem]) rfl⟩
   refine stepE_cons ⟨_, rfl, fun a w hE hH => ?_⟩ ?_
   ·
    obtain ⟨v24, e24, g24⟩ := hH.dep 14 24 rfl (by kernel_rfl)
    have q24 : v24 = if m2 then .pointer (some (a2.add j)) else undef := g24
    subst q24
    obtain ⟨v21, e21, g21⟩ := hH.dep 11 21 rfl (by kernel_rfl)
    have q21 : v21 = .bool m2 := g21
    subst q21
    have hc := cell_ext ((Ext.to_drew _).trans hE) HCX.out
    cases m2 with
    | false => exact Or.inr ⟨wanted_off rfl rfl rfl e21, rfl⟩
    | true => exact Or.inl ⟨wanted_on rfl rfl rfl e21, goodE_val (.int .i64 x) (by simp [execOp, Act.eval, e24, hc, go_sem]) rfl⟩
   refine stepE_cons ⟨_, rfl, fun a w hE hH => ?_⟩ ?_
   ·
    have e3 : a.tmps[3]? = some (.pointer (some ⟨sb, 0, none⟩)) := hH.old 3 rfl
    obtain ⟨v21, e21, g21⟩ := hH.dep 11 21 rfl (by kernel_rfl)
    have q21 : v21 = .bool m2 := g21
    subst q21
    cases m2 with
    | false => exact Or.inr ⟨wanted_off rfl rfl rfl e21, rfl⟩
    | true => exact Or.inl ⟨wanted_on rfl rfl rfl e21, goodE_val (.pointer (some ⟨sb, 1, none⟩)) (by simp [execOp, Act.eval, e3, go_sem]) rfl⟩
   refine stepE_cons ⟨_, rfl, fun a w hE hH => ?_⟩ ?_
   ·
    obtain ⟨v26, e26, g26⟩ := hH.dep 16 26 rfl (by kernel_rfl)
    have q26 : v26 = if m2 then .pointer (some ⟨sb, 1, none⟩) else undef := g26
    subst q26
    obtain ⟨v21, e21, g21⟩ := hH.dep 11 21 rfl (by kernel_rfl)
    have q21 : v21 = .bool m2 := g21
    subst q21
    have hc := cell_ext ((Ext.to_drew _).trans hE) HZ1.out
    cases m2 with
    | false => exact Or.inr ⟨wanted_off rfl rfl rfl e21, rfl⟩
    | true => exact Or.inl ⟨wanted_on rfl rfl rfl e21, goodE_val (.slice A1 cols.length c1) (by simp [execOp, Act.eval, e26, hc, go_sem]) rfl⟩
   refine stepE_cons ⟨_, rfl, fun a w hE hH => ?_⟩ ?_
   ·
    obtain ⟨v27, e27, g27⟩ := hH.dep 17 27 rfl (by kernel_rfl)
    have q27 : v27 = if m2 then .slice A1 cols.length c1 else undef := g27
    subst q27
    obtain ⟨v21, e21, g21⟩ := hH.dep 11 21 rfl (by kernel_rfl)
    have q21 : v21 = .bool m2 := g21
    subst q21
    cases m2 with
    | false => exact Or.inr ⟨wanted_off rfl rfl rfl e21, rfl⟩
    | true => exact Or.inl ⟨wanted_on rfl rfl rfl e21, goodE_val (.int .i64 (cols.length : Nat)) (by simp [execOp, Act.eval, e27, go_sem]) rfl⟩
   refine stepE_cons ⟨_, rfl, fun a w hE hH => ?_⟩ ?_
   ·
    obtain ⟨v25, e25, g25⟩ := hH.dep 15 25 rfl (by kernel_rfl)
    have q25 : v25 = if m2 then .int .i64 x else undef := g25
    subst q25
    obtain ⟨v28, e28, g28⟩ := hH.dep 18 28 rfl (by kernel_rfl)
    have q28 : v28 = if m2 then .int .i64 (cols.length : Nat) else undef := g28
    subst q28
    obtain ⟨v21, e21, g21⟩ := hH.dep 11 21 rfl (by kernel_rfl)
    have q21 : v21 = .bool m2 := g21
    subst q21
    have hd := HD3.out
    cases m2 with
    | false => exact Or.inr ⟨wanted_off rfl rfl rfl e21, rfl⟩
    | true => exact Or.inl ⟨wanted_on rfl rfl rfl e21, goodE_val (.bool D3) (by simp [execOp, Act.eval, e25, e28, hd, go_sem]) rfl⟩
   refine stepE_cons ⟨_, rfl, fun a w hE hH => ?_⟩ ?_
   ·
    obtain ⟨v21, e21, g21⟩ := hH.dep 11 21 rfl (by kernel_rfl)
    have q21 : v21 = .bool m2 := g21
    subst q21
    obtain ⟨v29, e29, g29⟩ := hH.dep 19 29 rfl (by kernel_rfl)
    have q29 : v29 = if m2 then .bool D3 else undef := g29
    subst q29
    have hm := HM3.out
    exact Or.inl ⟨(rfl), goodE_pick m2 (.bool m3) rfl (eval_of e21) (by subst hm; cases m2 <;> simp [Act.eval, e29]) rfl⟩
   exact stepE_nil
  rintro vals wz hE hV
  have k30 : vals 20 = .bool m3 := hV 20 (by simp) rfl
  simp only [List.map_cons, List.map_nil, putAll, Act.put, List.setIfInBounds_toArray, List.set_cons_zero, List.set_cons_succ, k30]
  have HX2 : Aside0 (Ext wo wz) := ⟨(Ext.to_drew _).trans hE⟩
  clear hE hV k30
  cases m3 with
  | false =>
   have hr : (valsL cols q.wh l).length = j := by
    have h0 := HM4.out
    rw [HV.out, HVAL.out, if_neg (by simpa using h0.symm)]
    rfl
   have HR := Aside0.mk hr
   clear hr
   go_wp2_with fail
   go_ret
   exact ⟨by rw [HR.out]; rfl, HXX.out.trans HX2.out⟩
  | true =>
   have hcd : 0 ≤ x ∧ x < (cols.length : Int) := by simpa using HM4.out.symm
   obtain ⟨a1, hA1, hcy⟩ := Kd.at_string (Kd.C_below H1.out (HXX.out.trans HX2.out)) x hcd.1 hcd.2
   subst hA1
   obtain ⟨y, hy⟩ : ∃ y, y = rdOf ByteArray.empty cols x := ⟨_, rfl⟩
   rw [← hy] at hcy
   obtain ⟨yv, hyv⟩ : ∃ v, v = (askV (askL q.wh y.toList)).1 := ⟨_, rfl⟩
   obtain ⟨yb, hyb⟩ : ∃ v, v = (askV (askL q.wh y.toList)).2 := ⟨_, rfl⟩
   have HAS : Aside0 (∀ W, Ext wz W → Calls Tryz.prog 60 #[.agg #[.slice A5 q.cols.length c5, .string (strB q.tab), .slice A7 q.wh.length c7, .string (strB q.ord), .bool q.down, .int .i64 q.lim], .string y] W (fun e w' => e = .returned (.tuple #[.string yv, .bool yb]) ∧ Ext W w')) := ⟨fun W hW => by
    have := asked_calls q y A5 c5 A7 c7 W (Kd.C_below H5.out (HXX.out.trans (HX2.out.trans hW))) hc5 (Kd.C_below H7.out (HXX.out.trans (HX2.out.trans hW))) hc7 hl7
    rw [← hyv, ← hyb] at this
    exact this⟩
   have hval := HVAL.out
   rw [if_pos hcd, ← hy] at hval
   have HVAL := Aside0.mk hval
   have HYB := Aside0.mk hyb
   have HX1 := Aside0.mk hcd
   have HCY := Aside0.mk hcy
   have HCX := Aside0.mk (cell_ext HX2.out HCX.out)
   have HZ1 := Aside0.mk (cell_ext HX2.out HZ1.out)
   have HZA2 := Aside0.mk (heap_below HZA.out (HX.out.trans HX2.out))
   obtain ⟨wy, hwy⟩ : ∃ W : World, W = wz := ⟨_, rfl⟩
   subst hwy
   clear hcd hcy hy hyv hyb hval HM2 HD3 HM3 HM4
   go_upto_region 3 with fail
   refine ext_region 15 [(0, 32), (1, 33), (2, 34), (3, 35), (4, 36), (5, 37), (6, 38), (7, 39), (8, 40), (9, 41), (10, 31), (11, 42), (12, 43), (13, 8), (14, 9)] [0, 1, 2, 3, 4, 5, 6, 7, 8, 9, 10, 11, 12, 13, 14] (fun i w v => match i with | 0 => v = .agg #[.slice A5 q.cols.length c5, .string (strB q.tab), .slice A7 q.wh.length c7, .string (strB q.ord), .bool q.down, .int .i64 q.lim] | 1 => v = .pointer (some ⟨sb, 1, none⟩) | 2 => v = .slice (some a1) cols.length c1 | 3 => v = .slice (some a2) l.length c2 | 4 => v = .int .i64 (j : Nat) | 5 => v = .pointer (some (a2.add j)) | 6 => v = .int .i64 x | 7 => v = .pointer (some (a1.add x.toNat)) | 8 => v = .string y | 9 => v = .tuple #[.string yv, .bool yb] | 10 => v = .tuple #[.string yv, .bool yb] | 11 => v = .string yv | 12 => v = .bool yb | 13 => v = .string yv | 14 => v = .bool yb | _ => True) (by kernel_rfl) (by kernel_rfl) (by rfl) rfl ?mono3 ?steps3 ?fin3
   case mono3 =>
    intro i w w' v h hE
    match i with
    | 0 => exact h
    | 1 => exact h
    | 2 => exact h
    | 3 => exact h
    | 4 => exact h
    | 5 => exact h
    | 6 => exact h
    | 7 => exact h
    | 8 => exact h
    | 9 => exact h
    | 10 => exact h
    | 11 => exact h
    | 12 => exact h
    | 13 => exact h
    | 14 => exact h
    | _ + 15 => trivial
   case steps3 =>
    refine stepE_cons ⟨_, rfl, fun a w hE hH => ?_⟩ ?_
    ·
     have e4 : a.tmps[4]? = some (.pointer (some ⟨ab, 0, none⟩)) := hH.old 4 rfl
     have h0 := cell_ext ((Ext.to_drew _).trans hE) (blk_cell HZA2.out 0)
     have h1 := cell_ext ((Ext.to_drew _).trans hE) (blk_cell HZA2.out 1)
     have h2 := cell_ext ((Ext.to_drew _).trans hE) (blk_cell HZA2.out 2)
     have h3 := cell_ext ((Ext.to_drew _).trans hE) (blk_cell HZA2.out 3)
     have h4 := cell_ext ((Ext.to_drew _).trans hE) (blk_cell HZA2.out 4)
     have h5 := cell_ext ((Ext.to_drew _).trans hE) (blk_cell HZA2.out 5)
     exact Or.inl ⟨(rfl), goodE_val (.agg #[.slice A5 q.cols.length c5, .string (strB q.tab), .slice A7 q.wh.length c7, .string (strB q.ord), .bool q.down, .int .i64 q.lim]) (by simp [execOp, Act.eval, e4, h0, h1, h2, h3, h4, h5, go_sem]) rfl⟩
    refine stepE_cons ⟨_, rfl, fun a w hE hH => ?_⟩ ?_
    ·
     have e3 : a.tmps[3]? = some (.pointer (some ⟨sb, 0, none⟩)) := hH.old 3 rfl
     exact Or.inl ⟨rfl, goodE_val (.pointer (some ⟨sb, 1, none⟩)) (by simp [execOp, Act.eval, e3, go_sem]) rfl⟩
    refine stepE_cons ⟨_, rfl, fun a w hE hH => ?_⟩ ?_
    ·
     obtain ⟨v33, e33, g33⟩ := hH.dep 1 33 rfl (by kernel_rfl)
     have q33 : v33 = .pointer (some ⟨sb, 1, none⟩) := g33
     subst q33
     have hc := cell_ext ((Ext.to_drew _).trans hE) HZ1.out
     exact Or.inl ⟨(rfl), goodE_val (.slice (some a1) cols.length c1) (by simp [execOp, Act.eval, e33, hc, go_sem]) rfl⟩
    refine stepE_cons ⟨_, rfl, fun a w hE hH => ?_⟩ ?_
    ·
     have e2 : a.tmps[2]? = some (.slice (some a2) l.length c2) := hH.old 2 rfl
     exact Or.inl ⟨rfl, goodE_move _ rfl (eval_of e2) rfl⟩
    refine stepE_cons ⟨_, rfl, fun a w hE hH => ?_⟩ ?_
    ·
     have e7 : a.tmps[7]? = some (.int .i64 (j : Nat)) := hH.old 7 rfl
     exact Or.inl ⟨rfl, goodE_move _ rfl (eval_of e7) rfl⟩
    refine stepE_cons ⟨_, rfl, fun a w hE hH => ?_⟩ ?_
    ·
     obtain ⟨v35, e35, g35⟩ := hH.dep 3 35 rfl (by kernel_rfl)
     have q35 : v35 = .slice (some a2) l.length c2 := g35
     subst q35
     obtain ⟨v36, e36, g36⟩ := hH.dep 4 36 rfl (by kernel_rfl)
     have q36 : v36 = .int .i64 (j : Nat) := g36
     subst q36
     exact Or.inl ⟨(rfl), goodE_val (.pointer (some (a2.add j))) (by simp [execOp, Act.eval, e35, e36, HLT.out, HLT2.out, go_sem]) rfl⟩
    refine stepE_cons ⟨_, rfl, fun a w hE hH => ?_⟩ ?_
    ·
     obtain ⟨v37, e37, g37⟩ := hH.dep 5 37 rfl (by kernel_rfl)
     have q37 : v37 = .pointer (some (a2.add j)) := g37
     subst q37
     have hc := cell_ext ((Ext.to_drew _).trans hE) HCX.out
     exact Or.inl ⟨(rfl), goodE_val (.int .i64 x) (by simp [execOp, Act.eval, e37, hc, go_sem]) rfl⟩
    refine stepE_cons ⟨_, rfl, fun a w hE hH => ?_⟩ ?_
    ·
     obtain ⟨v34, e34, g34⟩ := hH.dep 2 34 rfl (by kernel_rfl)
     have q34 : v34 = .slice (some a1) cols.length c1 := g34
     subst q34
     obtain ⟨v38, e38, g38⟩ := hH.dep 6 38 rfl (by kernel_rfl)
     have q38 : v38 = .int .i64 x := g38
     subst q38
     exact Or.inl ⟨(rfl), goodE_val (.pointer (some (a1.add x.toNat))) (by simp [execOp, Act.eval, e34, e38, HX1.out.1, HX1.out.2, go_sem]) rfl⟩
    refine stepE_cons ⟨_, rfl, fun a w hE hH => ?_⟩ ?_
    ·
     obtain ⟨v39, e39, g39⟩ := hH.dep 7 39 rfl (by kernel_rfl)
     have q39 : v39 = .pointer (some (a1.add x.toNat)) := g39
     subst q39
     have hc := cell_ext ((Ext.to_drew _).trans hE) HCY.out
     exact Or.inl ⟨(rfl), goodE_val (.string y) (by simp [execOp, Act.eval, e39, hc, go_sem]) rfl⟩
    refine stepE_cons ⟨_, rfl, fun a w hE hH => ?_⟩ ?_
    ·
     obtain ⟨v32, e32, g32⟩ := hH.dep 0 32 rfl (by kernel_rfl)
     have q32 : v32 = .agg #[.slice A5 q.cols.length c5, .string (strB q.tab), .slice A7 q.wh.length c7, .string (strB q.ord), .bool q.down, .int .i64 q.lim] := g32
     subst q32
     obtain ⟨v40, e40, g40⟩ := hH.dep 8 40 rfl (by kernel_rfl)
     have q40 : v40 = .string y := g40
     subst q40
     exact Or.inl ⟨(rfl), goodE_call rfl #[.agg #[.slice A5 q.cols.length c5, .string (strB q.tab), .slice A7 q.wh.length c7, .string (strB q.ord), .bool q.down, .int .i64 q.lim], .string y] (by simp [Act.eval, e32, e40]) _ Tryz.func60 (by kernel_rfl) (by kernel_rfl) ((HAS.out w ((Ext.to_drew _).trans hE)).mono (fun e w' h => ⟨_, h.1, h.2, rfl⟩))⟩
    refine stepE_cons ⟨_, rfl, fun a w hE hH => ?_⟩ ?_
    ·
     obtain ⟨v41, e41, g41⟩ := hH.dep 9 41 rfl (by kernel_rfl)
     exact Or.inl ⟨rfl, goodE_move v41 rfl (eval_of e41) g41⟩
    refine stepE_cons ⟨_, rfl, fun a w hE hH => ?_⟩ ?_
    ·
     obtain ⟨v31, e31, g31⟩ := hH.dep 10 31 rfl (by kernel_rfl)
     have q31 : v31 = .tuple #[.string yv, .bool yb] := g31
     subst q31
     exact Or.inl ⟨rfl, goodE_val (.string yv) (by simp [execOp, Act.eval, e31, go_sem]) rfl⟩
    refine stepE_cons ⟨_, rfl, fun a w hE hH => ?_⟩ ?_
    ·
     obtain ⟨v31, e31, g31⟩ := hH.dep 10 31 rfl (by kernel_rfl)
     have q31 : v31 = .tuple #[.string yv, .bool yb] := g31
     subst q31
     exact Or.inl ⟨rfl, goodE_val (.bool yb) (by simp [execOp, Act.eval, e31, go_sem]) rfl⟩
    refine stepE_cons ⟨_, rfl, fun a w hE hH => ?_⟩ ?_
    ·
     obtain ⟨v42, e42, g42⟩ := hH.dep 11 42 rfl (by kernel_rfl)
     exact Or.inl ⟨rfl, goodE_assign v42 rfl (eval_of e42) g42⟩
    refine stepE_cons ⟨_, rfl, fun a w hE hH => ?_⟩ ?_
    ·
     obtain ⟨v43, e43, g43⟩ := hH.dep 12 43 rfl (by kernel_rfl)
     exact Or.inl ⟨rfl, goodE_assign v43 rfl (eval_of e43) g43⟩
    exact stepE_nil
   rintro vals wz hE hV
   have k8 : vals 13 = .string yv := hV 13 (by simp) rfl
   have k9 : vals 14 = .bool yb := hV 14 (by simp) rfl
   simp only [List.map_cons, List.map_nil, putAll, Act.put, List.setIfInBounds_toArray, List.set_cons_zero, List.set_cons_succ, k8, k9]
   have HX3 : Aside0 (Ext wy wz) := ⟨(Ext.to_drew _).trans hE⟩
   clear hE hV k8 k9
   have hln : l.length ≤ 1000000000000 := by omega
   cases yb with
   | true =>
    have HN : Aside0 ((valsL cols q.wh l).length = (j + 1) + (valsL cols q.wh (l.drop (j + 1))).length) := ⟨by
     have h0 := HYB.out
     rw [HV.out, HVAL.out]
     cases he : askL q.wh y.toList with
     | none => rw [he] at h0; cases h0
     | some v => simp only [List.length_cons]; omega⟩
    go_wp2_with fail
    go_roundw
    case rel => exact ⟨j + 1, by omega, by go_num, HX.out.trans (HX2.out.trans HX3.out), HN.out⟩
    case measure => simp [intOf]; omega
   | false =>
    have HN : Aside0 ((valsL cols q.wh l).length = j) := ⟨by
     have h0 := HYB.out
     rw [HV.out, HVAL.out]
     cases he : askL q.wh y.toList with
     | none => rfl
     | some v => rw [he] at h0; cases h0⟩
    go_wp2_with fail
    go_ret
    exact ⟨by rw [HN.out]; rfl, HXX.out.trans (HX2.out.trans HX3.out)⟩
 obtain rfl : j = l.length := by omega
 have HR : Aside0 ((valsL cols q.wh l).length = l.length) := ⟨by have := HV.out; rw [List.drop_length, valsL] at this; simpa using this⟩
 clear hlt hj
 go_upto_region 2 with fail
 refine ext_region 21 [(0, 10), (1, 11), (2, 12), (3, 13), (4, 14), (5, 15), (6, 16), (7, 17), (8, 18), (9, 19), (10, 20), (11, 21), (12, 22), (13, 23), (14, 24), (15, 25), (16, 26), (17, 27), (18, 28), (19, 29), (20, 30)] [0, 1, 2, 3, 4, 5, 6, 7, 8, 9, 10, 11, 12, 13, 14, 15, 16, 17, 18, 19, 20] (fun i w v => match i with | 0 => v = .int .i64 (l.length : Nat) | 1 => v = .slice A2 l.length c2 | 2 => v = .int .i64 (l.length : Nat) | 3 => v = .bool false | 4 => v = .bool false | 5 => v = undef | 6 => v = undef | 7 => v = undef | 8 => v = undef | 9 => v = undef | 10 => v = .bool false | 11 => v = .bool false | 12 => v = undef | 13 => v = undef | 14 => v = undef | 15 => v = undef | 16 => v = undef | 17 => v = undef | 18 => v = undef | 19 => v = undef | 20 => v = .bool false | _ => True) (by kernel_rfl) (by kernel_rfl) (by rfl) rfl ?mono2b ?steps2b ?fin2b
 case mono2b =>
  intro i w w' v h hE
  match i with
  | 0 => exact h
  | 1 => exact h
  | 2 => exact h
  | 3 => exact h
  | 4 => exact h
  | 5 => exact h
  | 6 => exact h
  | 7 => exact h
  | 8 => exact h
  | 9 => exact h
  | 10 => exact h
  | 11 => exact h
  | 12 => exact h
  | 13 => exact h
  | 14 => exact h
  | 15 => exact h
  | 16 => exact h
  | 17 => exact h
  | 18 => exact h
  | 19 => exact h
  | 20 => exact h
  | _ + 21 => trivial
 case steps2b =>
  refine stepE_cons ⟨_, rfl, fun a w hE hH => ?_⟩ ?_
  ·
   have e7 : a.tmps[7]? = some (.int .i64 (l.length : Nat)) := hH.old 7 rfl
   exact Or.inl ⟨rfl, goodE_move _ rfl (eval_of e7) rfl⟩
  refine stepE_cons ⟨_, rfl, fun a w hE hH => ?_⟩ ?_
  ·
   have e2 : a.tmps[2]? = some (.slice A2 l.length c2) := hH.old 2 rfl
   exact Or.inl ⟨rfl, goodE_move _ rfl (eval_of e2) rfl⟩
  refine stepE_cons ⟨_, rfl, fun a w hE hH => ?_⟩ ?_
  ·
   obtain ⟨v11, e11, g11⟩ := hH.dep 1 11 rfl (by kernel_rfl)
   have q11 : v11 = .slice A2 l.length c2 := g11
   subst q11
   exact Or.inl ⟨rfl, goodE_val (.int .i64 (l.length : Nat)) (by simp [execOp, Act.eval, e11, go_sem]) rfl⟩
  refine stepE_cons ⟨_, rfl, fun a w hE hH => ?_⟩ ?_
  ·
   obtain ⟨v10, e10, g10⟩ := hH.dep 0 10 rfl (by kernel_rfl)
   have q10 : v10 = .int .i64 (l.length : Nat) := g10
   subst q10
   obtain ⟨v12, e12, g12⟩ := hH.dep 2 12 rfl (by kernel_rfl)
   have q12 : v12 = .int .i64 (l.length : Nat) := g12
   subst q12
   exact Or.inl ⟨rfl, goodE_val (.bool false) (by simp [execOp, Act.eval, e10, e12, go_sem]) rfl⟩
  refine stepE_cons ⟨_, rfl, fun a w hE hH => ?_⟩ ?_
  ·
   obtain ⟨v13, e13, g13⟩ := hH.dep 3 13 rfl (by kernel_rfl)
   exact Or.inl ⟨rfl, goodE_move v13 rfl (eval_of e13) g13⟩
  refine stepE_cons ⟨_, rfl, fun a w hE hH => ?_⟩ ?_
  ·
   obtain ⟨v14, e14, g14⟩ := hH.dep 4 14 rfl (by kernel_rfl)
   have q14 : v14 = .bool false := g14
   subst q14
   exact Or.inr ⟨wanted_off rfl rfl rfl e14, rfl⟩
  refine stepE_cons ⟨_, rfl, fun a w hE hH => ?_⟩ ?_
  ·
   obtain ⟨v14, e14, g14⟩ := hH.dep 4 14 rfl (by kernel_rfl)
   have q14 : v14 = .bool false := g14
   subst q14
   exact Or.inr ⟨wanted_off rfl rfl rfl e14, rfl⟩
  refine stepE_cons ⟨_, rfl, fun a w hE hH => ?_⟩ ?_
  ·
   obtain ⟨v14, e14, g14⟩ := hH.dep 4 14 rfl (by kernel_rfl)
   have q14 : v14 = .bool false := g14
   subst q14
   exact Or.inr ⟨wanted_off rfl rfl rfl e14, rfl⟩
  refine stepE_cons ⟨_, rfl, fun a w hE hH => ?_⟩ ?_
  ·
   obtain ⟨v14, e14, g14⟩ := hH.dep 4 14 rfl (by kernel_rfl)
   have q14 : v14 = .bool false := g14
   subst q14
   exact Or.inr ⟨wanted_off rfl rfl rfl e14, rfl⟩
  refine stepE_cons ⟨_, rfl, fun a w hE hH => ?_⟩ ?_
  ·
   obtain ⟨v14, e14, g14⟩ := hH.dep 4 14 rfl (by kernel_rfl)
   have q14 : v14 = .bool false := g14
   subst q14
   exact Or.inr ⟨wanted_off rfl rfl rfl e14, rfl⟩
  refine stepE_cons ⟨_, rfl, fun a w hE hH => ?_⟩ ?_
  ·
   obtain ⟨v14, e14, g14⟩ := hH.dep 4 14 rfl (by kernel_rfl)
   have q14 : v14 = .bool false := g14
   subst q14
   obtain ⟨v19, e19, g19⟩ := hH.dep 9 19 rfl (by kernel_rfl)
   have q19 : v19 = undef := g19
   subst q19
   exact Or.inl ⟨rfl, goodE_pick _ (.bool false) rfl (eval_of e14) (by simp [Act.eval, e19, e14]) rfl⟩
  refine stepE_cons ⟨_, rfl, fun a w hE hH => ?_⟩ ?_
  ·
   obtain ⟨v20, e20, g20⟩ := hH.dep 10 20 rfl (by kernel_rfl)
   exact Or.inl ⟨rfl, goodE_move v20 rfl (eval_of e20) g20⟩
  refine stepE_cons ⟨_, rfl, fun a w hE hH => ?_⟩ ?_
  ·
   obtain ⟨v21, e21, g21⟩ := hH.dep 11 21 rfl (by kernel_rfl)
   have q21 : v21 = .bool false := g21
   subst q21
   exact Or.inr ⟨wanted_off rfl rfl rfl e21, rfl⟩
  refine stepE_cons ⟨_, rfl, fun a w hE hH => ?_⟩ ?_
  ·
   obtain ⟨v21, e21, g21⟩ := hH.dep 11 21 rfl (by kernel_rfl)
   have q21 : v21 = .bool false := g21
   subst q21
   exact Or.inr ⟨wanted_off rfl rfl rfl e21, rfl⟩
  refine stepE_cons ⟨_, rfl, fun a w hE hH => ?_⟩ ?_
  ·
   obtain ⟨v21, e21, g21⟩ := hH.dep 11 21 rfl (by kernel_rfl)
   have q21 : v21 = .bool false := g21
   subst q21
   exact Or.inr ⟨wanted_off rfl rfl rfl e21, rfl⟩
  refine stepE_cons ⟨_, rfl, fun a w hE hH => ?_⟩ ?_
  ·
   obtain ⟨v21, e21, g21⟩ := hH.dep 11 21 rfl (by kernel_rfl)
   have q21 : v21 = .bool false := g21
   subst q21
   exact Or.inr ⟨wanted_off rfl rfl rfl e21, rfl⟩
  refine stepE_cons ⟨_, rfl, fun a w hE hH => ?_⟩ ?_
  ·
   obtain ⟨v21, e21, g21⟩ := hH.dep 11 21 rfl (by kernel_rfl)
   have q21 : v21 = .bool false := g21
   subst q21
   exact Or.inr ⟨wanted_off rfl rfl rfl e21, rfl⟩
  refine stepE_cons ⟨_, rfl, fun a w hE hH => ?_⟩ ?_
  ·
   obtain ⟨v21, e21, g21⟩ := hH.dep 11 21 rfl (by kernel_rfl)
   have q21 : v21 = .bool false := g21
   subst q21
   exact Or.inr ⟨wanted_off rfl rfl rfl e21, rfl⟩
  refine stepE_cons ⟨_, rfl, fun a w hE hH => ?_⟩ ?_
  ·
   obtain ⟨v21, e21, g21⟩ := hH.dep 11 21 rfl (by kernel_rfl)
   have q21 : v21 = .bool false := g21
   subst q21
   exact Or.inr ⟨wanted_off rfl rfl rfl e21, rfl⟩
  refine stepE_cons ⟨_, rfl, fun a w hE hH => ?_⟩ ?_
  ·
   obtain ⟨v21, e21, g21⟩ := hH.dep 11 21 rfl (by kernel_rfl)
   have q21 : v21 = .bool false := g21
   subst q21
   exact Or.inr ⟨wanted_off rfl rfl rfl e21, rfl⟩
  refine stepE_cons ⟨_, rfl, fun a w hE hH => ?_⟩ ?_
  ·
   obtain ⟨v21, e21, g21⟩ := hH.dep 11 21 rfl (by kernel_rfl)
   have q21 : v21 = .bool false := g21
   subst q21
   obtain ⟨v29, e29, g29⟩ := hH.dep 19 29 rfl (by kernel_rfl)
   have q29 : v29 = undef := g29
   subst q29
   exact Or.inl ⟨rfl, goodE_pick _ (.bool false) rfl (eval_of e21) (by simp [Act.eval, e29, e21]) rfl⟩
  exact stepE_nil
 rintro vals wz hE hV
 have k30 : vals 20 = .bool false := hV 20 (by simp) rfl
 simp only [List.map_cons, List.map_nil, putAll, Act.put, List.setIfInBounds_toArray, List.set_cons_zero, List.set_cons_succ, k30]
 have HX2 : Aside0 (Ext wo wz) := ⟨(Ext.to_drew _).trans hE⟩
 clear hE hV k30
 go_wp2_with fail
 go_ret
 exact ⟨by rw [HR.out]; rfl, HXX.out.trans HX2.out⟩
end Go.Proofs.YthhemephaabblaaGreatDoor.Hq
namespace Go.Proofs.YthhemephaabblaaGreatDoor.Hq
open Go.RowKit Go.Proofs.YthhemephaabblaaGreatDoorW.PrintWords Go.Proofs.YthhemephaabblaaGreatDoorW.PrintLast Go.Proofs.YthhemephaabblaaGreatDoorW.PrintMore Go.Proofs.YthhemephaabblaaGreatDoor Go.Proofs.YthhemephaabblaaGreatDoor.Q Go.Proofs.YthhemephaabblaaGreatDoor.R
set_option linter.unusedVariables false
set_option linter.unusedSimpArgs false
def knwA (cols : List ByteArray) (q : Qry) : Bool := knwC cols q.cols && knwT cols q.wh && knwO cols q.ord
def planR (q : Qry) (cols : List ByteArray) (idx : List (List Int)) (r1 : List Int) : Int × Int × Int :=
 if (printQ q).2 = 0 ∧ knwA cols q = true then ((bestL cols q.wh idx 0 (-1) (valsL cols q.wh r1)).1, ((bestL cols q.wh idx 0 (-1) (valsL cols q.wh r1)).2.length : Int), 0) else (0, 0, 320)
set_option maxRecDepth 100000 in
set_option maxHeartbeats 3200000 in
theorem rplan_calls (nm : ByteArray) (cols : List ByteArray) (ks : Int) (idx : List (List Int)) (r1 : List Int) (q : Qry) (hok : okQ q) (A1 : Option Addr) (c1 : Nat) (A3 : Option Addr) (c3 : Nat) (A5 : Option Addr) (c5 : Nat) (A7 : Option Addr) (c7 : Nat) (w : World) (hG : Glob w)
  (h1 : Kd.C Kd.string w A1 cols.length cols) (hc1 : cols.length ≤ c1) (h3 : Kd.C (Kd.slice 3 (Kd.int .i64)) w A3 idx.length idx) (hc3 : idx.length ≤ c3) (h5 : Kd.C Kd.string w A5 q.cols.length (q.cols.map strB)) (hc5 : q.cols.length ≤ c5) (h7 : Kd.C k70 w A7 q.wh.length (q.wh.map t70)) (hc7 : q.wh.length ≤ c7)
  (hl1 : cols.length ≤ 2000000) (hl3 : idx.length ≤ 2000000) (hle : ∀ x ∈ idx, x.length ≤ 2000000) (hl5 : q.cols.length ≤ 2000000) (hl7 : q.wh.length ≤ 2000000) (hr1 : r1.length ≤ 2000000) (k : Nat) (hk : cairnref32_Keys.f k nm cols ks idx = some r1) :
  Calls Tryz.prog 17 #[.agg #[.string nm, .slice A1 cols.length c1, .int .i64 ks, .slice A3 idx.length c3], .agg #[.slice A5 q.cols.length c5, .string (strB q.tab), .slice A7 q.wh.length c7, .string (strB q.ord), .bool q.down, .int .i64 q.lim]] w fun e w' => e = .returned (.tuple #[.int .i64 (planR q cols idx r1).1, .int .i64 (planR q cols idx r1).2.1, .int .i64 (planR q cols idx r1).2.2]) ∧ Ext w w' := by
 have HKE0 : Aside0 (∀ W, Ext w W → Calls Tryz.prog 38 #[.agg #[.string nm, .slice A1 cols.length c1, .int .i64 ks, .slice A3 idx.length c3]] W (fun e w' => ∃ A c, e = .returned (.slice A r1.length c) ∧ r1.length ≤ c ∧ Kd.C (Kd.int .i64) w' A r1.length r1 ∧ Ext W w')) := ⟨fun W hW => by
  refine (cairnref32_Keys.calls k nm A1 c1 cols ks A3 c3 idx r1 W (Kd.C_below h1 hW) hc1 (Kd.C_below h3 hW) hc3 hk).mono ?_
  rintro e w' ⟨v, rfl, hR, hB⟩
  obtain ⟨A, c, rfl, hc, hC⟩ := Kd.R_reads hR
  exact ⟨A, c, rfl, hc, hC, hB⟩⟩
 have HCN0 : Aside0 (∀ W, Ext w W → ∀ (l : List Int) A c, Kd.C (Kd.int .i64) W A l.length l → l.length ≤ c → l.length ≤ 2000000 → Calls Tryz.prog 37 #[.agg #[.string nm, .slice A1 cols.length c1, .int .i64 ks, .slice A3 idx.length c3], .agg #[.slice A5 q.cols.length c5, .string (strB q.tab), .slice A7 q.wh.length c7, .string (strB q.ord), .bool q.down, .int .i64 q.lim], .slice A l.length c] W (fun e w' => e = .returned (.int .i64 ((valsL cols q.wh l).length : Nat)) ∧ Ext W w')) := ⟨fun W hW l A c hC hc hll =>
  count_calls nm cols ks (.slice A3 idx.length c3) q l A1 c1 A c A5 c5 A7 c7 W (Kd.C_below h1 hW) hc1 hC hc (Kd.C_below h5 hW) hc5 (Kd.C_below h7 hW) hc7 ⟨_, _, _, rfl⟩ hll hl7⟩
 have HKN0 : Aside0 (∀ W, Ext w W → Calls Tryz.prog 36 #[.slice A1 cols.length c1, .agg #[.slice A5 q.cols.length c5, .string (strB q.tab), .slice A7 q.wh.length c7, .string (strB q.ord), .bool q.down, .int .i64 q.lim]] W (fun e w' => e = .returned (.bool (knwA cols q)) ∧ Ext W w')) := ⟨fun W hW => by
  have h0 := rknown_l0 q cols 2000000 (by decide) hl5 hl7 hl1 (strB q.tab) q.down q.lim _ 6000011 0 rfl (by omega) (by omega)
  rw [show ((0 : Nat) : Int) = 0 from rfl, List.drop_zero] at h0
  have := cairnref32_known.calls 6000011 A1 c1 cols A5 c5 (q.cols.map strB) (strB q.tab) A7 c7 (q.wh.map t70) (strB q.ord) q.down q.lim (knwA cols q) W (Kd.C_below h1 hW) hc1 (by rw [List.length_map]; exact Kd.C_below h5 hW) (by rw [List.length_map]; exact hc5) (by rw [List.length_map]; exact Kd.C_below h7 hW) (by rw [List.length_map]; exact hc7) h0
  rw [List.length_map, List.length_map] at this
  exact this⟩
 have HPR0 : Aside0 (∀ W, Ext w W → Calls Tryz.prog 14 #[.agg #[.slice A5 q.cols.length c5, .string (strB q.tab), .slice A7 q.wh.length c7, .string (strB q.ord), .bool q.down, .int .i64 q.lim]] W (fun e w' => e = .returned (.tuple #[.string (strB (printQ q).1), .int .i64 (printQ q).2]) ∧ Ext W w')) := ⟨fun W hW => dprint_calls q hok A5 c5 A7 c7 W (Kd.C_below h5 hW) hc5 (Kd.C_below h7 hW) hc7 (Glob.of_below hG hW)⟩
 have H3 := Aside0.mk h3
 have HLE := Aside0.mk hle
 have HR1 := Aside0.mk hr1
 have hpr : planR q cols idx r1 = planR q cols idx r1 := rfl
 conv at hpr => rhs; unfold planR
 obtain ⟨E, hE⟩ : ∃ E, E = (printQ q).2 := ⟨_, rfl⟩
 obtain ⟨T, hT⟩ : ∃ T, T = strB (printQ q).1 := ⟨_, rfl⟩
 obtain ⟨kb, hkb⟩ : ∃ b, b = knwA cols q := ⟨_, rfl⟩
 rw [← hE, ← hkb] at hpr
 rw [← hE, ← hT] at HPR0
 rw [← hkb] at HKN0
 have HPL := Aside0.mk hpr
 clear h1 h3 h5 h7 hG hok hle hr1 hk hpr hE hT hkb
 go_enter Tryz.func17, Tryz.ntmps17
 go_upto_region 1 with fail
 obtain ⟨w2, hw2⟩ : ∃ W, W = (w.alloc (.cells #[.string nm, .slice A1 cols.length c1, .int .i64 ks, .slice A3 idx.length c3] 49)).alloc (.cells #[.slice A5 q.cols.length c5, .string (strB q.tab), .slice A7 q.wh.length c7, .string (strB q.ord), .bool q.down, .int .i64 q.lim] 31) := ⟨_, rfl⟩
 have hE2 : Ext w w2 := by rw [hw2]; exact ((Ext.refl w).alloc _).alloc _
 have hzs : w2.heap[w.heap.size]? = some (.cells #[.string nm, .slice A1 cols.length c1, .int .i64 ks, .slice A3 idx.length c3] 49 (0, 0)) := by rw [hw2]; exact heap_alloc2_old w _ _
 have hza : w2.heap[w.heap.size + 1]? = some (.cells #[.slice A5 q.cols.length c5, .string (strB q.tab), .slice A7 q.wh.length c7, .string (strB q.ord), .bool q.down, .int .i64 q.lim] 31 (0, 0)) := by rw [hw2]; have := heap_alloc_new (w.alloc (.cells #[.string nm, .slice A1 cols.length c1, .int .i64 ks, .slice A3 idx.length c3] 49)) (.cells #[.slice A5 q.cols.length c5, .string (strB q.tab), .slice A7 q.wh.length c7, .string (strB q.ord), .bool q.down, .int .i64 q.lim] 31); simpa using this
 rw [← hw2]
 obtain ⟨sb, hsb⟩ : ∃ n, n = w.heap.size := ⟨_, rfl⟩
 obtain ⟨ab, hab⟩ : ∃ n, n = w.heap.size + 1 := ⟨_, rfl⟩
 rw [← hab] at hza ⊢
 rw [← hsb] at hzs ⊢
 have HZS := Aside0.mk hzs
 have HZA := Aside0.mk hza
 have HX := Aside0.mk hE2
 have s1 := blk_cell hzs 1
 have y0 := blk_cell hza 0
 have y1 := blk_cell hza 1
 have y2 := blk_cell hza 2
 have y3 := blk_cell hza 3
 have y4 := blk_cell hza 4
 have y5 := blk_cell hza 5
 clear hw2 hab hsb hzs hza hE2
 trace "P1"
 go_upto_region 2 with (go_at_call 14; (with_reducible refine (HPR0.out _ HX.out).mono ?_); rintro e w3 ⟨rfl, hE3⟩; have HX := Aside0.mk (HX.out.trans hE3); have HZS := Aside0.mk (heap_below HZS.out hE3); have HZA := Aside0.mk (heap_below HZA.out hE3); have s1 := cell_ext hE3 s1; have y0 := cell_ext hE3 y0; have y1 := cell_ext hE3 y1; have y2 := cell_ext hE3 y2; have y3 := cell_ext hE3 y3; have y4 := cell_ext hE3 y4; have y5 := cell_ext hE3 y5; clear hE3)
 by_cases hz : E = 0
 rotate_left
 ·
  have hz0 : decide (E = 0) = false := decide_eq_false hz
  have HPE : Aside0 (planR q cols idx r1 = (0, 0, 320)) := ⟨by rw [HPL.out, if_neg (fun h => hz h.1)]⟩
  go_wp2_with fail
  refine bodyPost_ret (v := .tuple #[.int .i64 0, .int .i64 0, .int .i64 320]) (by simp [results, Tryz.results17, go_sem]) rfl ⟨by rw [HPE.out], HX.out⟩
 subst hz
 cases kb with
 | false =>
  have HPE : Aside0 (planR q cols idx r1 = (0, 0, 320)) := ⟨by rw [HPL.out, if_neg (fun h => absurd h.2 (by decide))]⟩
  go_wp2_with (go_at_call 36; (with_reducible refine (HKN0.out _ HX.out).mono ?_); rintro e w4 ⟨rfl, hE4⟩; have HX := Aside0.mk (HX.out.trans hE4); have HZS := Aside0.mk (heap_below HZS.out hE4); have HZA := Aside0.mk (heap_below HZA.out hE4); clear hE4)
  refine bodyPost_ret (v := .tuple #[.int .i64 0, .int .i64 0, .int .i64 320]) (by simp [results, Tryz.results17, go_sem]) rfl ⟨by rw [HPE.out], HX.out⟩
 | true =>
  have HPE : Aside0 (planR q cols idx r1 = ((bestL cols q.wh idx 0 (-1) (valsL cols q.wh r1)).1, ((bestL cols q.wh idx 0 (-1) (valsL cols q.wh r1)).2.length : Int), 0)) := ⟨by rw [HPL.out, if_pos ⟨rfl, rfl⟩]⟩
  go_upto_region 4 with (go_at_call 36; (with_reducible refine (HKN0.out _ HX.out).mono ?_); rintro e w4 ⟨rfl, hE4⟩; have HX := Aside0.mk (HX.out.trans hE4); have HZS := Aside0.mk (heap_below HZS.out hE4); have HZA := Aside0.mk (heap_below HZA.out hE4); clear hE4)
  clear s1 y0 y1 y2 y3 y4 y5
  obtain ⟨wa, hwa⟩ : ∃ W : World, W = w4 := ⟨_, rfl⟩
  rw [← hwa] at HX HZS HZA ⊢
  clear hwa
  have HCN : Aside0 (∀ W, Ext wa W → ∀ (l : List Int) A c, Kd.C (Kd.int .i64) W A l.length l → l.length ≤ c → l.length ≤ 2000000 → Calls Tryz.prog 37 #[.agg #[.string nm, .slice A1 cols.length c1, .int .i64 ks, .slice A3 idx.length c3], .agg #[.slice A5 q.cols.length c5, .string (strB q.tab), .slice A7 q.wh.length c7, .string (strB q.ord), .bool q.down, .int .i64 q.lim], .slice A l.length c] W (fun e w' => e = .returned (.int .i64 ((valsL cols q.wh l).length : Nat)) ∧ Ext W w')) := ⟨fun W hW => HCN0.out W (HX.out.trans hW)⟩
  have HKE : Aside0 (∀ W, Ext wa W → Calls Tryz.prog 38 #[.agg #[.string nm, .slice A1 cols.length c1, .int .i64 ks, .slice A3 idx.length c3]] W (fun e w' => ∃ A c, e = .returned (.slice A r1.length c) ∧ r1.length ≤ c ∧ Kd.C (Kd.int .i64) w' A r1.length r1 ∧ Ext W w')) := ⟨fun W hW => HKE0.out W (HX.out.trans hW)⟩
  refine ext_region 7 [(0, 27), (1, 28), (2, 29), (3, 30), (4, 31), (5, 9), (6, 10)] [0, 1, 2, 3, 4, 5, 6] (fun i w v => match i with | 0 => v = .agg #[.string nm, .slice A1 cols.length c1, .int .i64 ks, .slice A3 idx.length c3] | 1 => v = .agg #[.slice A5 q.cols.length c5, .string (strB q.tab), .slice A7 q.wh.length c7, .string (strB q.ord), .bool q.down, .int .i64 q.lim] | 2 => v = .agg #[.string nm, .slice A1 cols.length c1, .int .i64 ks, .slice A3 idx.length c3] | 3 => ∃ A c, v = .slice A r1.length c ∧ r1.length ≤ c ∧ Kd.C (Kd.int .i64) w A r1.length r1 | 4 => v = .int .i64 ((valsL cols q.wh r1).length : Nat) | 5 => v = .int .i64 (-1) | 6 => v = .int .i64 ((valsL cols q.wh r1).length : Nat) | _ => True) (by kernel_rfl) (by kernel_rfl) (by rfl) rfl ?mono4 ?steps4 ?fin4
  case mono4 =>
   intro i w w' v h hE
   match i with
   | 0 => exact h
   | 1 => exact h
   | 2 => exact h
   | 3 => exact (by obtain ⟨A, c, e1, e2, e3⟩ := h; exact ⟨A, c, e1, e2, Kd.C_below e3 hE⟩)
   | 4 => exact h
   | 5 => exact h
   | 6 => exact h
   | _ + 7 => trivial
  case steps4 =>
   refine stepE_cons ⟨_, rfl, fun a w hE hH => ?_⟩ ?_
   ·
    have e2 : a.tmps[2]? = some (.pointer (some ⟨sb, 0, none⟩)) := hH.old 2 rfl
    have h0 := cell_ext ((Ext.to_drew _).trans hE) (blk_cell HZS.out 0)
    have h1 := cell_ext ((Ext.to_drew _).trans hE) (blk_cell HZS.out 1)
    have h2 := cell_ext ((Ext.to_drew _).trans hE) (blk_cell HZS.out 2)
    have h3 := cell_ext ((Ext.to_drew _).trans hE) (blk_cell HZS.out 3)
    exact Or.inl ⟨(rfl), goodE_val (.agg #[.string nm, .slice A1 cols.length c1, .int .i64 ks, .slice A3 idx.length c3]) (by simp [execOp, Act.eval, e2, h0, h1, h2, h3, go_sem]) rfl⟩
   refine stepE_cons ⟨_, rfl, fun a w hE hH => ?_⟩ ?_
   ·
    have e3 : a.tmps[3]? = some (.pointer (some ⟨ab, 0, none⟩)) := hH.old 3 rfl
    have h0 := cell_ext ((Ext.to_drew _).trans hE) (blk_cell HZA.out 0)
    have h1 := cell_ext ((Ext.to_drew _).trans hE) (blk_cell HZA.out 1)
    have h2 := cell_ext ((Ext.to_drew _).trans hE) (blk_cell HZA.out 2)
    have h3 := cell_ext ((Ext.to_drew _).trans hE) (blk_cell HZA.out 3)
    have h4 := cell_ext ((Ext.to_drew _).trans hE) (blk_cell HZA.out 4)
    have h5 := cell_ext ((Ext.to_drew _).trans hE) (blk_cell HZA.out 5)
    exact Or.inl ⟨(rfl), goodE_val (.agg #[.slice A5 q.cols.length c5, .string (strB q.tab), .slice A7 q.wh.length c7, .string (strB q.ord), .bool q.down, .int .i64 q.lim]) (by simp [execOp, Act.eval, e3, h0, h1, h2, h3, h4, h5, go_sem]) rfl⟩
   refine stepE_cons ⟨_, rfl, fun a w hE hH => ?_⟩ ?_
   ·
    have e2 : a.tmps[2]? = some (.pointer (some ⟨sb, 0, none⟩)) := hH.old 2 rfl
    have h0 := cell_ext ((Ext.to_drew _).trans hE) (blk_cell HZS.out 0)
    have h1 := cell_ext ((Ext.to_drew _).trans hE) (blk_cell HZS.out 1)
    have h2 := cell_ext ((Ext.to_drew _).trans hE) (blk_cell HZS.out 2)
    have h3 := cell_ext ((Ext.to_drew _).trans hE) (blk_cell HZS.out 3)
    exact Or.inl ⟨(rfl), goodE_val (.agg #[.string nm, .slice A1 cols.length c1, .int .i64 ks, .slice A3 idx.length c3]) (by simp [execOp, Act.eval, e2, h0, h1, h2, h3, go_sem]) rfl⟩
   refine stepE_cons ⟨_, rfl, fun a w hE hH => ?_⟩ ?_
   ·
    obtain ⟨v29, e29, g29⟩ := hH.dep 2 29 rfl (by kernel_rfl)
    have q29 : v29 = .agg #[.string nm, .slice A1 cols.length c1, .int .i64 ks, .slice A3 idx.length c3] := g29
    subst q29
    exact Or.inl ⟨(rfl), goodE_call rfl #[.agg #[.string nm, .slice A1 cols.length c1, .int .i64 ks, .slice A3 idx.length c3]] (by simp [Act.eval, e29]) _ Tryz.func38 (by kernel_rfl) (by kernel_rfl) ((HKE.out w ((Ext.to_drew _).trans hE)).mono (fun e w' ⟨A, c, h1, h2, h3, h4⟩ => ⟨_, h1, h4, ⟨A, c, rfl, h2, h3⟩⟩))⟩
   refine stepE_cons ⟨_, rfl, fun a w hE hH => ?_⟩ ?_
   ·
    obtain ⟨v27, e27, g27⟩ := hH.dep 0 27 rfl (by kernel_rfl)
    have q27 : v27 = .agg #[.string nm, .slice A1 cols.length c1, .int .i64 ks, .slice A3 idx.length c3] := g27
    subst q27
    obtain ⟨v28, e28, g28⟩ := hH.dep 1 28 rfl (by kernel_rfl)
    have q28 : v28 = .agg #[.slice A5 q.cols.length c5, .string (strB q.tab), .slice A7 q.wh.length c7, .string (strB q.ord), .bool q.down, .int .i64 q.lim] := g28
    subst q28
    obtain ⟨v30, e30, g30⟩ := hH.dep 3 30 rfl (by kernel_rfl)
    obtain ⟨A, c, rfl, hc, hC⟩ := g30
    exact Or.inl ⟨(rfl), goodE_call rfl #[.agg #[.string nm, .slice A1 cols.length c1, .int .i64 ks, .slice A3 idx.length c3], .agg #[.slice A5 q.cols.length c5, .string (strB q.tab), .slice A7 q.wh.length c7, .string (strB q.ord), .bool q.down, .int .i64 q.lim], .slice A r1.length c] (by simp [Act.eval, e27, e28, e30]) _ Tryz.func37 (by kernel_rfl) (by kernel_rfl) ((HCN.out w ((Ext.to_drew _).trans hE) r1 A c (hC) (hc) (by first | exact HR1.out | exact HLL.out)).mono (fun e w' h => ⟨_, h.1, h.2, rfl⟩))⟩
   refine stepE_cons ⟨_, rfl, fun a w hE hH => ?_⟩ ?_
   ·
    exact Or.inl ⟨rfl, goodE_assign _ rfl rfl rfl⟩
   refine stepE_cons ⟨_, rfl, fun a w hE hH => ?_⟩ ?_
   ·
    obtain ⟨v31, e31, g31⟩ := hH.dep 4 31 rfl (by kernel_rfl)
    exact Or.inl ⟨rfl, goodE_assign v31 rfl (eval_of e31) g31⟩
   exact stepE_nil
  rintro vals wz hE hV
  have k9 : vals 5 = .int .i64 (-1) := hV 5 (by simp) rfl
  have k10 : vals 6 = .int .i64 ((valsL cols q.wh r1).length : Nat) := hV 6 (by simp) rfl
  simp only [List.map_cons, List.map_nil, putAll, Act.put, List.setIfInBounds_toArray, List.set_cons_zero, List.set_cons_succ, k9, k10]
  have HX := Aside0.mk (HX.out.trans ((Ext.to_drew _).trans hE))
  have HZS := Aside0.mk (heap_below HZS.out ((Ext.to_drew _).trans hE))
  have HZA := Aside0.mk (heap_below HZA.out ((Ext.to_drew _).trans hE))
  clear hE hV
  obtain ⟨wb, hwb⟩ : ∃ W : World, W = wz := ⟨_, rfl⟩
  subst hwb
  go_wp2_with fail
  go_loopw [9, 10, 11] (fun s9 s10 s11 W => ∃ (j : Nat) (b : Int) (vs : List ByteArray), j ≤ idx.length ∧ s9 = .int .i64 b ∧ s10 = .int .i64 (vs.length : Nat) ∧ s11 = .int .i64 j ∧ Ext wb W ∧ bestL cols q.wh (idx.drop j) j b vs = bestL cols q.wh idx 0 (-1) (valsL cols q.wh r1)) (fun _ _ v _ => idx.length - (intOf v).toNat)
  case atStart => exact ⟨0, -1, _, by omega, rfl, rfl, rfl, Ext.refl _, rfl⟩
  case round =>
  obtain ⟨wo, hwo⟩ : ∃ W : World, W = wr := ⟨_, rfl⟩
  subst hwo
  obtain ⟨j, b, vs, hj, rfl, rfl, rfl, hX2, hbest⟩ := hrel
  have HXo := Aside0.mk hX2
  have HXX := Aside0.mk (HX.out.trans hX2)
  have HZS2 := Aside0.mk (heap_below HZS.out hX2)
  have HZA2 := Aside0.mk (heap_below HZA.out hX2)
  have HBE := Aside0.mk hbest
  have s3 := blk_cell HZS2.out 3
  clear hX2 hbest
  by_cases hlt : j < idx.length
  ·
   have hb : (j : Int) < idx.length := by omega
   obtain ⟨l, hl⟩ : ∃ l, l = idx[j] := ⟨_, rfl⟩
   have hstep : bestL cols q.wh (idx.drop j) j b vs = if (valsL cols q.wh l).length > vs.length then bestL cols q.wh (idx.drop (j + 1)) (j + 1) (j : Int) (valsL cols q.wh l) else bestL cols q.wh (idx.drop (j + 1)) (j + 1) b vs := by rw [List.drop_eq_getElem_cons hlt, bestL, ← hl]
   have HST := Aside0.mk (hstep.symm.trans HBE.out)
   have HLL : Aside0 (l.length ≤ 2000000) := ⟨HLE.out l (by rw [hl]; exact List.getElem_mem hlt)⟩
   obtain ⟨ad, A0, c0, hA, hcell, hcl, hint⟩ := at_L6 H3.out (j : Int) (by omega) hb
   rw [rdL6_get _ _ hlt, ← hl] at hcell hcl hint
   rw [Int.toNat_natCast] at hcell
   subst hA
   have HCE := Aside0.mk (cell_ext HXX.out hcell)
   have HIN := Aside0.mk hint
   have HCL := Aside0.mk hcl
   have HLT := Aside0.mk hb
   have HLT2 := Aside0.mk (show (0 : Int) ≤ (j : Int) by omega)
   have HCN2 : Aside0 (∀ W, Ext wo W → ∀ (l : List Int) A c, Kd.C (Kd.int .i64) W A l.length l → l.length ≤ c → l.length ≤ 2000000 → Calls Tryz.prog 37 #[.agg #[.string nm, .slice A1 cols.length c1, .int .i64 ks, .slice (some ad) idx.length c3], .agg #[.slice A5 q.cols.length c5, .string (strB q.tab), .slice A7 q.wh.length c7, .string (strB q.ord), .bool q.down, .int .i64 q.lim], .slice A l.length c] W (fun e w' => e = .returned (.int .i64 ((valsL cols q.wh l).length : Nat)) ∧ Ext W w')) := ⟨fun W hW => HCN0.out W (HXX.out.trans hW)⟩
   clear hstep hl hcell hcl hint
   go_upto_region 8 with fail
   clear hb s3
   refine ext_region 9 [(0, 39), (1, 40), (2, 41), (3, 42), (4, 43), (5, 44), (6, 45), (7, 46), (8, 12)] [0, 1, 2, 3, 4, 5, 6, 7, 8] (fun i w v => match i with | 0 => v = .agg #[.string nm, .slice A1 cols.length c1, .int .i64 ks, .slice (some ad) idx.length c3] | 1 => v = .agg #[.slice A5 q.cols.length c5, .string (strB q.tab), .slice A7 q.wh.length c7, .string (strB q.ord), .bool q.down, .int .i64 q.lim] | 2 => v = .pointer (some ⟨sb, 3, none⟩) | 3 => v = .slice (some ad) idx.length c3 | 4 => v = .int .i64 (j : Nat) | 5 => v = .pointer (some (ad.add j)) | 6 => v = .slice A0 l.length c0 | 7 => v = .int .i64 ((valsL cols q.wh l).length : Nat) | 8 => v = .int .i64 ((valsL cols q.wh l).length : Nat) | _ => True) (by kernel_rfl) (by kernel_rfl) (by rfl) rfl ?mono8 ?steps8 ?fin8
   case mono8 =>
    intro i w w' v h hE
    match i with
    | 0 => exact h
    | 1 => exact h
    | 2 => exact h
    | 3 => exact h
    | 4 => exact h
    | 5 => exact h
    | 6 => exact h
    | 7 => exact h
    | 8 => exact h
    | _ + 9 => trivial
   case steps8 =>
    refine stepE_cons ⟨_, rfl, fun a w hE hH => ?_⟩ ?_
    ·
     have e2 : a.tmps[2]? = some (.pointer (some ⟨sb, 0, none⟩)) := hH.old 2 rfl
     have h0 := cell_ext ((Ext.to_drew _).trans hE) (blk_cell HZS2.out 0)
     have h1 := cell_ext ((Ext.to_drew _).trans hE) (blk_cell HZS2.out 1)
     have h2 := cell_ext ((Ext.to_drew _).trans hE) (blk_cell HZS2.out 2)
     have h3 := cell_ext ((Ext.to_drew _).trans hE) (blk_cell HZS2.out 3)
     exact Or.inl ⟨(rfl), goodE_val (.agg #[.string nm, .slice A1 cols.length c1, .int .i64 ks, .slice (some ad) idx.length c3]) (by simp [execOp, Act.eval, e2, h0, h1, h2, h3, go_sem]) rfl⟩
    refine stepE_cons ⟨_, rfl, fun a w hE hH => ?_⟩ ?_
    ·
     have e3 : a.tmps[3]? = some (.pointer (some ⟨ab, 0, none⟩)) := hH.old 3 rfl
     have h0 := cell_ext ((Ext.to_drew _).trans hE) (blk_cell HZA2.out 0)
     have h1 := cell_ext ((Ext.to_drew _).trans hE) (blk_cell HZA2.out 1)
     have h2 := cell_ext ((Ext.to_drew _).trans hE) (blk_cell HZA2.out 2)
     have h3 := cell_ext ((Ext.to_drew _).trans hE) (blk_cell HZA2.out 3)
     have h4 := cell_ext ((Ext.to_drew _).trans hE) (blk_cell HZA2.out 4)
     have h5 := cell_ext ((Ext.to_drew _).trans hE) (blk_cell HZA2.out 5)
     exact Or.inl ⟨(rfl), goodE_val (.agg #[.slice A5 q.cols.length c5, .string (strB q.tab), .slice A7 q.wh.length c7, .string (strB q.ord), .bool q.down, .int .i64 q.lim]) (by simp [execOp, Act.eval, e3, h0, h1, h2, h3, h4, h5, go_sem]) rfl⟩
    refine stepE_cons ⟨_, rfl, fun a w hE hH => ?_⟩ ?_
    ·
     have e2 : a.tmps[2]? = some (.pointer (some ⟨sb, 0, none⟩)) := hH.old 2 rfl
     exact Or.inl ⟨rfl, goodE_val (.pointer (some ⟨sb, 3, none⟩)) (by simp [execOp, Act.eval, e2, go_sem]) rfl⟩
    refine stepE_cons ⟨_, rfl, fun a w hE hH => ?_⟩ ?_
    ·
     obtain ⟨v41, e41, g41⟩ := hH.dep 2 41 rfl (by kernel_rfl)
     have q41 : v41 = .pointer (some ⟨sb, 3, none⟩) := g41
     subst q41
     have hc := cell_ext ((Ext.to_drew _).trans hE) (blk_cell HZS2.out 3)
     exact Or.inl ⟨(rfl), goodE_val (.slice (some ad) idx.length c3) (by simp [execOp, Act.eval, e41, hc, go_sem]) rfl⟩
    refine stepE_cons ⟨_, rfl, fun a w hE hH => ?_⟩ ?_
    ·
     have e11 : a.tmps[11]? = some (.int .i64 (j : Nat)) := hH.old 11 rfl
     exact Or.inl ⟨rfl, goodE_move _ rfl (eval_of e11) rfl⟩
    refine stepE_cons ⟨_, rfl, fun a w hE hH => ?_⟩ ?_
    ·
     obtain ⟨v42, e42, g42⟩ := hH.dep 3 42 rfl (by kernel_rfl)
     have q42 : v42 = .slice (some ad) idx.length c3 := g42
     subst q42
     obtain ⟨v43, e43, g43⟩ := hH.dep 4 43 rfl (by kernel_rfl)
     have q43 : v43 = .int .i64 (j : Nat) := g43
     subst q43
     exact Or.inl ⟨(rfl), goodE_val (.pointer (some (ad.add j))) (by simp [execOp, Act.eval, e42, e43, HLT.out, HLT2.out, go_sem]) rfl⟩
    refine stepE_cons ⟨_, rfl, fun a w hE hH => ?_⟩ ?_
    ·
     obtain ⟨v44, e44, g44⟩ := hH.dep 5 44 rfl (by kernel_rfl)
     have q44 : v44 = .pointer (some (ad.add j)) := g44
     subst q44
     have hc := cell_ext ((Ext.to_drew _).trans hE) HCE.out
     exact Or.inl ⟨(rfl), goodE_val (.slice A0 l.length c0) (by simp [execOp, Act.eval, e44, hc, go_sem]) rfl⟩
    refine stepE_cons ⟨_, rfl, fun a w hE hH => ?_⟩ ?_
    ·
     obtain ⟨v39, e39, g39⟩ := hH.dep 0 39 rfl (by kernel_rfl)
     have q39 : v39 = .agg #[.string nm, .slice A1 cols.length c1, .int .i64 ks, .slice (some ad) idx.length c3] := g39
     subst q39
     obtain ⟨v40, e40, g40⟩ := hH.dep 1 40 rfl (by kernel_rfl)
     have q40 : v40 = .agg #[.slice A5 q.cols.length c5, .string (strB q.tab), .slice A7 q.wh.length c7, .string (strB q.ord), .bool q.down, .int .i64 q.lim] := g40
     subst q40
     obtain ⟨v45, e45, g45⟩ := hH.dep 6 45 rfl (by kernel_rfl)
     have q45 : v45 = .slice A0 l.length c0 := g45
     subst q45
     exact Or.inl ⟨(rfl), goodE_call rfl #[.agg #[.string nm, .slice A1 cols.length c1, .int .i64 ks, .slice (some ad) idx.length c3], .agg #[.slice A5 q.cols.length c5, .string (strB q.tab), .slice A7 q.wh.length c7, .string (strB q.ord), .bool q.down, .int .i64 q.lim], .slice A0 l.length c0] (by simp [Act.eval, e39, e40, e45]) _ Tryz.func37 (by kernel_rfl) (by kernel_rfl) ((HCN2.out w ((Ext.to_drew _).trans hE) l A0 c0 (Kd.C_below HIN.out (HXX.out.trans ((Ext.to_drew _).trans hE))) (HCL.out) (by first | exact HR1.out | exact HLL.out)).mono (fun e w' h => ⟨_, h.1, h.2, rfl⟩))⟩
    refine stepE_cons ⟨_, rfl, fun a w hE hH => ?_⟩ ?_
    ·
     obtain ⟨v46, e46, g46⟩ := hH.dep 7 46 rfl (by kernel_rfl)
     exact Or.inl ⟨rfl, goodE_assign v46 rfl (eval_of e46) g46⟩
    exact stepE_nil
   rintro vals wz hE hV
   have k12 : vals 8 = .int .i64 ((valsL cols q.wh l).length : Nat) := hV 8 (by simp) rfl
   simp only [List.map_cons, List.map_nil, putAll, Act.put, List.setIfInBounds_toArray, List.set_cons_zero, List.set_cons_succ, k12]
   have HX3 : Aside0 (Ext wb wz) := ⟨HXo.out.trans ((Ext.to_drew _).trans hE)⟩
   clear hE hV k12
   have hln : idx.length ≤ 1000000000000 := by omega
   by_cases hgt : (valsL cols q.wh l).length > vs.length
   ·
    have hg1 : (vs.length : Int) < ((valsL cols q.wh l).length : Int) := by omega
    have HN := Aside0.mk (by have := HST.out; rwa [if_pos hgt] at this)
    clear hgt
    go_wp2_with fail
    go_roundw
    case rel => exact ⟨j + 1, _, _, by omega, rfl, rfl, by go_num, HX3.out, HN.out⟩
    case measure => simp [intOf]; omega
   ·
    have hg1 : ¬ (vs.length : Int) < ((valsL cols q.wh l).length : Int) := by omega
    have HN := Aside0.mk (by have := HST.out; rwa [if_neg hgt] at this)
    clear hgt
    go_wp2_with fail
    go_roundw
    case rel => exact ⟨j + 1, _, _, by omega, rfl, rfl, by go_num, HX3.out, HN.out⟩
    case measure => simp [intOf]; omega
  obtain rfl : j = idx.length := by omega
  have hb : ¬ ((idx.length : Int) < idx.length) := by omega
  have HF : Aside0 (planR q cols idx r1 = (b, (vs.length : Int), 0)) := ⟨by rw [HPE.out, ← HBE.out, List.drop_length, bestL]⟩
  clear hlt hj
  go_wp2_with fail
  refine bodyPost_ret (v := .tuple #[.int .i64 b, .int .i64 (vs.length : Nat), .int .i64 0]) (by simp [results, Tryz.results17, go_sem]) rfl ⟨by rw [HF.out], HXX.out⟩
end Go.Proofs.YthhemephaabblaaGreatDoor.Hq
namespace Go.Proofs.YthhemephaabblaaGreatDoor.Hq
open Go.RowKit Go.Proofs.YthhemephaabblaaGreatDoorW.PrintWords Go.Proofs.YthhemephaabblaaGreatDoorW.PrintLast Go.Proofs.YthhemephaabblaaGreatDoorW.PrintMore Go.Proofs.YthhemephaabblaaGreatDoor Go.Proofs.YthhemephaabblaaGreatDoor.Q Go.Proofs.YthhemephaabblaaGreatDoor.R
set_option linter.unusedVariables false
set_option linter.unusedSimpArgs false
theorem print_err (q : Qry) : (printQ q).2 = 0 ∨ (printQ q).2 = 320 := by
 unfold printQ
 split
 ·
  split
  ·
   exact .inl rfl
  ·
   exact .inr rfl
 ·
  exact .inr rfl
set_option maxRecDepth 100000 in
set_option maxHeartbeats 6400000 in
theorem qplan_calls (nm : ByteArray) (cols : List ByteArray) (ks : Int) (idx : List (List Int)) (r1 : List Int) (q : Qry) (hok : okQ q) (A1 : Option Addr) (c1 : Nat) (A3 : Option Addr) (c3 : Nat) (A5 : Option Addr) (c5 : Nat) (A7 : Option Addr) (c7 : Nat) (w : World) (hG : Glob w)
  (h1 : Kd.C Kd.string w A1 cols.length cols) (hc1 : cols.length ≤ c1) (h3 : Kd.C (Kd.slice 3 (Kd.int .i64)) w A3 idx.length idx) (hc3 : idx.length ≤ c3) (h5 : Kd.C Kd.string w A5 q.cols.length (q.cols.map strB)) (hc5 : q.cols.length ≤ c5) (h7 : Kd.C k37 w A7 q.wh.length (q.wh.map t37)) (hc7 : q.wh.length ≤ c7)
  (hl1 : cols.length ≤ 2000000) (hl3 : idx.length ≤ 2000000) (hle : ∀ x ∈ idx, x.length ≤ 2000000) (hl5 : q.cols.length ≤ 2000000) (hl7 : q.wh.length ≤ 2000000) (hr1 : r1.length ≤ 2000000) (k : Nat) (hk : query_key.f k nm cols ks idx = some r1) :
  Calls Tryz.prog 35 #[.agg #[.string nm, .slice A1 cols.length c1, .int .i64 ks, .slice A3 idx.length c3], .agg #[.slice A5 q.cols.length c5, .string (strB q.tab), .slice A7 q.wh.length c7, .string (strB q.ord), .bool q.down, .int .i64 q.lim]] w fun e w' => (∃ A c, e = .returned (.tuple #[.int .i64 (planR q cols idx r1).1, .slice A ((planR q cols idx r1).2.1).toNat c, .int .i64 (planR q cols idx r1).2.2])) ∧ Ext w w' := by
 have HKE0 : Aside0 (∀ W, Ext w W → Calls Tryz.prog 58 #[.agg #[.string nm, .slice A1 cols.length c1, .int .i64 ks, .slice A3 idx.length c3]] W (fun e w' => ∃ A c, e = .returned (.slice A r1.length c) ∧ r1.length ≤ c ∧ Kd.C (Kd.int .i64) w' A r1.length r1 ∧ Ext W w')) := ⟨fun W hW => by
  refine (query_key.calls k nm A1 c1 cols ks A3 c3 idx r1 W (Kd.C_below h1 hW) hc1 (Kd.C_below h3 hW) hc3 hk).mono ?_
  rintro e w' ⟨v, rfl, hR, hB⟩
  obtain ⟨A, c, rfl, hc, hC⟩ := Kd.R_reads hR
  exact ⟨A, c, rfl, hc, hC, hB⟩⟩
 have HVA0 : Aside0 (∀ W, Ext w W → ∀ (l : List Int) A c, Kd.C (Kd.int .i64) W A l.length l → l.length ≤ c → l.length ≤ 2000000 → Calls Tryz.prog 57 #[.agg #[.slice A5 q.cols.length c5, .string (strB q.tab), .slice A7 q.wh.length c7, .string (strB q.ord), .bool q.down, .int .i64 q.lim], .agg #[.string nm, .slice A1 cols.length c1, .int .i64 ks, .slice A3 idx.length c3], .slice A l.length c] W (fun e w' => ∃ A c, e = .returned (.slice A (valsL cols q.wh l).length c) ∧ Ext W w')) := ⟨fun W hW l A c hC hc hll => by
  have := query_Query_values.calls 6000006 A5 c5 (q.cols.map strB) (strB q.tab) A7 c7 (q.wh.map t37) (strB q.ord) q.down q.lim nm A1 c1 cols ks A3 c3 idx A c l (valsL cols q.wh l) W (by rw [List.length_map]; exact Kd.C_below h5 hW) (by rw [List.length_map]; exact hc5) (by rw [List.length_map]; exact Kd.C_below h7 hW) (by rw [List.length_map]; exact hc7) (Kd.C_below h1 hW) hc1 (Kd.C_below h3 hW) hc3 hC hc (values_f q nm cols ks idx l (by omega) (by omega) _ (by omega))
  rw [List.length_map, List.length_map] at this
  refine this.mono ?_
  rintro e w' ⟨v, rfl, hR, hB⟩
  obtain ⟨A, c, rfl⟩ := Kd.R_slice hR
  exact ⟨A, c, rfl, hB⟩⟩
 have HPC0 : Aside0 (∀ W, Ext w W → ∀ a : List UInt8, Calls Tryz.prog 56 #[.agg #[.string nm, .slice A1 cols.length c1, .int .i64 ks, .slice A3 idx.length c3], .string (strB a)] W (fun e w' => e = .returned (.int .i64 (plcL cols a 0)) ∧ Ext W w')) := ⟨fun W hW a => by
  have h0 := place_f cols (strB a) (by omega) 2000001 (by omega) nm ks idx
  rw [toList_strB] at h0
  exact query_place.calls 2000001 nm A1 c1 cols ks A3 c3 idx (strB a) _ W (Kd.C_below h1 hW) hc1 (Kd.C_below h3 hW) hc3 h0⟩
 have HPR0 : Aside0 (∀ W, Ext w W → Calls Tryz.prog 13 #[.agg #[.slice A5 q.cols.length c5, .string (strB q.tab), .slice A7 q.wh.length c7, .string (strB q.ord), .bool q.down, .int .i64 q.lim]] W (fun e w' => e = .returned (.tuple #[.string (strB (printQ q).1), .int .i64 (printQ q).2]) ∧ Ext W w')) := ⟨fun W hW => qprint_calls q hok A5 c5 A7 c7 W (Kd.C_below h5 hW) hc5 (Kd.C_below h7 hW) hc7 (Glob.of_below hG hW)⟩
 have H3 := Aside0.mk h3
 have H5 := Aside0.mk h5
 have H7 := Aside0.mk h7
 have HLE := Aside0.mk hle
 have HR1 := Aside0.mk hr1
 have hpr : planR q cols idx r1 = planR q cols idx r1 := rfl
 conv at hpr => rhs; unfold planR
 have hpe := print_err q
 obtain ⟨E, hE⟩ : ∃ E, E = (printQ q).2 := ⟨_, rfl⟩
 obtain ⟨T, hT⟩ : ∃ T, T = strB (printQ q).1 := ⟨_, rfl⟩
 rw [← hE] at hpr hpe
 rw [← hE, ← hT] at HPR0
 have HPL := Aside0.mk hpr
 have HPE0 := Aside0.mk hpe
 clear h1 h3 h5 h7 hG hok hle hr1 hk hpr hE hT hpe
 go_enter Tryz.func35, Tryz.ntmps35
 go_upto_region 1 with fail
 obtain ⟨w2, hw2⟩ : ∃ W, W = (w.alloc (.cells #[.string nm, .slice A1 cols.length c1, .int .i64 ks, .slice A3 idx.length c3] 49)).alloc (.cells #[.slice A5 q.cols.length c5, .string (strB q.tab), .slice A7 q.wh.length c7, .string (strB q.ord), .bool q.down, .int .i64 q.lim] 25) := ⟨_, rfl⟩
 have hE2 : Ext w w2 := by rw [hw2]; exact ((Ext.refl w).alloc _).alloc _
 have hzs : w2.heap[w.heap.size]? = some (.cells #[.string nm, .slice A1 cols.length c1, .int .i64 ks, .slice A3 idx.length c3] 49 (0, 0)) := by rw [hw2]; exact heap_alloc2_old w _ _
 have hza : w2.heap[w.heap.size + 1]? = some (.cells #[.slice A5 q.cols.length c5, .string (strB q.tab), .slice A7 q.wh.length c7, .string (strB q.ord), .bool q.down, .int .i64 q.lim] 25 (0, 0)) := by rw [hw2]; have := heap_alloc_new (w.alloc (.cells #[.string nm, .slice A1 cols.length c1, .int .i64 ks, .slice A3 idx.length c3] 49)) (.cells #[.slice A5 q.cols.length c5, .string (strB q.tab), .slice A7 q.wh.length c7, .string (strB q.ord), .bool q.down, .int .i64 q.lim] 25); simpa using this
 rw [← hw2]
 obtain ⟨sb, hsb⟩ : ∃ n, n = w.heap.size := ⟨_, rfl⟩
 obtain ⟨ab, hab⟩ : ∃ n, n = w.heap.size + 1 := ⟨_, rfl⟩
 rw [← hab] at hza ⊢
 rw [← hsb] at hzs ⊢
 have HZS := Aside0.mk hzs
 have HZA := Aside0.mk hza
 have HX := Aside0.mk hE2
 have y0 := blk_cell hza 0
 have y1 := blk_cell hza 1
 have y2 := blk_cell hza 2
 have y3 := blk_cell hza 3
 have y4 := blk_cell hza 4
 have y5 := blk_cell hza 5
 clear hw2 hab hsb hzs hza hE2
 go_upto_region 2 with (go_at_call 13; (with_reducible refine (HPR0.out _ HX.out).mono ?_); rintro e w3 ⟨rfl, hE3⟩; have HX := Aside0.mk (HX.out.trans hE3); have HZS := Aside0.mk (heap_below HZS.out hE3); have HZA := Aside0.mk (heap_below HZA.out hE3); have y0 := cell_ext hE3 y0; have y2 := cell_ext hE3 y2; clear hE3)
 clear y1 y3 y4 y5
 by_cases hz : E = 0
 rotate_left
 ·
  have hz0 : decide (E = 0) = false := decide_eq_false hz
  have HPE : Aside0 (planR q cols idx r1 = (0, 0, 320)) := ⟨by rw [HPL.out, if_neg (fun h => hz h.1)]⟩
  have hz3 : E = 320 := HPE0.out.resolve_left hz
  have HZ3 := Aside0.mk hz3
  clear hz3
  go_wp2_with fail
  refine bodyPost_ret (v := .tuple #[.int .i64 0, .slice none 0 0, .int .i64 E]) (by simp [results, Tryz.results35, go_sem]) rfl ⟨⟨none, 0, by rw [HPE.out, HZ3.out]; rfl⟩, HX.out⟩
 subst hz
 obtain ⟨wa, hwa⟩ : ∃ W : World, W = w3 := ⟨_, rfl⟩
 rw [← hwa] at HX HZS HZA y0 y2 ⊢
 clear hwa
 go_wp2_with fail
 clear y0 y2
 go_loopw [29] (fun s29 W => ∃ j : Nat, j ≤ q.cols.length ∧ s29 = .int .i64 j ∧ Ext wa W ∧ knwC cols q.cols = knwC cols (q.cols.drop j)) (fun v _ => q.cols.length - (intOf v).toNat)
 case atStart => exact ⟨0, by omega, rfl, Ext.refl _, rfl⟩
 case round =>
 obtain ⟨wo, hwo⟩ : ∃ W : World, W = wr := ⟨_, rfl⟩
 subst hwo
 obtain ⟨j, hj, rfl, hX2, hkn⟩ := hrel
 have HXo := Aside0.mk hX2
 have HXX := Aside0.mk (HX.out.trans hX2)
 have HKN := Aside0.mk hkn
 have hzs := heap_below HZS.out hX2
 have s0 := blk_cell hzs 0
 have s1 := blk_cell hzs 1
 have s2 := blk_cell hzs 2
 have s3 := blk_cell hzs 3
 clear hX2 hkn hzs
 by_cases hlt : j < q.cols.length
 ·
  have hb : (j : Int) < q.cols.length := by omega
  have hb0 : (0 : Int) ≤ j := by omega
  have hln : q.cols.length ≤ 1000000000000 := by omega
  obtain ⟨ad, hA, hcj⟩ := Kd.at_string (Kd.C_below H5.out HXX.out) (j : Int) (by omega) (by omega)
  obtain ⟨x, hx⟩ : ∃ x, x = q.cols[j] := ⟨_, rfl⟩
  rw [rdOf_map _ _ hlt, ← hx, Int.toNat_natCast] at hcj
  subst hA
  have hst : knwC cols (q.cols.drop j) = (decide (0 ≤ plcL cols x 0) && knwC cols (q.cols.drop (j + 1))) := by rw [List.drop_eq_getElem_cons hlt, knwC_cons, ← hx]
  have HST := Aside0.mk (HKN.out.trans hst)
  clear hx hst
  by_cases hn : plcL cols x 0 < 0
  ·
   have HPE : Aside0 (planR q cols idx r1 = (0, 0, 320)) := ⟨by
    have h0 := HST.out
    rw [decide_eq_false (by omega), Bool.false_and] at h0
    rw [HPL.out, if_neg (fun h => by have h2 := h.2; unfold knwA at h2; rw [h0] at h2; simp at h2)]⟩
   go_wp2_with (go_at_call 56; (with_reducible refine (HPC0.out _ HXX.out _).mono ?_); rintro e w4 ⟨rfl, hE4⟩; have HX4 := Aside0.mk hE4; clear hE4)
   refine bodyPost_ret (v := .tuple #[.int .i64 0, .slice none 0 0, .int .i64 320]) (by simp [results, Tryz.results35, go_sem]) rfl ⟨⟨none, 0, by rw [HPE.out]; rfl⟩, HXX.out.trans HX4.out⟩
  ·
   have HST2 : Aside0 (knwC cols q.cols = knwC cols (q.cols.drop (j + 1))) := ⟨by rw [HST.out, decide_eq_true (by omega), Bool.true_and]⟩
   go_wp2_with (go_at_call 56; (with_reducible refine (HPC0.out _ HXX.out _).mono ?_); rintro e w4 ⟨rfl, hE4⟩; have HX4 := Aside0.mk hE4; clear hE4)
   go_roundw
   case rel => exact ⟨j + 1, by omega, by go_num, HXo.out.trans HX4.out, HST2.out⟩
   case measure => simp [intOf]; omega
 obtain rfl : j = q.cols.length := by omega
 have HKC : Aside0 (knwC cols q.cols = true) := ⟨by rw [HKN.out, List.drop_length]; rfl⟩
 have hb : ¬ ((q.cols.length : Int) < q.cols.length) := by omega
 have y2 : wo.cell? ⟨ab, 2, none⟩ = some (.slice A7 q.wh.length c7) := blk_cell (heap_below HZA.out HXo.out) 2
 clear hlt hj HKN s0 s1 s2 s3
 go_wp2_with fail
 clear hb y2
 go_loopw [41] (fun s41 W => ∃ j : Nat, j ≤ q.wh.length ∧ s41 = .int .i64 j ∧ Ext wa W ∧ knwT cols q.wh = knwT cols (q.wh.drop j)) (fun v _ => q.wh.length - (intOf v).toNat)
 case atStart => exact ⟨0, by omega, rfl, HXo.out, rfl⟩
 case round =>
 clear HXo HXX
 obtain ⟨wp, hwp⟩ : ∃ W : World, W = wr := ⟨_, rfl⟩
 subst hwp
 obtain ⟨j, hj, rfl, hX2, hkn⟩ := hrel
 have HXo := Aside0.mk hX2
 have HXX := Aside0.mk (HX.out.trans hX2)
 have HKN := Aside0.mk hkn
 clear hX2 hkn
 by_cases hlt : j < q.wh.length
 ·
  have hb : (j : Int) < q.wh.length := by omega
  have hb0 : (0 : Int) ≤ j := by omega
  have hln : q.wh.length ≤ 1000000000000 := by omega
  obtain ⟨t, ht⟩ : ∃ t, t = q.wh[j] := ⟨_, rfl⟩
  obtain ⟨ad, hA, d1, d2, d3⟩ := at_T37 (Kd.C_below H7.out HXX.out) (j : Int) (by omega) hb
  rw [rd37 _ _ hlt, ← ht] at d1 d2 d3
  simp only [t37, Int.toNat_natCast] at d1 d2 d3
  subst hA
  have hst : knwT cols (q.wh.drop j) = (decide (0 ≤ plcL cols t.col 0) && knwT cols (q.wh.drop (j + 1))) := by rw [List.drop_eq_getElem_cons hlt, knwT_cons, ← ht]
  have HST := Aside0.mk (HKN.out.trans hst)
  clear ht hst
  go_upto_region 13 with fail
  obtain ⟨wt, hwt⟩ : ∃ W, W = wp.alloc (.cells #[.string (strB t.col), .int .i64 t.op, .string (strB t.val)] 37) := ⟨_, rfl⟩
  have hE1 : Ext wp wt := by rw [hwt]; exact (Ext.refl _).alloc _
  have hzt : wt.heap[wp.heap.size]? = some (.cells #[.string (strB t.col), .int .i64 t.op, .string (strB t.val)] 37 (0, 0)) := by rw [hwt]; exact heap_alloc_new _ _
  obtain ⟨tb, htb⟩ : ∃ n, n = wp.heap.size := ⟨_, rfl⟩
  rw [← htb] at hzt
  rw [← hwt, ← htb]
  have t0 := blk_cell hzt 0
  have hzs := heap_below HZS.out (HXo.out.trans hE1)
  have s0 := blk_cell hzs 0
  have s1 := blk_cell hzs 1
  have s2 := blk_cell hzs 2
  have s3 := blk_cell hzs 3
  have HXo := Aside0.mk (HXo.out.trans hE1)
  have HXX := Aside0.mk (HXX.out.trans hE1)
  clear hwt hE1 hzt htb hzs d1 d2 d3
  by_cases hn : plcL cols t.col 0 < 0
  ·
   have HPE : Aside0 (planR q cols idx r1 = (0, 0, 320)) := ⟨by
    have h0 := HST.out
    rw [decide_eq_false (by omega), Bool.false_and] at h0
    rw [HPL.out, if_neg (fun h => by have h2 := h.2; unfold knwA at h2; rw [h0] at h2; simp at h2)]⟩
   go_wp2_with (go_at_call 56; (with_reducible refine (HPC0.out _ HXX.out _).mono ?_); rintro e w4 ⟨rfl, hE4⟩; have HX4 := Aside0.mk hE4; clear hE4)
   refine bodyPost_ret (v := .tuple #[.int .i64 0, .slice none 0 0, .int .i64 320]) (by simp [results, Tryz.results35, go_sem]) rfl ⟨⟨none, 0, by rw [HPE.out]; rfl⟩, HXX.out.trans HX4.out⟩
  ·
   have HST2 : Aside0 (knwT cols q.wh = knwT cols (q.wh.drop (j + 1))) := ⟨by rw [HST.out, decide_eq_true (by omega), Bool.true_and]⟩
   go_wp2_with (go_at_call 56; (with_reducible refine (HPC0.out _ HXX.out _).mono ?_); rintro e w4 ⟨rfl, hE4⟩; have HX4 := Aside0.mk hE4; clear hE4)
   go_roundw
   case rel => exact ⟨j + 1, by omega, by go_num, HXo.out.trans HX4.out, HST2.out⟩
   case measure => simp [intOf]; omega
 obtain rfl : j = q.wh.length := by omega
 have HKT : Aside0 (knwT cols q.wh = true) := ⟨by rw [HKN.out, List.drop_length]; rfl⟩
 have hb : ¬ ((q.wh.length : Int) < q.wh.length) := by omega
 have y3 : wp.cell? ⟨ab, 3, none⟩ = some (.string (strB q.ord)) := blk_cell (heap_below HZA.out HXo.out) 3
 have hzs := heap_below HZS.out HXo.out
 have s0 := blk_cell hzs 0
 have s1 := blk_cell hzs 1
 have s2 := blk_cell hzs 2
 have s3 := blk_cell hzs 3
 have HZS := Aside0.mk hzs
 have HZA := Aside0.mk (heap_below HZA.out HXo.out)
 clear hlt hj HKN hzs HXo HX
 go_upto_region 16 with fail
 clear hb
 go_cut [60] (fun v60 wc => v60 = .bool (!knwO cols q.ord) ∧ Ext wp wc)
 case first =>
  by_cases ho : q.ord = []
  ·
   have ho0 : ((strB q.ord).toList == ([] : List UInt8)) = true := by simp [toList_strB, ho]
   have ho1 : ((strB q.ord).toList != ([] : List UInt8)) = false := by simp [toList_strB, ho]
   have HO : Aside0 (knwO cols q.ord = true) := ⟨by unfold knwO; rw [if_pos ho]⟩
   clear ho
   go_wp2_with fail
   go_meet
   case rel => exact ⟨by rw [HO.out]; rfl, Ext.refl _⟩
  ·
   have ho0 : ((strB q.ord).toList == ([] : List UInt8)) = false := by simp [toList_strB, ho]
   have ho1 : ((strB q.ord).toList != ([] : List UInt8)) = true := by simp [toList_strB, ho]
   have HO : Aside0 (decide (plcL cols q.ord 0 < 0) = !knwO cols q.ord) := ⟨by
    unfold knwO
    rw [if_neg ho]
    by_cases h : plcL cols q.ord 0 < 0
    ·
     rw [decide_eq_true h, decide_eq_false (by omega)]; rfl
    ·
     rw [decide_eq_false h, decide_eq_true (by omega)]; rfl⟩
   clear ho
   go_wp2_with (go_at_call 56; (with_reducible refine (HPC0.out _ HXX.out _).mono ?_); rintro e w4 ⟨rfl, hE4⟩; have HX4 := Aside0.mk hE4; clear hE4)
   go_meet
   case rel => exact ⟨congrArg Value.bool HO.out, HX4.out⟩
 case rest =>
 obtain ⟨rfl, hX2⟩ := hcut
 obtain ⟨wd, hwd⟩ : ∃ W : World, W = wc := ⟨_, rfl⟩
 subst hwd
 have HXX := Aside0.mk (HXX.out.trans hX2)
 have HZS := Aside0.mk (heap_below HZS.out hX2)
 have HZA := Aside0.mk (heap_below HZA.out hX2)
 clear hX2 y3 s0 s1 s2 s3
 cases hko : knwO cols q.ord with
 | false =>
  have HPE : Aside0 (planR q cols idx r1 = (0, 0, 320)) := ⟨by rw [HPL.out, if_neg (fun h => by have h2 := h.2; unfold knwA at h2; rw [hko] at h2; simp at h2)]⟩
  clear hko
  go_wp2_with fail
  refine bodyPost_ret (v := .tuple #[.int .i64 0, .slice none 0 0, .int .i64 320]) (by simp [results, Tryz.results35, go_sem]) rfl ⟨⟨none, 0, by rw [HPE.out]; rfl⟩, HXX.out⟩
 | true =>
 have HPE : Aside0 (planR q cols idx r1 = ((bestL cols q.wh idx 0 (-1) (valsL cols q.wh r1)).1, ((bestL cols q.wh idx 0 (-1) (valsL cols q.wh r1)).2.length : Int), 0)) := ⟨by rw [HPL.out, if_pos ⟨by first | rfl | trivial, by unfold knwA; rw [HKC.out, HKT.out, hko]; rfl⟩]⟩
 clear hko
 go_upto_region 18 with fail
 refine ext_region 7 [(0, 61), (1, 62), (2, 63), (3, 64), (4, 65), (5, 13), (6, 14)] [0, 1, 2, 3, 4, 5, 6] (fun i w v => match i with | 0 => v = .agg #[.slice A5 q.cols.length c5, .string (strB q.tab), .slice A7 q.wh.length c7, .string (strB q.ord), .bool q.down, .int .i64 q.lim] | 1 => v = .agg #[.string nm, .slice A1 cols.length c1, .int .i64 ks, .slice A3 idx.length c3] | 2 => v = .agg #[.string nm, .slice A1 cols.length c1, .int .i64 ks, .slice A3 idx.length c3] | 3 => ∃ A c, v = .slice A r1.length c ∧ r1.length ≤ c ∧ Kd.C (Kd.int .i64) w A r1.length r1 | 4 => ∃ A c, v = .slice A (valsL cols q.wh r1).length c | 5 => v = .int .i64 (-1) | 6 => ∃ A c, v = .slice A (valsL cols q.wh r1).length c | _ => True) (by kernel_rfl) (by kernel_rfl) (by rfl) rfl ?mono18 ?steps18 ?fin18
 case mono18 =>
  intro i w w' v h hE
  match i with
  | 0 => exact h
  | 1 => exact h
  | 2 => exact h
  | 3 => exact (by obtain ⟨A, c, e1, e2, e3⟩ := h; exact ⟨A, c, e1, e2, Kd.C_below e3 hE⟩)
  | 4 => exact h
  | 5 => exact h
  | 6 => exact h
  | _ + 7 => trivial
 case steps18 =>
  refine stepE_cons ⟨_, rfl, fun a w hE hH => ?_⟩ ?_
  ·
   have e3 : a.tmps[3]? = some (.pointer (some ⟨ab, 0, none⟩)) := hH.old 3 rfl
   have h0 := cell_ext ((Ext.to_drew _).trans hE) (blk_cell HZA.out 0)
   have h1 := cell_ext ((Ext.to_drew _).trans hE) (blk_cell HZA.out 1)
   have h2 := cell_ext ((Ext.to_drew _).trans hE) (blk_cell HZA.out 2)
   have h3 := cell_ext ((Ext.to_drew _).trans hE) (blk_cell HZA.out 3)
   have h4 := cell_ext ((Ext.to_drew _).trans hE) (blk_cell HZA.out 4)
   have h5 := cell_ext ((Ext.to_drew _).trans hE) (blk_cell HZA.out 5)
   exact Or.inl ⟨(rfl), goodE_val (.agg #[.slice A5 q.cols.length c5, .string (strB q.tab), .slice A7 q.wh.length c7, .string (strB q.ord), .bool q.down, .int .i64 q.lim]) (by simp [execOp, Act.eval, e3, h0, h1, h2, h3, h4, h5, go_sem]) rfl⟩
  refine stepE_cons ⟨_, rfl, fun a w hE hH => ?_⟩ ?_
  ·
   have e2 : a.tmps[2]? = some (.pointer (some ⟨sb, 0, none⟩)) := hH.old 2 rfl
   have h0 := cell_ext ((Ext.to_drew _).trans hE) (blk_cell HZS.out 0)
   have h1 := cell_ext ((Ext.to_drew _).trans hE) (blk_cell HZS.out 1)
   have h2 := cell_ext ((Ext.to_drew _).trans hE) (blk_cell HZS.out 2)
   have h3 := cell_ext ((Ext.to_drew _).trans hE) (blk_cell HZS.out 3)
   exact Or.inl ⟨(rfl), goodE_val (.agg #[.string nm, .slice A1 cols.length c1, .int .i64 ks, .slice A3 idx.length c3]) (by simp [execOp, Act.eval, e2, h0, h1, h2, h3, go_sem]) rfl⟩
  refine stepE_cons ⟨_, rfl, fun a w hE hH => ?_⟩ ?_
  ·
   have e2 : a.tmps[2]? = some (.pointer (some ⟨sb, 0, none⟩)) := hH.old 2 rfl
   have h0 := cell_ext ((Ext.to_drew _).trans hE) (blk_cell HZS.out 0)
   have h1 := cell_ext ((Ext.to_drew _).trans hE) (blk_cell HZS.out 1)
   have h2 := cell_ext ((Ext.to_drew _).trans hE) (blk_cell HZS.out 2)
   have h3 := cell_ext ((Ext.to_drew _).trans hE) (blk_cell HZS.out 3)
   exact Or.inl ⟨(rfl), goodE_val (.agg #[.string nm, .slice A1 cols.length c1, .int .i64 ks, .slice A3 idx.length c3]) (by simp [execOp, Act.eval, e2, h0, h1, h2, h3, go_sem]) rfl⟩
  refine stepE_cons ⟨_, rfl, fun a w hE hH => ?_⟩ ?_
  ·
   obtain ⟨v63, e63, g63⟩ := hH.dep 2 63 rfl (by kernel_rfl)
   have q63 : v63 = .agg #[.string nm, .slice A1 cols.length c1, .int .i64 ks, .slice A3 idx.length c3] := g63
   subst q63
   exact Or.inl ⟨(rfl), goodE_call rfl #[.agg #[.string nm, .slice A1 cols.length c1, .int .i64 ks, .slice A3 idx.length c3]] (by simp [Act.eval, e63]) _ Tryz.func58 (by kernel_rfl) (by kernel_rfl) ((HKE0.out w (HXX.out.trans ((Ext.to_drew _).trans hE))).mono (fun e w' ⟨A, c, h1, h2, h3, h4⟩ => ⟨_, h1, h4, ⟨A, c, rfl, h2, h3⟩⟩))⟩
  refine stepE_cons ⟨_, rfl, fun a w hE hH => ?_⟩ ?_
  ·
   obtain ⟨v61, e61, g61⟩ := hH.dep 0 61 rfl (by kernel_rfl)
   have q61 : v61 = .agg #[.slice A5 q.cols.length c5, .string (strB q.tab), .slice A7 q.wh.length c7, .string (strB q.ord), .bool q.down, .int .i64 q.lim] := g61
   subst q61
   obtain ⟨v62, e62, g62⟩ := hH.dep 1 62 rfl (by kernel_rfl)
   have q62 : v62 = .agg #[.string nm, .slice A1 cols.length c1, .int .i64 ks, .slice A3 idx.length c3] := g62
   subst q62
   obtain ⟨v64, e64, g64⟩ := hH.dep 3 64 rfl (by kernel_rfl)
   obtain ⟨A, c, rfl, hc, hC⟩ := g64
   exact Or.inl ⟨(rfl), goodE_call rfl #[.agg #[.slice A5 q.cols.length c5, .string (strB q.tab), .slice A7 q.wh.length c7, .string (strB q.ord), .bool q.down, .int .i64 q.lim], .agg #[.string nm, .slice A1 cols.length c1, .int .i64 ks, .slice A3 idx.length c3], .slice A r1.length c] (by simp [Act.eval, e61, e62, e64]) _ Tryz.func57 (by kernel_rfl) (by kernel_rfl) ((HVA0.out w (HXX.out.trans ((Ext.to_drew _).trans hE)) r1 A c hC hc HR1.out).mono (fun e w' ⟨A, c, h1, h2⟩ => ⟨_, h1, h2, ⟨A, c, rfl⟩⟩))⟩
  refine stepE_cons ⟨_, rfl, fun a w hE hH => ?_⟩ ?_
  ·
   exact Or.inl ⟨rfl, goodE_assign _ rfl rfl rfl⟩
  refine stepE_cons ⟨_, rfl, fun a w hE hH => ?_⟩ ?_
  ·
   obtain ⟨v65, e65, g65⟩ := hH.dep 4 65 rfl (by kernel_rfl)
   exact Or.inl ⟨rfl, goodE_assign v65 rfl (eval_of e65) g65⟩
  exact stepE_nil
 rintro vals wz hE hV
 have k13 : vals 5 = .int .i64 (-1) := hV 5 (by simp) rfl
 have k14 : ∃ A c, (vals 6) = .slice A (valsL cols q.wh r1).length c := hV 6 (by simp) rfl
 simp only [List.map_cons, List.map_nil, putAll, Act.put, List.setIfInBounds_toArray, List.set_cons_zero, List.set_cons_succ, k13]
 obtain ⟨A14, c14, hv14⟩ := k14
 have HXX := Aside0.mk (HXX.out.trans ((Ext.to_drew _).trans hE))
 have HZS := Aside0.mk (heap_below HZS.out ((Ext.to_drew _).trans hE))
 have HZA := Aside0.mk (heap_below HZA.out ((Ext.to_drew _).trans hE))
 rw [hv14]
 clear hE hV k13 hv14
 obtain ⟨we, hwe⟩ : ∃ W : World, W = wz := ⟨_, rfl⟩
 subst hwe
 have s3 := blk_cell HZS.out 3
 go_wp2_with fail
 clear s3
 go_loopw [13, 14, 69] (fun s13 s14 s69 W => ∃ (j : Nat) (b : Int) (vs : List ByteArray) (A : Option Addr) (c : Nat), j ≤ idx.length ∧ s13 = .int .i64 b ∧ s14 = .slice A vs.length c ∧ s69 = .int .i64 j ∧ Ext we W ∧ bestL cols q.wh (idx.drop j) j b vs = bestL cols q.wh idx 0 (-1) (valsL cols q.wh r1)) (fun _ _ v _ => idx.length - (intOf v).toNat)
 case atStart => exact ⟨0, -1, _, _, _, by omega, rfl, rfl, rfl, Ext.refl _, rfl⟩
 case round =>
 obtain ⟨wo, hwo⟩ : ∃ W : World, W = wr := ⟨_, rfl⟩
 subst hwo
 obtain ⟨j, b, vs, A, c, hj, rfl, rfl, rfl, hX2, hbest⟩ := hrel
 have HXo := Aside0.mk hX2
 have HX3 := Aside0.mk (HXX.out.trans hX2)
 have HBE := Aside0.mk hbest
 have hzs := heap_below HZS.out hX2
 have hza := heap_below HZA.out hX2
 have s0 := blk_cell hzs 0
 have s1 := blk_cell hzs 1
 have s2 := blk_cell hzs 2
 have s3 := blk_cell hzs 3
 have y0 := blk_cell hza 0
 have y1 := blk_cell hza 1
 have y2 := blk_cell hza 2
 have y3 := blk_cell hza 3
 have y4 := blk_cell hza 4
 have y5 := blk_cell hza 5
 clear hX2 hbest hzs hza
 by_cases hlt : j < idx.length
 ·
  have hb : (j : Int) < idx.length := by omega
  have hb0 : (0 : Int) ≤ j := by omega
  have hln : idx.length ≤ 1000000000000 := by omega
  obtain ⟨l, hl⟩ : ∃ l, l = idx[j] := ⟨_, rfl⟩
  have hstep : bestL cols q.wh (idx.drop j) j b vs = if (valsL cols q.wh l).length > vs.length then bestL cols q.wh (idx.drop (j + 1)) (j + 1) (j : Int) (valsL cols q.wh l) else bestL cols q.wh (idx.drop (j + 1)) (j + 1) b vs := by rw [List.drop_eq_getElem_cons hlt, bestL, ← hl]
  have HST := Aside0.mk (hstep.symm.trans HBE.out)
  have HLL : Aside0 (l.length ≤ 2000000) := ⟨HLE.out l (by rw [hl]; exact List.getElem_mem hlt)⟩
  obtain ⟨ad, A0, c0, hA, hcell, hcl, hint⟩ := at_L6 (Kd.C_below H3.out HX3.out) (j : Int) (by omega) hb
  rw [rdL6_get _ _ hlt, ← hl] at hcell hcl hint
  rw [Int.toNat_natCast] at hcell
  subst hA
  have hvc := HVA0.out wo HX3.out l A0 c0 hint hcl HLL.out
  clear hstep hl hint
  by_cases hgt : (valsL cols q.wh l).length > vs.length
  ·
   have hg1 : (vs.length : Int) < ((valsL cols q.wh l).length : Int) := by omega
   have HN := Aside0.mk (by have := HST.out; rwa [if_pos hgt] at this)
   clear hgt
   go_wp2_with (go_at_call 57; (with_reducible refine hvc.mono ?_); rintro e w4 ⟨A9, c9, rfl, hE4⟩; have HX4 := Aside0.mk hE4; clear hE4)
   go_roundw
   case rel => exact ⟨_, _, _, _, _, _, _, _, _, _, _, _, _, _, _, _, _, _, _, _, _, _, ⟨j + 1, _, _, _, _, by omega, rfl, rfl, by go_num, HXo.out.trans HX4.out, HN.out⟩, rfl⟩
   case measure => simp [intOf]; omega
  ·
   have hg1 : ¬ (vs.length : Int) < ((valsL cols q.wh l).length : Int) := by omega
   have HN := Aside0.mk (by have := HST.out; rwa [if_neg hgt] at this)
   clear hgt
   go_wp2_with (go_at_call 57; (with_reducible refine hvc.mono ?_); rintro e w4 ⟨A9, c9, rfl, hE4⟩; have HX4 := Aside0.mk hE4; clear hE4)
   go_roundw
   case rel => exact ⟨_, _, _, _, _, _, _, _, _, _, _, _, _, _, _, _, _, _, _, _, _, _, ⟨j + 1, _, _, _, _, by omega, rfl, rfl, by go_num, HXo.out.trans HX4.out, HN.out⟩, rfl⟩
   case measure => simp [intOf]; omega
 obtain rfl : j = idx.length := by omega
 have hb : ¬ ((idx.length : Int) < idx.length) := by omega
 have HF : Aside0 (planR q cols idx r1 = (b, (vs.length : Int), 0)) := ⟨by rw [HPE.out, ← HBE.out, List.drop_length, bestL]⟩
 clear hlt hj
 go_wp2_with fail
 refine bodyPost_ret (v := .tuple #[.int .i64 b, .slice A vs.length c, .int .i64 0]) (by simp [results, Tryz.results35, go_sem]) rfl ⟨⟨A, c, by rw [HF.out]; simp⟩, HX3.out⟩
end Go.Proofs.YthhemephaabblaaGreatDoor.Hq
namespace Go.Proofs.YthhemephaabblaaGreatDoor.Hq
open Go.RowKit Go.Proofs.YthhemephaabblaaGreatDoorW.PrintWords Go.Proofs.YthhemephaabblaaGreatDoorW.PrintLast Go.Proofs.YthhemephaabblaaGreatDoorW.PrintMore Go.Proofs.YthhemephaabblaaGreatDoor Go.Proofs.YthhemephaabblaaGreatDoor.Q Go.Proofs.YthhemephaabblaaGreatDoor.R
set_option linter.unusedVariables false
set_option linter.unusedSimpArgs false
theorem planR_nn (q : Qry) (cols : List ByteArray) (idx : List (List Int)) (r1 : List Int) : (((planR q cols idx r1).2.1.toNat : Nat) : Int) = (planR q cols idx r1).2.1 := by
 unfold planR
 split <;> simp
set_option maxRecDepth 100000 in
theorem qPlan_calls (nm : ByteArray) (cols : List ByteArray) (ks : Int) (idx : List (List Int)) (r1 : List Int) (q : Qry) (hok : okQ q) (A1 : Option Addr) (c1 : Nat) (A3 : Option Addr) (c3 : Nat) (A5 : Option Addr) (c5 : Nat) (A7 : Option Addr) (c7 : Nat) (w : World) (hG : Glob w)
  (h1 : Kd.C Kd.string w A1 cols.length cols) (hc1 : cols.length ≤ c1) (h3 : Kd.C (Kd.slice 3 (Kd.int .i64)) w A3 idx.length idx) (hc3 : idx.length ≤ c3) (h5 : Kd.C Kd.string w A5 q.cols.length (q.cols.map strB)) (hc5 : q.cols.length ≤ c5) (h7 : Kd.C k37 w A7 q.wh.length (q.wh.map t37)) (hc7 : q.wh.length ≤ c7)
  (hl1 : cols.length ≤ 2000000) (hl3 : idx.length ≤ 2000000) (hle : ∀ x ∈ idx, x.length ≤ 2000000) (hl5 : q.cols.length ≤ 2000000) (hl7 : q.wh.length ≤ 2000000) (hr1 : r1.length ≤ 2000000) (k : Nat) (hk : query_key.f k nm cols ks idx = some r1) :
  Calls Tryz.prog 16 #[.agg #[.string nm, .slice A1 cols.length c1, .int .i64 ks, .slice A3 idx.length c3], .agg #[.slice A5 q.cols.length c5, .string (strB q.tab), .slice A7 q.wh.length c7, .string (strB q.ord), .bool q.down, .int .i64 q.lim]] w fun e w' => e = .returned (.tuple #[.int .i64 (planR q cols idx r1).1, .int .i64 (planR q cols idx r1).2.1, .int .i64 (planR q cols idx r1).2.2]) ∧ Ext w w' := by
 have HPL0 : Aside0 (∀ W, Ext w W → Calls Tryz.prog 35 #[.agg #[.string nm, .slice A1 cols.length c1, .int .i64 ks, .slice A3 idx.length c3], .agg #[.slice A5 q.cols.length c5, .string (strB q.tab), .slice A7 q.wh.length c7, .string (strB q.ord), .bool q.down, .int .i64 q.lim]] W (fun e w' => (∃ A c, e = .returned (.tuple #[.int .i64 (planR q cols idx r1).1, .slice A ((planR q cols idx r1).2.1).toNat c, .int .i64 (planR q cols idx r1).2.2])) ∧ Ext W w')) := ⟨fun W hW =>
  qplan_calls nm cols ks idx r1 q hok A1 c1 A3 c3 A5 c5 A7 c7 W (Glob.of_below hG hW) (Kd.C_below h1 hW) hc1 (Kd.C_below h3 hW) hc3 (Kd.C_below h5 hW) hc5 (Kd.C_below h7 hW) hc7 hl1 hl3 hle hl5 hl7 hr1 k hk⟩
 have hnn := planR_nn q cols idx r1
 obtain ⟨X, hX⟩ : ∃ X, X = planR q cols idx r1 := ⟨_, rfl⟩
 rw [← hX] at HPL0 hnn ⊢
 clear h1 h3 h5 h7 hG hok hle hr1 hk hX
 obtain ⟨x1, x2, x3⟩ := X
 obtain ⟨n, rfl⟩ : ∃ n : Nat, x2 = (n : Int) := ⟨x2.toNat, hnn.symm⟩
 simp only [Int.toNat_natCast] at HPL0 hnn ⊢
 clear hnn
 go_enter Tryz.func16, Tryz.ntmps16
 go_upto_region 1 with fail
 obtain ⟨w2, hw2⟩ : ∃ W, W = (w.alloc (.cells #[.string nm, .slice A1 cols.length c1, .int .i64 ks, .slice A3 idx.length c3] 49)).alloc (.cells #[.slice A5 q.cols.length c5, .string (strB q.tab), .slice A7 q.wh.length c7, .string (strB q.ord), .bool q.down, .int .i64 q.lim] 25) := ⟨_, rfl⟩
 have hE2 : Ext w w2 := by rw [hw2]; exact ((Ext.refl w).alloc _).alloc _
 have hzs : w2.heap[w.heap.size]? = some (.cells #[.string nm, .slice A1 cols.length c1, .int .i64 ks, .slice A3 idx.length c3] 49 (0, 0)) := by rw [hw2]; exact heap_alloc2_old w _ _
 have hza : w2.heap[w.heap.size + 1]? = some (.cells #[.slice A5 q.cols.length c5, .string (strB q.tab), .slice A7 q.wh.length c7, .string (strB q.ord), .bool q.down, .int .i64 q.lim] 25 (0, 0)) := by rw [hw2]; have := heap_alloc_new (w.alloc (.cells #[.string nm, .slice A1 cols.length c1, .int .i64 ks, .slice A3 idx.length c3] 49)) (.cells #[.slice A5 q.cols.length c5, .string (strB q.tab), .slice A7 q.wh.length c7, .string (strB q.ord), .bool q.down, .int .i64 q.lim] 25); simpa using this
 rw [← hw2]
 obtain ⟨sb, hsb⟩ : ∃ n, n = w.heap.size := ⟨_, rfl⟩
 obtain ⟨ab, hab⟩ : ∃ n, n = w.heap.size + 1 := ⟨_, rfl⟩
 rw [← hab] at hza ⊢
 rw [← hsb] at hzs ⊢
 have HX := Aside0.mk hE2
 have s0 := blk_cell hzs 0
 have s1 := blk_cell hzs 1
 have s2 := blk_cell hzs 2
 have s3 := blk_cell hzs 3
 have y0 := blk_cell hza 0
 have y1 := blk_cell hza 1
 have y2 := blk_cell hza 2
 have y3 := blk_cell hza 3
 have y4 := blk_cell hza 4
 have y5 := blk_cell hza 5
 clear hw2 hab hsb hzs hza hE2
 go_wp2_with (go_at_call 35; (with_reducible refine (HPL0.out _ HX.out).mono ?_); rintro e w3 ⟨⟨A, c, rfl⟩, hE3⟩; have HX := Aside0.mk (HX.out.trans hE3); clear hE3)
 refine bodyPost_ret (v := .tuple #[.int .i64 x1, .int .i64 n, .int .i64 x3]) (by simp [results, Tryz.results16, go_sem]) rfl ⟨rfl, HX.out⟩
end Go.Proofs.YthhemephaabblaaGreatDoor.Hq
