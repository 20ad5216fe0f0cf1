/- cairnref02.Sum: the digest, by the reference. -/
import Derived.Test.YtnkhhnfmijljbaaDoorPad
set_option linter.unusedVariables false
set_option linter.unusedSimpArgs false
namespace Go.Proofs.YtnkhhnfmijljbaaDoor
open Go.RowKit Go.Proofs.YtnkhhnfmijljbaaDoorW.PrintWords Go.Proofs.YtnkhhnfmijljbaaDoorW.PrintLast Go.Proofs.YtnkhhnfmijljbaaDoorW.PrintMore
open Extern.Stop (cell)

theorem wrap64 (x : Int) (h0 : 0 ≤ x) (h1 : x < 9223372036854775808) : IntKind.i64.wrap x = x := by
  simp [IntKind.wrap, IntKind.signed, IntKind.bits]; omega
/-- v[i:i+m] of a row of the call's own -/
theorem ob_sub {B : Nat} {w : World} {v : Value} {xs : List UInt8} (h : Ob B w v xs) (i m : Nat) (hi : i + m ≤ xs.length) (hm : 0 < m) :
    ∃ g o c, (∀ W : World, (Instr.slice 24 v (some (.int .i64 (i : Int))) (some (.int .i64 ((i + m : Nat) : Int))) none).run Tryd.prog W = .ok (.slice (some ⟨g, o, none⟩) m c) W) ∧ Bs w (some ⟨g, o, none⟩) m ((xs.drop i).take m) := by
  obtain ⟨A, c, rfl, hc, hb⟩ := h.open
  have hA : ∃ g, A = some ⟨g, 0, none⟩ := by
    rcases h.2 with ⟨he, h0⟩ | ⟨g, cap, cur, he, _⟩
    · rw [ints_length] at h0; omega
    · injection he with ha _ _
      exact ⟨g, ha⟩
  obtain ⟨g, rfl⟩ := hA
  obtain ⟨i5, hi5, _, hsz, _⟩ := i5
  have h1 := hb.take (i + m) hi
  have h2 := h1.drop (c := c) i (by rw [List.length_take]; omega) (by rw [List.length_take]; omega)
  have e : (xs.take (i + m)).drop i = (xs.drop i).take m := by rw [List.drop_take]; congr 1; omega
  have hl : ((xs.drop i).take m).length = m := by simp; omega
  rw [e, hl, if_neg (by omega)] at h2
  rw [Option.map_some, addr_add, Nat.zero_add] at h2
  refine ⟨g, i, c - i, fun W => ?_, h2⟩
  rw [cut_mid 24 5 .i64 .i64 Tryd.underlying24 hi5 1 hsz (some ⟨g, 0, none⟩) xs.length c i ((i + m : Nat) : Int) (by omega) (by omega) (by omega) hc W, Int.toNat_natCast, Int.toNat_natCast, if_neg (by omega), show i + m - i = m by omega, Option.map_some, addr_add, Nat.zero_add, Nat.mul_one]
def hashP (V : Spec.V) (j : Nat) : List Value := (V.bytes.take j).map cell ++ List.replicate (32 - j) (.int .u8 0)
theorem hashP_set (V : Spec.V) (j : Nat) (h : j < 32) : (hashP V j).set j (.int .u8 (n8 (V.bytes.getD j 0))) = hashP V (j + 1) := by
  match j, h with
  | 0, _ | 1, _ | 2, _ | 3, _ | 4, _ | 5, _ | 6, _ | 7, _ | 8, _ | 9, _ | 10, _ | 11, _ | 12, _ | 13, _ | 14, _ | 15, _ | 16, _ | 17, _ | 18, _ | 19, _ | 20, _ | 21, _ | 22, _ | 23, _ | 24, _ | 25, _ | 26, _ | 27, _ | 28, _ | 29, _ | 30, _ | 31, _ => rfl
  | k + 32, h => exact absurd h (by omega)
theorem shr0 (x : UInt32) : x.toUInt8 = (x >>> UInt32.ofNat 0).toUInt8 := by
  show x.toUInt8 = (x >>> 0).toUInt8
  simp
theorem bytes_at (V : Spec.V) (j : Nat) (h : j < 32) : V.bytes.getD j 0 = ((V.list.getD (j / 4) 0) >>> UInt32.ofNat (24 - 8 * (j % 4))).toUInt8 := by
  match j, h with
  | 0, _ | 1, _ | 2, _ | 4, _ | 5, _ | 6, _ | 8, _ | 9, _ | 10, _ | 12, _ | 13, _ | 14, _ | 16, _ | 17, _ | 18, _ | 20, _ | 21, _ | 22, _ | 24, _ | 25, _ | 26, _ | 28, _ | 29, _ | 30, _ => rfl
  | 3, _ | 7, _ | 11, _ | 15, _ | 19, _ | 23, _ | 27, _ | 31, _ => exact shr0 _
  | k + 32, h => exact absurd h (by omega)
theorem hashP_some (V : Spec.V) (j : Nat) (h : j < 32) : ∃ y, (hashP V j)[j]? = some y := ⟨_, List.getElem?_eq_getElem (by simp [hashP, Spec.V.bytes, Spec.bytes32]; omega)⟩
theorem hashP_32 (V : Spec.V) : hashP V 32 = V.bytes.map cell := rfl
set_option maxHeartbeats 2000000 in
set_option maxRecDepth 100000 in
theorem refSum_calls (w : World) (A : Option Addr) (c : Nat) (bs : List UInt8) (hR : RTab w) (hx : Bs w A bs.length bs) (hc : bs.length ≤ c) (hl : bs.length ≤ 10000000000000) :
    Calls Tryd.prog 14 #[.slice A bs.length c] w (fun e w' => e = .returned (hashV (Spec.digest bs)) ∧ Ext w w') := by
  obtain ⟨B, hBdef⟩ : ∃ B, B = w.heap.size := ⟨_, rfl⟩
  have HBD := Aside0.mk hBdef
  have HR := Aside0.mk hR
  have HX := Aside0.mk hx
  clear hR hx
  go_enter Tryd.func14, Tryd.ntmps14
  go_wp2_with (with_reducible change wpList _ _ _ (Oper.mk _ (Op.store 71 _ _) _ _ _ _ :: _) _ _; refine Aside0.out ?_)
  refine Aside0.mk ?_
  have h0 : Row (w.alloc (.cells (z8 32).toArray 28)) B (z8 32) 28 := by rw [hBdef]; exact Row.alloc w (z8 32) 28
  have hs1 : (w.alloc (.cells (z8 32).toArray 28)).heap.size = w.heap.size + 1 := by simp
  refine wpList_store_row rfl 71 _ _ rfl (w.heap.size + 1) (Spec.first.list.map u).toArray rfl rfl 71 (u0s 8).toArray (by rw [← hs1]; exact heap_alloc_new _ _) (by kernel_rfl) rfl (oneU _) ?_
  have hEr : Ext (w.alloc (.cells (z8 32).toArray 28)) (((w.alloc (.cells (z8 32).toArray 28)).alloc (.cells (u0s 8).toArray 71)).setRow (w.heap.size + 1) (Spec.first.list.map u).toArray) := by rw [← hs1]; exact below_alloc_setRow _ _ _
  refine wpList_world (fun w1 => Ext w w1 ∧ Row w1 B (z8 32) 28 ∧ Row w1 (B + 1) (Spec.first.list.map u) 71) ⟨((Ext.refl w).alloc _).trans hEr, h0.ext hEr, by rw [hBdef, ← hs1]; exact alloc_setRow _ _ _ _⟩ ?_
  rintro w1 ⟨hE1, hA1, hV1⟩
  have HE1 := Aside0.mk hE1
  have HA1 := Aside0.mk hA1
  have HV1 := Aside0.mk hV1
  rw [← hBdef]
  clear hE1 hA1 hV1 hEr h0 hBdef hs1
  go_wp2_with fail
  refine (padded_calls w1 A c bs (HX.out.ext HE1.out) hc (by omega)).mono ?_
  rintro e w2 ⟨pv, rfl, hO2, hE2⟩
  obtain ⟨pd, hpd⟩ : ∃ pd, pd = Spec.padded bs := ⟨_, rfl⟩
  rw [← hpd] at hO2
  obtain ⟨B2, hB2⟩ : ∃ B2, B2 = w1.heap.size := ⟨_, rfl⟩
  rw [← hB2] at hO2
  have hB12 : B + 1 < B2 := by rw [hB2]; exact HV1.out.lt
  have hwB : w.heap.size ≤ B := by rw [HBD.out]; exact Nat.le_refl _
  have hpm : pd.length % 64 = 0 := by rw [hpd]; exact Spec.padded_length bs
  have hpl : pd.length ≤ 20000000000000 := by rw [hpd]; simp [Spec.padded, Spec.be64, Spec.zerosFor]; omega
  have HPD := Aside0.mk hpd
  have HE2 := Aside0.mk (HE1.out.trans hE2)
  have HO2 := Aside0.mk hO2
  have HA2 := Aside0.mk (HA1.out.ext hE2)
  have HV2 := Aside0.mk (HV1.out.ext hE2)
  obtain ⟨A2, c2', hpv, hc2', _⟩ := hO2.open
  have HPV := Aside0.mk hpv
  clear hE2 hO2 hpd hB2
  go_wp2_with fail
  go_loopw [5] (fun i wr => ∃ n : Nat, 64 * n ≤ pd.length ∧ i = .int .i64 ((64 * n : Nat) : Int) ∧ Ext w wr ∧ Ob B2 wr pv pd ∧ Row wr B (z8 32) 28 ∧ Row wr (B + 1) ((Spec.foldN Spec.first pd n).list.map u) 71) (fun i _ => pd.length - (intOf i).toNat)
  case atStart => exact ⟨0, by omega, rfl, HE2.out, HO2.out, HA2.out, HV2.out⟩
  case round =>
    obtain ⟨n, hn, rfl, hE, hO, hA, hV⟩ := hrel
    obtain ⟨V, hVV⟩ : ∃ V, V = Spec.foldN Spec.first pd n := ⟨_, rfl⟩
    rw [← hVV] at hV
    obtain ⟨i0, hi0⟩ : ∃ i0, i0 = 64 * n := ⟨_, rfl⟩
    rw [← hi0] at hn ⊢
    have HI := Aside0.mk hi0
    have HE := Aside0.mk hE
    have HO := Aside0.mk hO
    have HA := Aside0.mk hA
    have HV := Aside0.mk hV
    by_cases hlt : i0 < pd.length
    · obtain ⟨blk, hblk⟩ : ∃ blk, blk = (pd.drop i0).take 64 := ⟨_, rfl⟩
      have HBL := Aside0.mk (show blk.length = 64 by rw [hblk]; simp; omega)
      have HNX := Aside0.mk (show Spec.foldN Spec.first pd (n + 1) = Spec.mix V blk by rw [Spec.foldN, ← hVV, ← hi0, ← hblk])
      obtain ⟨ml, hml⟩ : ∃ ml, ml = (Spec.mix V blk).list.map u := ⟨_, rfl⟩
      have HML := Aside0.mk hml
      have HMZ := Aside0.mk (show ml.toArray.size = 8 by rw [hml]; rfl)
      have HMO := Aside0.mk (show ml.toArray.all (·.oneCell') = true by rw [hml]; exact oneU _)
      obtain ⟨g, o, c2, hcut, hbb⟩ := ob_sub hO i0 64 (by omega) (by omega)
      rw [← hblk] at hbb
      have HBB := Aside0.mk hbb
      have HCUT := Aside0.mk hcut
      have HRw := Aside0.mk (HR.out.ext hE)
      have HW64 := Aside0.mk (show IntKind.i64.wrap ((i0 : Int) + 64) = (i0 : Int) + 64 from wrap64 _ (by omega) (by omega))
      have HLE := Aside0.mk (show i0 + 64 ≤ pd.length by omega)
      have hlt' : (i0 : Int) < pd.length := by omega
      clear hE hO hA hV hVV hblk hcut hbb hi0 hml
      rw [hpv]
      go_wp2_with fail
      rw [← hpv]
      refine ext_tail 8 [(0, 17), (1, 18), (2, 19), (3, 20), (4, 21), (5, 22), (6, 23)] [0, 1, 2, 3, 4, 5, 6] (fun i w v => match i with | 0 => v = .agg (V.list.map u).toArray | 1 => v = pv | 2 => v = .int .i64 (i0 : Int) | 3 => v = .int .i64 (i0 : Int) | 4 => v = .int .i64 ((i0 + 64 : Nat) : Int) | 5 => v = .slice (some ⟨g, o, none⟩) 64 c2 | 6 => v = .agg ml.toArray | _ => True) (by kernel_rfl) (by kernel_rfl) (by rfl) rfl ?mono6 ?steps6 ?fin6
      case mono6 =>
        intro i w w' v h hE
        match i with
        | 0 => exact h
        | 1 => exact h
        | 2 => exact h
        | 3 => exact h
        | 4 => exact h
        | 5 => exact h
        | 6 => exact h
        | _ + 7 => trivial
      case steps6 =>
        refine stepE_cons ⟨_, rfl, fun a w hE hH => ?_⟩ ?_
        ·
          have e3 : a.tmps[3]? = some (.pointer (some ⟨B + 1, 0, none⟩)) := hH.old 3 rfl
          exact Or.inl ⟨(rfl), goodE_row (B + 1) 0 (V.list.map u) _ rfl (eval_of e3) (rangeOfRow ((HV.out.drew).ext hE)) Tryd.underlying71 rfl (by kernel_rfl) rfl⟩
        refine stepE_cons ⟨_, rfl, fun a w hE hH => ?_⟩ ?_
        ·
          have e4 : a.tmps[4]? = some (pv) := hH.old 4 rfl
          exact Or.inl ⟨rfl, goodE_move _ rfl (eval_of e4) rfl⟩
        refine stepE_cons ⟨_, rfl, fun a w hE hH => ?_⟩ ?_
        ·
          have e5 : a.tmps[5]? = some (.int .i64 (i0 : Int)) := hH.old 5 rfl
          exact Or.inl ⟨rfl, goodE_move _ rfl (eval_of e5) rfl⟩
        refine stepE_cons ⟨_, rfl, fun a w hE hH => ?_⟩ ?_
        ·
          have e5 : a.tmps[5]? = some (.int .i64 (i0 : Int)) := hH.old 5 rfl
          exact Or.inl ⟨rfl, goodE_move _ rfl (eval_of e5) rfl⟩
        refine stepE_cons ⟨_, rfl, fun a w hE hH => ?_⟩ ?_
        ·
          obtain ⟨v20, e20, g20⟩ := hH.dep 3 20 rfl (by kernel_rfl)
          have q20 : v20 = .int .i64 (i0 : Int) := g20
          subst q20
          exact Or.inl ⟨(rfl), goodE_val (.int .i64 ((i0 + 64 : Nat) : Int)) (by simp [execOp, Act.eval, e20, go_sem]; exact HW64.out) rfl⟩
        refine stepE_cons ⟨_, rfl, fun a w hE hH => ?_⟩ ?_
        ·
          obtain ⟨v18, e18, g18⟩ := hH.dep 1 18 rfl (by kernel_rfl)
          have q18 : v18 = pv := g18
          subst q18
          obtain ⟨v19, e19, g19⟩ := hH.dep 2 19 rfl (by kernel_rfl)
          have q19 : v19 = .int .i64 (i0 : Int) := g19
          subst q19
          obtain ⟨v21, e21, g21⟩ := hH.dep 4 21 rfl (by kernel_rfl)
          have q21 : v21 = .int .i64 ((i0 + 64 : Nat) : Int) := g21
          subst q21
          exact Or.inl ⟨(rfl), goodE_val (.slice (some ⟨g, o, none⟩) 64 c2) (exec_slice rfl (by simp only [Option.map_some, Option.map_none, eval_of e18, eval_of e19, eval_of e21]; exact HCUT.out w)) rfl⟩
        refine stepE_cons ⟨_, rfl, fun a w hE hH => ?_⟩ ?_
        ·
          obtain ⟨v17, e17, g17⟩ := hH.dep 0 17 rfl (by kernel_rfl)
          have q17 : v17 = .agg (V.list.map u).toArray := g17
          subst q17
          obtain ⟨v22, e22, g22⟩ := hH.dep 5 22 rfl (by kernel_rfl)
          have q22 : v22 = .slice (some ⟨g, o, none⟩) 64 c2 := g22
          subst q22
          exact Or.inl ⟨(rfl), goodE_call rfl #[.agg (V.list.map u).toArray, .slice (some ⟨g, o, none⟩) 64 c2] (by simp [Act.eval, e17, e22]) _ Tryd.func34 (by kernel_rfl) (by kernel_rfl) ((mixed_calls w V g o c2 blk (HRw.out.ext ((Ext.to_drew _).trans hE)) HBL.out (HBB.out.ext ((Ext.to_drew _).trans hE))).mono (fun e w' h => ⟨.agg ml.toArray, by rw [HML.out]; exact h.1, h.2, rfl⟩))⟩
        exact stepE_nil
      refine ⟨⟨none, .store 71 (.tmp 3) (.tmp 23), _, _, _, none⟩, rfl, ?_⟩
      rintro vals wz hE hV
      have k23 : vals 6 = .agg ml.toArray := hV 6 (by simp) rfl
      refine ⟨rfl, ?_⟩
      intro KK hKK
      simp only [List.map_cons, List.map_nil, putAll, Act.put, List.setIfInBounds_toArray, List.set_cons_zero, List.set_cons_succ, k23]

      refine wp_store_row 71 _ _ rfl (B + 1) ml.toArray rfl rfl 71 (V.list.map u).toArray (HV.out.drew.ext hE) (by rw [HMZ.out]; kernel_rfl) (by rw [HMZ.out]; rfl) HMO.out (hKK _ _ ?_)
      refine wp_then_world (fun w6 => Ext w w6 ∧ Ob B2 w6 pv pd ∧ Row w6 B (z8 32) 28 ∧ Row w6 (B + 1) ml 71) ⟨?_, ?_, ?_, ?_⟩ ?_
      · exact Below.setRow (Ext.trans HE.out ((Ext.to_drew _).trans hE)) (by omega) _
      · exact (HO.out.ext ((Ext.to_drew _).trans hE)).only ((Only.refl wz (B + 1)).setRow _) (by omega)
      · unfold Row; rw [setRow_heap_other _ _ _ _ (by omega)]; exact HA.out.drew.ext hE
      · exact setRow_heap _ _ _ _ _ _ (HV.out.drew.ext hE)
      rintro w6 ⟨hE6, hO6, hA6, hV6⟩
      rw [HML.out, ← HNX.out] at hV6
      have HE6 := Aside0.mk hE6
      have HO6 := Aside0.mk hO6
      have HA6 := Aside0.mk hA6
      have HV6 := Aside0.mk hV6
      clear hE6 hO6 hA6 hV6 hE hV k23
      go_wp2
      go_roundw
      case rel => exact ⟨n + 1, by have := HLE.out; have := HI.out; omega, by simp; rw [HI.out]; omega, HE6.out, by rw [← HPV.out]; exact HO6.out, HA6.out, HV6.out⟩
      case measure => simp [intOf]; omega
    · have hnn : n = pd.length / 64 := by omega
      have HW := Aside0.mk (show V.bytes = Spec.digest bs by rw [hVV, hnn, HPD.out]; rfl)
      obtain ⟨C, hC⟩ : ∃ C, C = wr.heap.size := ⟨_, rfl⟩
      have hBC : B + 1 < C := by rw [hC]; exact hV.lt
      have hEa : Ext wr (wr.alloc (.cells (z8 32).toArray 28)) := (Ext.refl wr).alloc _
      have HE3 := Aside0.mk (hE.trans hEa)
      have HA3 := Aside0.mk (hA.ext hEa)
      have HV3 := Aside0.mk (hV.ext hEa)
      have HC3 := Aside0.mk (show Row (wr.alloc (.cells (z8 32).toArray 28)) C (hashP V 0) 28 by rw [hC]; exact Row.alloc wr (z8 32) 28)
      clear hE hO hA hV hVV hi0 hnn hEa
      rw [hpv]
      go_wp2_with fail
      rw [← hpv, ← hC]
      clear hC
      go_loopw [7] (fun i wr => ∃ j : Nat, j ≤ 32 ∧ i = .int .i64 (j : Int) ∧ Ext w wr ∧ Row wr B (z8 32) 28 ∧ Row wr (B + 1) (V.list.map u) 71 ∧ Row wr C (hashP V j) 28) (fun i _ => 32 - (intOf i).toNat)
      case atStart => exact ⟨0, by omega, rfl, HE3.out, HA3.out, HV3.out, HC3.out⟩
      case round =>
        obtain ⟨j, hj, rfl, hE, hA, hV, hS⟩ := hrel
        have HE4 := Aside0.mk hE
        have HA4 := Aside0.mk hA
        have HV4 := Aside0.mk hV
        have HS4 := Aside0.mk hS
        by_cases hlt : j < 32
        · obtain ⟨x, hx⟩ : ∃ x, x = V.list.getD (j / 4) 0 := ⟨_, rfl⟩
          have cx : wr.cell? ⟨B + 1, j / 4, none⟩ = some (.int .u32 (n32 x)) := hV.cell (by rw [hx]; exact listU_at V.list (j / 4) (show j / 4 < 8 by omega))
          obtain ⟨y, hy⟩ := hashP_some V j hlt
          have cy := hS.cell hy
          have cf := hS.free j
          have HBY := Aside0.mk (show V.bytes.getD j 0 = (x >>> UInt32.ofNat (24 - 8 * (j % 4))).toUInt8 by rw [bytes_at V j hlt, hx])
          have b1 : (0 : Int) ≤ (j : Int) / 4 ∧ (j : Int) / 4 < 8 := by omega
          have b2 : ¬ ((24 : Int) - 8 * ((j : Int) % 4) < 0) := by omega
          have b3 : (0 : Int) ≤ j ∧ (j : Int) < 32 := by omega
          clear hE hA hV hS hx hy
          go_wp2_with fail
          refine ⟨⟨j + 1, by omega, by simp, HE4.out.setCell (p := ⟨C, j, none⟩) (by show w.heap.size ≤ C; omega) _, HA4.out.other _ _ (by show B ≠ C; omega), HV4.out.other _ _ (by show B + 1 ≠ C; omega), ?_⟩, by simp [intOf]; omega⟩
          rw [u32_shr x _ (by omega), n32_byte, ← HBY.out, ← hashP_set V j hlt]
          exact HS4.out.set j _
        · obtain rfl : j = 32 := by omega
          have HS5 := Aside0.mk (show Row wr C ((Spec.digest bs).map cell) 28 by rw [← HW.out]; exact hS)
          obtain ⟨dl, hdl⟩ : ∃ dl, dl = (Spec.digest bs).map cell := ⟨_, rfl⟩
          have HDL := Aside0.mk hdl
          rw [← hdl] at HS5
          have HDZ := Aside0.mk (show dl.toArray.size = 32 by rw [hdl]; simp [Spec.digest_length])
          have HDO := Aside0.mk (show dl.toArray.all (·.oneCell') = true by rw [hdl]; exact oneCells _)
          clear hE hA hV hS hdl
          go_wp2_with (with_reducible refine gate_dst (N := 40) rfl ?_; refine Aside0.out ?_)
          refine Aside0.mk ?_
          refine wpList_load_row rfl 28 _ rfl C rfl 28 dl.toArray (0, 0) _ HS5.out Tryd.underlying28 rfl (by rw [HDZ.out]; kernel_rfl) ?_
          go_wp2_with (with_reducible change wpList _ _ _ (Oper.mk _ (Op.store 28 _ _) _ _ _ _ :: _) _ _; refine Aside0.out ?_)
          refine Aside0.mk ?_
          refine wpList_store_row rfl 28 _ _ rfl B dl.toArray rfl (by simp [go_sem]) 28 _ HA4.out (by rw [HDZ.out]; kernel_rfl) (by rw [HDZ.out]; rfl) HDO.out ?_
          go_wp2
          (try simp only [Exit.inBlock, Exit.then])
          refine bodyPost_ret (results_cell_row rfl _ _ B 28 dl.toArray (0, 0) _ rfl (setRow_heap _ _ _ _ _ _ HA4.out) Tryd.underlying28 rfl (by rw [HDZ.out]; kernel_rfl)) rfl ?_
          exact ⟨by rw [HDL.out]; rfl, Below.setRow HE4.out (by omega) _⟩
end Go.Proofs.YtnkhhnfmijljbaaDoor
