/- (*mac.Keyed).Copy; mac.Code. -/
import Derived.Test.YtnkhhnfmijljbaaDoorMKy
set_option linter.unusedVariables false
set_option linter.unusedSimpArgs false
namespace Go.Proofs.YtnkhhnfmijljbaaDoor
open Go.RowKit Go.Proofs.YtnkhhnfmijljbaaDoorW.PrintWords Go.Proofs.YtnkhhnfmijljbaaDoorW.PrintLast Go.Proofs.YtnkhhnfmijljbaaDoorW.PrintMore
open Extern.Stop (cell)

theorem goodE_build {P : Program} {o : Oper} {a : Act} {w : World} {Gi : World → Value → Prop} {t : TypeId} {parts : Array (Nat × Operand)} (cells : Array Value) (ho : o.op = .build t parts) (hb : P.built t (parts.map fun x => (x.1, a.eval x.2)).toList = some cells) (hg : Gi w (.agg cells)) : Go.Proofs.YtnkhhnfmijljbaaDoorW.PrintLast.Good P o a w Gi :=
  goodE_val _ (by unfold execOp; rw [ho]; simp only [Sem.run_bind, run_build w t _ cells hb, Result.andThen_ok, Sem.run_pure]) hg
set_option maxHeartbeats 1000000 in
set_option maxRecDepth 100000 in
theorem kcopy_calls (w : World) (g s : Nat) (sec bs : List UInt8) (hY : Ky w g s sec bs) :
    Calls Tryd.prog 30 #[.pointer (some ⟨g, 0, none⟩)] w (fun e w' => ∃ g2 s2, e = .returned (.pointer (some ⟨g2, 0, none⟩)) ∧ w.heap.size ≤ g2 ∧ w.heap.size ≤ s2 ∧ Ext w w' ∧ Ky w' g2 s2 sec bs) := by
  obtain ⟨N, hN⟩ : ∃ N, N = w.heap.size := ⟨_, rfl⟩
  have HN := Aside0.mk hN
  have HY := Aside0.mk hY
  clear hY hN
  go_enter Tryd.func30, Tryd.ntmps30
  go_wp2_with fail
  refine ext_region 12 [(0, 5), (1, 6), (2, 7), (3, 8), (4, 9), (5, 10), (6, 11), (7, 12), (8, 13), (9, 14), (10, 15), (11, 2)] [0, 1, 2, 3, 4, 5, 6, 7, 8, 9, 10, 11] (fun i w v => match i with | 0 => v = .pointer (some ⟨g, 0, none⟩) | 1 => v = .pointer (some ⟨g, 0, none⟩) | 2 => v = .pointer (some ⟨g, 0, none⟩) | 3 => v = .pointer (some ⟨s, 0, none⟩) | 4 => ∃ s2, v = .pointer (some ⟨s2, 0, none⟩) ∧ N ≤ s2 ∧ St w s2 (Spec.xorL 0x36 (Spec.key sec) ++ bs) (Spec.xorL 0x36 (Spec.key sec) ++ bs).length | 5 => v = .pointer (some ⟨g, 0, none⟩) | 6 => v = .pointer (some ⟨g, 0, none⟩) | 7 => v = .pointer (some ⟨g, 1, none⟩) | 8 => v = .agg ((Spec.xorL 0x5c (Spec.key sec)).map cell).toArray | 9 => ∃ s2, v = .agg (kyL s2 (Spec.xorL 0x5c (Spec.key sec))).toArray ∧ N ≤ s2 ∧ St w s2 (Spec.xorL 0x36 (Spec.key sec) ++ bs) (Spec.xorL 0x36 (Spec.key sec) ++ bs).length | 10 => ∃ g2 s2, v = .pointer (some ⟨g2, 0, none⟩) ∧ N ≤ g2 ∧ N ≤ s2 ∧ Ky w g2 s2 sec bs | 11 => ∃ g2 s2, v = .pointer (some ⟨g2, 0, none⟩) ∧ N ≤ g2 ∧ N ≤ s2 ∧ Ky w g2 s2 sec bs | _ => True) (by kernel_rfl) (by kernel_rfl) (by rfl) rfl ?mono3 ?steps3 ?fin3
  case mono3 =>
    intro i w w' v h hE
    match i with
    | 0 => exact h
    | 1 => exact h
    | 2 => exact h
    | 3 => exact h
    | 4 => exact (by obtain ⟨s2, h1, h2, h3⟩ := h; exact ⟨s2, h1, h2, h3.ext hE⟩)
    | 5 => exact h
    | 6 => exact h
    | 7 => exact h
    | 8 => exact h
    | 9 => exact (by obtain ⟨s2, h1, h2, h3⟩ := h; exact ⟨s2, h1, h2, h3.ext hE⟩)
    | 10 => exact (by obtain ⟨g2, s2, h1, h2, h3, h4⟩ := h; exact ⟨g2, s2, h1, h2, h3, h4.ext hE⟩)
    | 11 => exact (by obtain ⟨g2, s2, h1, h2, h3, h4⟩ := h; exact ⟨g2, s2, h1, h2, h3, h4.ext hE⟩)
    | _ + 12 => trivial
  case steps3 =>
    refine stepE_cons ⟨_, rfl, fun a w hE hH => ?_⟩ ?_
    ·
      have e0 : a.tmps[0]? = some (.pointer (some ⟨g, 0, none⟩)) := hH.old 0 rfl
      exact Or.inl ⟨rfl, goodE_move _ rfl (eval_of e0) rfl⟩
    refine stepE_cons ⟨_, rfl, fun a w hE hH => ?_⟩ ?_
    ·
      obtain ⟨v5, e5, g5⟩ := hH.dep 0 5 rfl (by kernel_rfl)
      have q5 : v5 = .pointer (some ⟨g, 0, none⟩) := g5
      subst q5
      exact Or.inl ⟨rfl, goodE_val (.pointer (some ⟨g, 0, none⟩)) (by simp [execOp, Act.eval, e5, go_sem]) rfl⟩
    refine stepE_cons ⟨_, rfl, fun a w hE hH => ?_⟩ ?_
    ·
      obtain ⟨v6, e6, g6⟩ := hH.dep 1 6 rfl (by kernel_rfl)
      have q6 : v6 = .pointer (some ⟨g, 0, none⟩) := g6
      subst q6
      exact Or.inl ⟨rfl, goodE_val (.pointer (some ⟨g, 0, none⟩)) (by simp [execOp, Act.eval, e6, go_sem]) rfl⟩
    refine stepE_cons ⟨_, rfl, fun a w hE hH => ?_⟩ ?_
    ·
      obtain ⟨v7, e7, g7⟩ := hH.dep 2 7 rfl (by kernel_rfl)
      have q7 : v7 = .pointer (some ⟨g, 0, none⟩) := g7
      subst q7
      exact Or.inl ⟨(rfl), goodE_val (.pointer (some ⟨s, 0, none⟩)) (by simp [execOp, Act.eval, e7, go_sem, ((HY.out.row.drew).ext hE).cell (kyL_0 s _)]) rfl⟩
    refine stepE_cons ⟨_, rfl, fun a w hE hH => ?_⟩ ?_
    ·
      obtain ⟨v8, e8, g8⟩ := hH.dep 3 8 rfl (by kernel_rfl)
      have q8 : v8 = .pointer (some ⟨s, 0, none⟩) := g8
      subst q8
      refine Or.inl ⟨(rfl), goodE_call rfl #[.pointer (some ⟨s, 0, none⟩)] (by simp [Act.eval, e8]) _ Tryd.func24 (by kernel_rfl) (by kernel_rfl) ?_⟩
      refine (copy_calls w s (Spec.xorL 0x36 (Spec.key sec) ++ bs) _ (HY.out.st.ext ((Ext.to_drew _).trans hE))).mono ?_
      rintro e w' ⟨rfl, h1, h2, h3⟩
      exact ⟨_, rfl, h1, w.heap.size, rfl, by have := ((Ext.to_drew _).trans hE).size; have := HN.out; omega, h3⟩
    refine stepE_cons ⟨_, rfl, fun a w hE hH => ?_⟩ ?_
    ·
      have e0 : a.tmps[0]? = some (.pointer (some ⟨g, 0, none⟩)) := hH.old 0 rfl
      exact Or.inl ⟨rfl, goodE_move _ rfl (eval_of e0) rfl⟩
    refine stepE_cons ⟨_, rfl, fun a w hE hH => ?_⟩ ?_
    ·
      obtain ⟨v10, e10, g10⟩ := hH.dep 5 10 rfl (by kernel_rfl)
      have q10 : v10 = .pointer (some ⟨g, 0, none⟩) := g10
      subst q10
      exact Or.inl ⟨rfl, goodE_val (.pointer (some ⟨g, 0, none⟩)) (by simp [execOp, Act.eval, e10, go_sem]) rfl⟩
    refine stepE_cons ⟨_, rfl, fun a w hE hH => ?_⟩ ?_
    ·
      obtain ⟨v11, e11, g11⟩ := hH.dep 6 11 rfl (by kernel_rfl)
      have q11 : v11 = .pointer (some ⟨g, 0, none⟩) := g11
      subst q11
      exact Or.inl ⟨rfl, goodE_val (.pointer (some ⟨g, 1, none⟩)) (by simp [execOp, Act.eval, e11, go_sem]) rfl⟩
    refine stepE_cons ⟨_, rfl, fun a w hE hH => ?_⟩ ?_
    ·
      obtain ⟨v12, e12, g12⟩ := hH.dep 7 12 rfl (by kernel_rfl)
      have q12 : v12 = .pointer (some ⟨g, 1, none⟩) := g12
      subst q12
      exact Or.inl ⟨(rfl), goodE_row g 1 ((Spec.xorL 0x5c (Spec.key sec)).map cell) _ rfl (eval_of e12) (fun i v hv => by rw [Nat.add_comm]; exact ((HY.out.row.drew).ext hE).cell (by simpa [kyL] using hv)) Tryd.underlying74 rfl (by rw [List.length_map, Spec.xorL_length, Spec.key_length]; kernel_rfl) rfl⟩
    refine stepE_cons ⟨_, rfl, fun a w hE hH => ?_⟩ ?_
    ·
      obtain ⟨v9, e9, g9⟩ := hH.dep 4 9 rfl (by kernel_rfl)
      obtain ⟨v13, e13, g13⟩ := hH.dep 8 13 rfl (by kernel_rfl)
      have q13 : v13 = .agg ((Spec.xorL 0x5c (Spec.key sec)).map cell).toArray := g13
      subst q13
      obtain ⟨s2, rfl, h1, h2⟩ := g9
      exact Or.inl ⟨(rfl), goodE_build (kyL s2 (Spec.xorL 0x5c (Spec.key sec))).toArray rfl (by simpa [eval_of e9, eval_of e13] using built85 s2 (Spec.xorL 0x5c (Spec.key sec)) (by rw [Spec.xorL_length, Spec.key_length])) ⟨s2, rfl, h1, h2⟩⟩
    refine stepE_cons ⟨_, rfl, fun a w hE hH => ?_⟩ ?_
    ·
      obtain ⟨v14, e14, g14⟩ := hH.dep 9 14 rfl (by kernel_rfl)
      obtain ⟨s2, rfl, h1, h2⟩ := g14
      refine Or.inl ⟨(rfl), goodE_new (.pointer (some ⟨w.heap.size, 0, none⟩)) (w.alloc (.cells (kyL s2 (Spec.xorL 0x5c (Spec.key sec))).toArray 85)) (by simp [execOp, Act.eval, e14, go_sem, Value.cells]) ((Ext.refl w).alloc _) ⟨w.heap.size, s2, rfl, by have := ((Ext.to_drew _).trans hE).size; have := HN.out; omega, h1, ⟨Row.alloc _ _ _, h2.ext ((Ext.refl w).alloc _), by have := h2.choose_spec.2.lt; omega⟩⟩⟩
    refine stepE_cons ⟨_, rfl, fun a w hE hH => ?_⟩ ?_
    ·
      obtain ⟨v15, e15, g15⟩ := hH.dep 10 15 rfl (by kernel_rfl)
      exact Or.inl ⟨rfl, goodE_assign v15 rfl (eval_of e15) g15⟩
    exact stepE_nil
  rintro vals wz hE hV
  have k2 : ∃ g2 s2, vals 11 = .pointer (some ⟨g2, 0, none⟩) ∧ N ≤ g2 ∧ N ≤ s2 ∧ Ky wz g2 s2 sec bs := hV 11 (by simp) rfl
  simp only [List.map_cons, List.map_nil, putAll, Act.put, List.setIfInBounds_toArray, List.set_cons_zero, List.set_cons_succ]
  obtain ⟨g2, s2, hv, h1, h2, h3⟩ := k2
  have HV := Aside0.mk hv
  have HK2 := Aside0.mk h3
  have HEz := Aside0.mk ((Ext.to_drew _).trans hE)
  rw [HN.out] at h1 h2
  clear hE hV hv h3
  go_wp2
  go_ret
  exact ⟨g2, s2, by show Ending.returned (vals _) = _; rw [HV.out], h1, h2, HEz.out, HK2.out⟩

set_option maxHeartbeats 1000000 in
set_option maxRecDepth 100000 in
theorem mcode_calls (w : World) (A : Option Addr) (c : Nat) (xs : List UInt8) (B : Option Addr) (d : Nat) (ps : List (List UInt8)) (hK : KTab w) (hF : FTab w) (hx : Bs w A xs.length xs) (hc : xs.length ≤ c) (hl : xs.length < 500000000000000000)
    (hp : Bss w B ps.length ps) (hlen : ps.flatten.length < 400000000000000000) :
    Calls Tryd.prog 26 #[.slice A xs.length c, .slice B ps.length d] w (fun e w' => e = .returned (hashV (Spec.code xs ps.flatten)) ∧ Below w.heap.size w w') := by
  obtain ⟨R, hRdef⟩ : ∃ R, R = w.heap.size := ⟨_, rfl⟩
  have HRD := Aside0.mk hRdef
  have hmax := hp.max
  have HK := Aside0.mk hK
  have HF := Aside0.mk hF
  have HX := Aside0.mk hx
  have HP := Aside0.mk hp
  clear hK hF hx hp
  go_enter Tryd.func26, Tryd.ntmps26
  go_wp2_with fail
  have hE0 : Ext w (w.alloc (.cells (z8 32).toArray 28)) := (Ext.refl w).alloc _
  refine (mnew_calls _ A c xs (HK.out.ext hE0) (HF.out.ext hE0) (HX.out.ext hE0) hc hl).mono ?_
  rintro e w1 ⟨G, S, rfl, hg, hs, hB1, hY1⟩
  have hg' : R < G := by simp at hg; omega
  have hs' : R < S := by simp at hs; omega
  have HB1 := Aside0.mk (hE0.trans hB1)
  have HA1 := Aside0.mk (show Row w1 R (z8 32) 28 by rw [hRdef]; exact (Row.alloc w (z8 32) 28).ext hB1)
  have HY1 := Aside0.mk hY1
  rw [← hRdef]
  clear hE0 hB1 hY1 hg hs hRdef
  go_wp2_with fail
  go_loopw [12] (fun i wr => ∃ k : Nat, k ≤ ps.length ∧ i = .int .i64 k ∧ Below w.heap.size w wr ∧ Row wr R (z8 32) 28 ∧ Ky wr G S xs (ps.take k).flatten) (fun i _ => ps.length - (intOf i).toNat)
  case atStart => exact ⟨0, by omega, rfl, HB1.out, HA1.out, HY1.out⟩
  case round =>
    obtain ⟨k, hk, rfl, hB, hA, hY⟩ := hrel
    have hxw := HP.out.below hB
    have hfl : (ps.take k).flatten.length ≤ ps.flatten.length := by
      conv => rhs; rw [← List.take_append_drop k ps, List.flatten_append, List.length_append]
      omega
    by_cases hlt : k < ps.length
    · obtain ⟨ad, A', c', rfl, hcell, hc', hbs⟩ := hxw.at_ k hlt
      have hnx : (ps.take (k + 1)).flatten = (ps.take k).flatten ++ ps.getD k [] := by
        rw [List.take_succ_eq_append_getElem hlt, List.flatten_append]
        simp [List.getD, hlt]
      have hfl1 : (ps.take (k + 1)).flatten.length ≤ ps.flatten.length := by
        conv => rhs; rw [← List.take_append_drop (k + 1) ps, List.flatten_append, List.length_append]
        omega
      have hne : ∀ a, A' = some a → 0 < (ps.getD k []).length → a.block ≠ S := by
        intro a ha hp0
        have hold : Bs w A' (ps.getD k []).length (ps.getD k []) := by
          obtain ⟨ad2, A2, c2, h1, h2, h3, h4⟩ := HP.out.at_ k hlt
          cases h1
          have e := (hB.cell (p := ad.add k) (Go.World.block_lt_of_cell? _ _ h2)).symm.trans hcell
          rw [h2] at e
          cases e
          exact h4
        have := fr_lt hold a ha hp0
        have := HRD.out
        omega
      obtain ⟨p, hp⟩ : ∃ p, p = ps.getD k [] := ⟨_, rfl⟩
      rw [← hp] at hcell hc' hbs hnx hne
      have hlen2 : (ps.take k).flatten.length + p.length < 4611686018427387000 := by rw [hnx, List.length_append] at hfl1; omega
      have HB2 := Aside0.mk hB
      have HA2 := Aside0.mk hA
      have HY2 := Aside0.mk hY
      have HNX := Aside0.mk hnx
      have HBS := Aside0.mk hbs
      have HNE := Aside0.mk hne
      have HK2 := Aside0.mk (HK.out.below hB HK.out.1)
      clear hB hA hY hnx hbs hne hfl hfl1 hxw hp
      go_wp2_with fail
      refine (kwrite_calls wr G S xs (ps.take k).flatten A' c' p HK2.out HY2.out HBS.out hc' HNE.out hlen2).mono ?_
      rintro e w2 ⟨rfl, hO, hY⟩
      have HB3 := Aside0.mk (below_only HB2.out hO (by have := HRD.out; omega) (by have := HB2.out.size; omega))
      have HA3 := Aside0.mk (hO.row HA2.out (by omega))
      have HY3 := Aside0.mk hY
      clear hO hY
      go_wp2
      go_roundw
      case rel => exact ⟨k + 1, by omega, by simp, HB3.out, HA3.out, by rw [HNX.out]; exact HY3.out⟩
      case measure => simp [intOf]; omega
    · obtain rfl : k = ps.length := by omega
      rw [List.take_of_length_le (Nat.le_refl _)] at hY
      have HB2 := Aside0.mk hB
      have HA2 := Aside0.mk hA
      have HY2 := Aside0.mk hY
      clear hB hA hY hxw
      go_wp2_with fail
      refine (kcode_calls wr G S xs ps.flatten (HK.out.below HB2.out HK.out.1) (HF.out.below HB2.out HF.out.1) HY2.out hlen).mono ?_
      rintro e w2 ⟨rfl, hE3⟩
      have HB3 := Aside0.mk (below_ext HB2.out hE3)
      have HA3 := Aside0.mk (HA2.out.ext hE3)
      have HCZ := Aside0.mk (show ((Spec.code xs ps.flatten).map cell).toArray.size = 32 by simp [Spec.code_length])
      clear hE3
      go_wp2_with (with_reducible change wpList _ _ _ (Oper.mk _ (Op.store 28 _ _) _ _ _ _ :: _) _ _; refine Aside0.out ?_)
      refine Aside0.mk ?_
      refine wpList_store_row rfl 28 _ _ rfl R ((Spec.code xs ps.flatten).map cell).toArray rfl (by simp only [go_sem, hashV, Act.eval, Act.put]; rfl) 28 _ HA3.out (by rw [HCZ.out]; kernel_rfl) (by rw [HCZ.out]; rfl) (oneCells _) ?_
      go_wp2
      (try simp only [Exit.inBlock, Exit.then])
      refine bodyPost_ret (results_cell_row rfl _ _ R 28 ((Spec.code xs ps.flatten).map cell).toArray (0, 0) _ rfl (setRow_heap _ _ _ _ _ _ HA3.out) Tryd.underlying28 rfl (by rw [HCZ.out]; kernel_rfl)) rfl ?_
      exact ⟨rfl, Below.setRow HB3.out (by rw [HRD.out]; exact Nat.le_refl _) _⟩
end Go.Proofs.YtnkhhnfmijljbaaDoor
