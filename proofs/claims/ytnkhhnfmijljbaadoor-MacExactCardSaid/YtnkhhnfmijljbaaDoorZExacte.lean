/- Parts of the proof: (*mac.Keyed).Copy; mac.Code. cairnlaw03.known: true where the code is the published one. The published codes, by the kernel. cairnlaw03.known at the four published codes. cairnlaw03.MacPieces: true. cairnref02.Padded: the padded bytes, in a row of the call's own. cairnref02.Sum: the digest, by the reference. cairnref02.Join; cairnlaw02.copied, same. -/
import Derived.Test.YtnkhhnfmijljbaaDoorZExactd
import Derived.Test.YtnkhhnfmijljbaaDoorZExactc
import Derived.Test.YtnkhhnfmijljbaaDoorWGuard
set_option linter.unusedVariables false
set_option linter.unusedSimpArgs false
namespace Go.Proofs.YtnkhhnfmijljbaaDoor
open Go.RowKit Go.Proofs.YtnkhhnfmijljbaaDoorW.PrintWords Go.Proofs.YtnkhhnfmijljbaaDoorW.PrintLast Go.Proofs.YtnkhhnfmijljbaaDoorW.PrintMore
open Extern.Stop (cell)

theorem goodE_build {P : Program} {o : Oper} {a : Act} {w : World} {Gi : World → Value → Prop} {t : TypeId} {parts : Array (Nat × Operand)} (cells : Array Value) (ho : o.op = .build t parts) (hb : P.built t (parts.map fun x => (x.1, a.eval x.2)).toList = some cells) (hg : Gi w (.agg cells)) : Go.Proofs.YtnkhhnfmijljbaaDoorW.PrintLast.Good P o a w Gi :=
  goodE_val _ (by unfold execOp; rw [ho]; simp only [Sem.run_bind, run_build w t _ cells hb, Result.andThen_ok, Sem.run_pure]) hg
set_option maxHeartbeats 1000000 in
set_option maxRecDepth 100000 in
theorem kcopy_calls (w : World) (g s : Nat) (sec bs : List UInt8) (hY : Ky w g s sec bs) :
    Calls Tryd.prog 30 #[.pointer (some ⟨g, 0, none⟩)] w (fun e w' => ∃ g2 s2, e = .returned (.pointer (some ⟨g2, 0, none⟩)) ∧ w.heap.size ≤ g2 ∧ w.heap.size ≤ s2 ∧ Ext w w' ∧ Ky w' g2 s2 sec bs) := by
  obtain ⟨N, hN⟩ : ∃ N, N = w.heap.size := ⟨_, rfl⟩
  have HN := Aside0.mk hN
  have HY := Aside0.mk hY
  clear hY hN
  go_enter Tryd.func30, Tryd.ntmps30
  go_wp2_with fail
  refine ext_region 12 [(0, 5), (1, 6), (2, 7), (3, 8), (4, 9), (5, 10), (6, 11), (7, 12), (8, 13), (9, 14), (10, 15), (11, 2)] [0, 1, 2, 3, 4, 5, 6, 7, 8, 9, 10, 11] (fun i w v => match i with | 0 => v = .pointer (some ⟨g, 0, none⟩) | 1 => v = .pointer (some ⟨g, 0, none⟩) | 2 => v = .pointer (some ⟨g, 0, none⟩) | 3 => v = .pointer (some ⟨s, 0, none⟩) | 4 => ∃ s2, v = .pointer (some ⟨s2, 0, none⟩) ∧ N ≤ s2 ∧ St w s2 (Spec.xorL 0x36 (Spec.key sec) ++ bs) (Spec.xorL 0x36 (Spec.key sec) ++ bs).length | 5 => v = .pointer (some ⟨g, 0, none⟩) | 6 => v = .pointer (some ⟨g, 0, none⟩) | 7 => v = .pointer (some ⟨g, 1, none⟩) | 8 => v = .agg ((Spec.xorL 0x5c (Spec.key sec)).map cell).toArray | 9 => ∃ s2, v = .agg (kyL s2 (Spec.xorL 0x5c (Spec.key sec))).toArray ∧ N ≤ s2 ∧ St w s2 (Spec.xorL 0x36 (Spec.key sec) ++ bs) (Spec.xorL 0x36 (Spec.key sec) ++ bs).length | 10 => ∃ g2 s2, v = .pointer (some ⟨g2, 0, none⟩) ∧ N ≤ g2 ∧ N ≤ s2 ∧ Ky w g2 s2 sec bs | 11 => ∃ g2 s2, v = .pointer (some ⟨g2, 0, none⟩) ∧ N ≤ g2 ∧ N ≤ s2 ∧ Ky w g2 s2 sec bs | _ => True) (by kernel_rfl) (by kernel_rfl) (by rfl) rfl ?mono3 ?steps3 ?fin3
  case mono3 =>
    intro i w w' v h hE
    match i with
    | 0 => exact h
    | 1 => exact h
    | 2 => exact h
    | 3 => exact h
    | 4 => exact (by obtain ⟨s2, h1, h2, h3⟩ := h; exact ⟨s2, h1, h2, h3.ext hE⟩)
    | 5 => exact h
    | 6 => exact h
    | 7 => exact h
    | 8 => exact h
    | 9 => exact (by obtain ⟨s2, h1, h2, h3⟩ := h; exact ⟨s2, h1, h2, h3.ext hE⟩)
    | 10 => exact (by obtain ⟨g2, s2, h1, h2, h3, h4⟩ := h; exact ⟨g2, s2, h1, h2, h3, h4.ext hE⟩)
    | 11 => exact (by obtain ⟨g2, s2, h1, h2, h3, h4⟩ := h; exact ⟨g2, s2, h1, h2, h3, h4.ext hE⟩)
    | _ + 12 => trivial
  case steps3 =>
    refine stepE_cons ⟨_, rfl, fun a w hE hH => ?_⟩ ?_
    ·
      have e0 : a.tmps[0]? = some (.pointer (some ⟨g, 0, none⟩)) := hH.old 0 rfl
      exact Or.inl ⟨rfl, goodE_move _ rfl (eval_of e0) rfl⟩
    refine stepE_cons ⟨_, rfl, fun a w hE hH => ?_⟩ ?_
    ·
      obtain ⟨v5, e5, g5⟩ := hH.dep 0 5 rfl (by kernel_rfl)
      have q5 : v5 = .pointer (some ⟨g, 0, none⟩) := g5
      subst q5
      exact Or.inl ⟨rfl, goodE_val (.pointer (some ⟨g, 0, none⟩)) (by simp [execOp, Act.eval, e5, go_sem]) rfl⟩
    refine stepE_cons ⟨_, rfl, fun a w hE hH => ?_⟩ ?_
    ·
      obtain ⟨v6, e6, g6⟩ := hH.dep 1 6 rfl (by kernel_rfl)
      have q6 : v6 = .pointer (some ⟨g, 0, none⟩) := g6
      subst q6
      exact Or.inl ⟨rfl, goodE_val (.pointer (some ⟨g, 0, none⟩)) (by simp [execOp, Act.eval, e6, go_sem]) rfl⟩
    refine stepE_cons ⟨_, rfl, fun a w hE hH => ?_⟩ ?_
    ·
      obtain ⟨v7, e7, g7⟩ := hH.dep 2 7 rfl (by kernel_rfl)
      have q7 : v7 = .pointer (some ⟨g, 0, none⟩) := g7
      subst q7
      exact Or.inl ⟨(rfl), goodE_val (.pointer (some ⟨s, 0, none⟩)) (by simp [execOp, Act.eval, e7, go_sem, ((HY.out.row.drew).ext hE).cell (kyL_0 s _)]) rfl⟩
    refine stepE_cons ⟨_, rfl, fun a w hE hH => ?_⟩ ?_
    ·
      obtain ⟨v8, e8, g8⟩ := hH.dep 3 8 rfl (by kernel_rfl)
      have q8 : v8 = .pointer (some ⟨s, 0, none⟩) := g8
      subst q8
      refine Or.inl ⟨(rfl), goodE_call rfl #[.pointer (some ⟨s, 0, none⟩)] (by simp [Act.eval, e8]) _ Tryd.func24 (by kernel_rfl) (by kernel_rfl) ?_⟩
      refine (copy_calls w s (Spec.xorL 0x36 (Spec.key sec) ++ bs) _ (HY.out.st.ext ((Ext.to_drew _).trans hE))).mono ?_
      rintro e w' ⟨rfl, h1, h2, h3⟩
      exact ⟨_, rfl, h1, w.heap.size, rfl, by have := ((Ext.to_drew _).trans hE).size; have := HN.out; omega, h3⟩
    refine stepE_cons ⟨_, rfl, fun a w hE hH => ?_⟩ ?_
    ·
      have e0 : a.tmps[0]? = some (.pointer (some ⟨g, 0, none⟩)) := hH.old 0 rfl
      exact Or.inl ⟨rfl, goodE_move _ rfl (eval_of e0) rfl⟩
    refine stepE_cons ⟨_, rfl, fun a w hE hH => ?_⟩ ?_
    ·
      obtain ⟨v10, e10, g10⟩ := hH.dep 5 10 rfl (by kernel_rfl)
      have q10 : v10 = .pointer (some ⟨g, 0, none⟩) := g10
      subst q10
      exact Or.inl ⟨rfl, goodE_val (.pointer (some ⟨g, 0, none⟩)) (by simp [execOp, Act.eval, e10, go_sem]) rfl⟩
    refine stepE_cons ⟨_, rfl, fun a w hE hH => ?_⟩ ?_
    ·
      obtain ⟨v11, e11, g11⟩ := hH.dep 6 11 rfl (by kernel_rfl)
      have q11 : v11 = .pointer (some ⟨g, 0, none⟩) := g11
      subst q11
      exact Or.inl ⟨rfl, goodE_val (.pointer (some ⟨g, 1, none⟩)) (by simp [execOp, Act.eval, e11, go_sem]) rfl⟩
    refine stepE_cons ⟨_, rfl, fun a w hE hH => ?_⟩ ?_
    ·
      obtain ⟨v12, e12, g12⟩ := hH.dep 7 12 rfl (by kernel_rfl)
      have q12 : v12 = .pointer (some ⟨g, 1, none⟩) := g12
      subst q12
      exact Or.inl ⟨(rfl), goodE_row g 1 ((Spec.xorL 0x5c (Spec.key sec)).map cell) _ rfl (eval_of e12) (fun i v hv => by rw [Nat.add_comm]; exact ((HY.out.row.drew).ext hE).cell (by simpa [kyL] using hv)) Tryd.underlying74 rfl (by rw [List.length_map, Spec.xorL_length, Spec.key_length]; kernel_rfl) rfl⟩
    refine stepE_cons ⟨_, rfl, fun a w hE hH => ?_⟩ ?_
    ·
      obtain ⟨v9, e9, g9⟩ := hH.dep 4 9 rfl (by kernel_rfl)
      obtain ⟨v13, e13, g13⟩ := hH.dep 8 13 rfl (by kernel_rfl)
      have q13 : v13 = .agg ((Spec.xorL 0x5c (Spec.key sec)).map cell).toArray := g13
      subst q13
      obtain ⟨s2, rfl, h1, h2⟩ := g9
      exact Or.inl ⟨(rfl), goodE_build (kyL s2 (Spec.xorL 0x5c (Spec.key sec))).toArray rfl (by simpa [eval_of e9, eval_of e13] using built85 s2 (Spec.xorL 0x5c (Spec.key sec)) (by rw [Spec.xorL_length, Spec.key_length])) ⟨s2, rfl, h1, h2⟩⟩
    refine stepE_cons ⟨_, rfl, fun a w hE hH => ?_⟩ ?_
    ·
      obtain ⟨v14, e14, g14⟩ := hH.dep 9 14 rfl (by kernel_rfl)
      obtain ⟨s2, rfl, h1, h2⟩ := g14
      refine Or.inl ⟨(rfl), goodE_new (.pointer (some ⟨w.heap.size, 0, none⟩)) (w.alloc (.cells (kyL s2 (Spec.xorL 0x5c (Spec.key sec))).toArray 85)) (by simp [execOp, Act.eval, e14, go_sem, Value.cells]) ((Ext.refl w).alloc _) ⟨w.heap.size, s2, rfl, by have := ((Ext.to_drew _).trans hE).size; have := HN.out; omega, h1, ⟨Row.alloc _ _ _, h2.ext ((Ext.refl w).alloc _), by have := h2.choose_spec.2.lt; omega⟩⟩⟩
    refine stepE_cons ⟨_, rfl, fun a w hE hH => ?_⟩ ?_
    ·
      obtain ⟨v15, e15, g15⟩ := hH.dep 10 15 rfl (by kernel_rfl)
      exact Or.inl ⟨rfl, goodE_assign v15 rfl (eval_of e15) g15⟩
    exact stepE_nil
  rintro vals wz hE hV
  have k2 : ∃ g2 s2, vals 11 = .pointer (some ⟨g2, 0, none⟩) ∧ N ≤ g2 ∧ N ≤ s2 ∧ Ky wz g2 s2 sec bs := hV 11 (by simp) rfl
  simp only [List.map_cons, List.map_nil, putAll, Act.put, List.setIfInBounds_toArray, List.set_cons_zero, List.set_cons_succ]
  obtain ⟨g2, s2, hv, h1, h2, h3⟩ := k2
  have HV := Aside0.mk hv
  have HK2 := Aside0.mk h3
  have HEz := Aside0.mk ((Ext.to_drew _).trans hE)
  rw [HN.out] at h1 h2
  clear hE hV hv h3
  go_wp2
  go_ret
  exact ⟨g2, s2, by show Ending.returned (vals _) = _; rw [HV.out], h1, h2, HEz.out, HK2.out⟩

set_option maxHeartbeats 1000000 in
set_option maxRecDepth 100000 in
theorem mcode_calls (w : World) (A : Option Addr) (c : Nat) (xs : List UInt8) (B : Option Addr) (d : Nat) (ps : List (List UInt8)) (hK : KTab w) (hF : FTab w) (hx : Bs w A xs.length xs) (hc : xs.length ≤ c) (hl : xs.length < 500000000000000000)
    (hp : Bss w B ps.length ps) (hlen : ps.flatten.length < 400000000000000000) :
    Calls Tryd.prog 26 #[.slice A xs.length c, .slice B ps.length d] w (fun e w' => e = .returned (hashV (Spec.code xs ps.flatten)) ∧ Below w.heap.size w w') := by
  obtain ⟨R, hRdef⟩ : ∃ R, R = w.heap.size := ⟨_, rfl⟩
  have HRD := Aside0.mk hRdef
  have hmax := hp.max
  have HK := Aside0.mk hK
  have HF := Aside0.mk hF
  have HX := Aside0.mk hx
  have HP := Aside0.mk hp
  clear hK hF hx hp
  go_enter Tryd.func26, Tryd.ntmps26
  go_wp2_with fail
  have hE0 : Ext w (w.alloc (.cells (z8 32).toArray 28)) := (Ext.refl w).alloc _
  refine (mnew_calls _ A c xs (HK.out.ext hE0) (HF.out.ext hE0) (HX.out.ext hE0) hc hl).mono ?_
  rintro e w1 ⟨G, S, rfl, hg, hs, hB1, hY1⟩
  have hg' : R < G := by simp at hg; omega
  have hs' : R < S := by simp at hs; omega
  have HB1 := Aside0.mk (hE0.trans hB1)
  have HA1 := Aside0.mk (show Row w1 R (z8 32) 28 by rw [hRdef]; exact (Row.alloc w (z8 32) 28).ext hB1)
  have HY1 := Aside0.mk hY1
  rw [← hRdef]
  clear hE0 hB1 hY1 hg hs hRdef
  go_wp2_with fail
  go_loopw [12] (fun i wr => ∃ k : Nat, k ≤ ps.length ∧ i = .int .i64 k ∧ Below w.heap.size w wr ∧ Row wr R (z8 32) 28 ∧ Ky wr G S xs (ps.take k).flatten) (fun i _ => ps.length - (intOf i).toNat)
  case atStart => exact ⟨0, by omega, rfl, HB1.out, HA1.out, HY1.out⟩
  case round =>
    obtain ⟨k, hk, rfl, hB, hA, hY⟩ := hrel
    have hxw := HP.out.below hB
    have hfl : (ps.take k).flatten.length ≤ ps.flatten.length := by
      conv => rhs; rw [← List.take_append_drop k ps, List.flatten_append, List.length_append]
      omega
    by_cases hlt : k < ps.length
    · obtain ⟨ad, A', c', rfl, hcell, hc', hbs⟩ := hxw.at_ k hlt
      have hnx : (ps.take (k + 1)).flatten = (ps.take k).flatten ++ ps.getD k [] := by
        rw [List.take_succ_eq_append_getElem hlt, List.flatten_append]
        simp [List.getD, hlt]
      have hfl1 : (ps.take (k + 1)).flatten.length ≤ ps.flatten.length := by
        conv => rhs; rw [← List.take_append_drop (k + 1) ps, List.flatten_append, List.length_append]
        omega
      have hne : ∀ a, A' = some a → 0 < (ps.getD k []).length → a.block ≠ S := by
        intro a ha hp0
        have hold : Bs w A' (ps.getD k []).length (ps.getD k []) := by
          obtain ⟨ad2, A2, c2, h1, h2, h3, h4⟩ := HP.out.at_ k hlt
          cases h1
          have e := (hB.cell (p := ad.add k) (Go.World.block_lt_of_cell? _ _ h2)).symm.trans hcell
          rw [h2] at e
          cases e
          exact h4
        have := fr_lt hold a ha hp0
        have := HRD.out
        omega
      obtain ⟨p, hp⟩ : ∃ p, p = ps.getD k [] := ⟨_, rfl⟩
      rw [← hp] at hcell hc' hbs hnx hne
      have hlen2 : (ps.take k).flatten.length + p.length < 4611686018427387000 := by rw [hnx, List.length_append] at hfl1; omega
      have HB2 := Aside0.mk hB
      have HA2 := Aside0.mk hA
      have HY2 := Aside0.mk hY
      have HNX := Aside0.mk hnx
      have HBS := Aside0.mk hbs
      have HNE := Aside0.mk hne
      have HK2 := Aside0.mk (HK.out.below hB HK.out.1)
      clear hB hA hY hnx hbs hne hfl hfl1 hxw hp
      go_wp2_with fail
      refine (kwrite_calls wr G S xs (ps.take k).flatten A' c' p HK2.out HY2.out HBS.out hc' HNE.out hlen2).mono ?_
      rintro e w2 ⟨rfl, hO, hY⟩
      have HB3 := Aside0.mk (below_only HB2.out hO (by have := HRD.out; omega) (by have := HB2.out.size; omega))
      have HA3 := Aside0.mk (hO.row HA2.out (by omega))
      have HY3 := Aside0.mk hY
      clear hO hY
      go_wp2
      go_roundw
      case rel => exact ⟨k + 1, by omega, by simp, HB3.out, HA3.out, by rw [HNX.out]; exact HY3.out⟩
      case measure => simp [intOf]; omega
    · obtain rfl : k = ps.length := by omega
      rw [List.take_of_length_le (Nat.le_refl _)] at hY
      have HB2 := Aside0.mk hB
      have HA2 := Aside0.mk hA
      have HY2 := Aside0.mk hY
      clear hB hA hY hxw
      go_wp2_with fail
      refine (kcode_calls wr G S xs ps.flatten (HK.out.below HB2.out HK.out.1) (HF.out.below HB2.out HF.out.1) HY2.out hlen).mono ?_
      rintro e w2 ⟨rfl, hE3⟩
      have HB3 := Aside0.mk (below_ext HB2.out hE3)
      have HA3 := Aside0.mk (HA2.out.ext hE3)
      have HCZ := Aside0.mk (show ((Spec.code xs ps.flatten).map cell).toArray.size = 32 by simp [Spec.code_length])
      clear hE3
      go_wp2_with (with_reducible change wpList _ _ _ (Oper.mk _ (Op.store 28 _ _) _ _ _ _ :: _) _ _; refine Aside0.out ?_)
      refine Aside0.mk ?_
      refine wpList_store_row rfl 28 _ _ rfl R ((Spec.code xs ps.flatten).map cell).toArray rfl (by simp only [go_sem, hashV, Act.eval, Act.put]; rfl) 28 _ HA3.out (by rw [HCZ.out]; kernel_rfl) (by rw [HCZ.out]; rfl) (oneCells _) ?_
      go_wp2
      (try simp only [Exit.inBlock, Exit.then])
      refine bodyPost_ret (results_cell_row rfl _ _ R 28 ((Spec.code xs ps.flatten).map cell).toArray (0, 0) _ rfl (setRow_heap _ _ _ _ _ _ HA3.out) Tryd.underlying28 rfl (by rw [HCZ.out]; kernel_rfl)) rfl ?_
      exact ⟨rfl, Below.setRow HB3.out (by rw [HRD.out]; exact Nat.le_refl _) _⟩
end Go.Proofs.YtnkhhnfmijljbaaDoor
set_option linter.unusedVariables false
set_option linter.unusedSimpArgs false
namespace Go.Proofs.YtnkhhnfmijljbaaDoor
open Go.RowKit Go.Proofs.YtnkhhnfmijljbaaDoorW.PrintWords Go.Proofs.YtnkhhnfmijljbaaDoorW.PrintLast Go.Proofs.YtnkhhnfmijljbaaDoorW.PrintMore
open Extern.Stop (cell)
attribute [local go_sem] u8_conv u32_shl24 u32_shl16 u32_shl8 bits_u32_or

theorem ext_bytes (w : World) (s : ByteArray) : Ext w (Lib.bytesWorld w 5 s) := bytes_below (Below.refl _ _) (Nat.le_refl _) 5 s
set_option maxHeartbeats 1000000 in
set_option maxRecDepth 100000 in
theorem mknown_calls (w : World) (s t : List UInt8) (f : UInt32) (l : UInt8) (hK : KTab w) (hF : FTab w) (hs : s.length ≤ 1048576) (ht : t.length ≤ 1048576)
    (hbe : Spec.be ((Spec.code s t).getD 0 0) ((Spec.code s t).getD 1 0) ((Spec.code s t).getD 2 0) ((Spec.code s t).getD 3 0) = f) (hl : (Spec.code s t).getD 31 0 = l) :
    Calls Tryd.prog 27 #[.string (strB s), .string (strB t), .int .u32 (n32 f), .int .u8 (n8 l)] w (fun e w' => e = .returned (.bool true) ∧ Ext w w') := by
  have HK := Aside0.mk hK
  have HF := Aside0.mk hF
  have HBE := Aside0.mk hbe
  have HLL := Aside0.mk hl
  have hcv1 := print_bytes (P := Tryd.prog) 9 24 5 Tryd.underlying9 Tryd.underlying24 Tryd.underlying5 (strB s) w
  have hcv2 := print_bytes (P := Tryd.prog) 9 24 5 Tryd.underlying9 Tryd.underlying24 Tryd.underlying5 (strB t) (Lib.bytesWorld w 5 (strB s))
  rw [strB_size] at hcv1 hcv2
  clear hK hF hbe hl
  go_enter Tryd.func27, Tryd.ntmps27
  go_wp2_with fail
  have h1 : Bs (Lib.bytesWorld w 5 (strB s)) (some ⟨w.heap.size, 0, none⟩) s.length s := Bs.of_bytes w s (by omega)
  have h2 : Bs (Lib.bytesWorld (Lib.bytesWorld w 5 (strB s)) 5 (strB t)) (some ⟨(Lib.bytesWorld w 5 (strB s)).heap.size, 0, none⟩) t.length t := Bs.of_bytes _ t (by omega)
  have hE1 := ext_bytes w (strB s)
  have hE2 := ext_bytes (Lib.bytesWorld w 5 (strB s)) (strB t)
  have hb := bss_one (c := grownCap (Lib.bytesWorld w 5 (strB s)) t.length 0 5) h2 (grownCap_ge _ _ _ _)
  have hE3 : Ext w ((Lib.bytesWorld (Lib.bytesWorld w 5 (strB s)) 5 (strB t)).alloc (.cells #[.slice (some ⟨(Lib.bytesWorld w 5 (strB s)).heap.size, 0, none⟩) t.length (grownCap (Lib.bytesWorld w 5 (strB s)) t.length 0 5)] 24)) := (hE1.trans hE2).alloc _
  have hcall := mcode_calls _ (some ⟨w.heap.size, 0, none⟩) (grownCap w s.length 0 5) s _ 1 [t] (HK.out.ext hE3) (HF.out.ext hE3) ((h1.ext hE2).ext ((Ext.refl _).alloc _)) (grownCap_ge _ _ _ _) (by omega) hb (by simp; omega)
  rw [show [t].flatten = t by simp] at hcall
  refine hcall.mono ?_
  rintro e w1 ⟨rfl, hE4⟩
  obtain ⟨cs, hcs⟩ : ∃ cs, cs = Spec.code s t := ⟨_, rfl⟩
  have hcl : cs.length = 32 := by rw [hcs]; exact Spec.code_length s t
  have HBE2 := Aside0.mk (by have h := HBE.out; rw [← hcs] at h; exact h)
  have HLL2 := Aside0.mk (by have h := HLL.out; rw [← hcs] at h; exact h)
  rw [← hcs]
  have HE4 := Aside0.mk (hE3.trans hE4)
  have HCL := Aside0.mk hcl
  have HCZ := Aside0.mk (show (cs.map cell).toArray.size = 32 by simp [hcl])
  clear hcall hE4 hE3 hb hE2 hE1 h1 h2 hcv1 hcv2 hcl hcs HBE HLL
  go_wp2_with (with_reducible change wpList _ _ _ (Oper.mk _ (Op.store 28 _ _) _ _ _ _ :: _) _ _; refine Aside0.out ?_)
  refine Aside0.mk ?_
  refine wpList_store_row rfl 28 _ _ rfl w1.heap.size (cs.map cell).toArray rfl (by simp only [go_sem, hashV, Act.eval, Act.put]; rfl) 28 _ (heap_alloc_new _ _) (by rw [HCZ.out]; kernel_rfl) (by rw [HCZ.out]; rfl) (oneCells _) ?_
  obtain ⟨R, hR⟩ : ∃ R, R = w1.heap.size := ⟨_, rfl⟩
  have hEr : Ext w1 ((w1.alloc (.cells (z8 32).toArray 28)).setRow w1.heap.size (cs.map cell).toArray) := below_alloc_setRow _ _ _
  refine wpList_world (fun w3 => Ext w w3 ∧ Row w3 R (cs.map cell) 28) ⟨HE4.out.trans hEr, by rw [hR]; exact alloc_setRow _ _ _ _⟩ ?_
  rintro w3 ⟨hE3, hR3⟩
  rw [← hR]
  have key : ∀ i, i < 32 → w3.cell? ⟨R, i, none⟩ = some (.int .u8 (n8 (cs.getD i 0))) := fun i hi => hR3.cell (by
    rw [List.getElem?_map, List.getElem?_eq_getElem (by rw [HCL.out]; exact hi)]
    simp [List.getD, HCL.out, hi, cell, n8])
  have c0 := key 0 (by omega)
  have c1 := key 1 (by omega)
  have c2 := key 2 (by omega)
  have c3 := key 3 (by omega)
  have c31 := key 31 (by omega)
  obtain ⟨x0, hx0⟩ : ∃ x, x = cs.getD 0 0 := ⟨_, rfl⟩
  obtain ⟨x1, hx1⟩ : ∃ x, x = cs.getD 1 0 := ⟨_, rfl⟩
  obtain ⟨x2, hx2⟩ : ∃ x, x = cs.getD 2 0 := ⟨_, rfl⟩
  obtain ⟨x3, hx3⟩ : ∃ x, x = cs.getD 3 0 := ⟨_, rfl⟩
  have hbe := HBE2.out
  rw [← hx0, ← hx1, ← hx2, ← hx3, Spec.be] at hbe
  rw [← hx0] at c0
  rw [← hx1] at c1
  rw [← hx2] at c2
  rw [← hx3] at c3
  rw [HLL2.out] at c31
  have HE5 := Aside0.mk hE3
  clear hE3 hR3 hR hEr key hx0 hx1 hx2 hx3
  go_wp2
  go_ret
  exact ⟨rfl, HE5.out⟩
end Go.Proofs.YtnkhhnfmijljbaaDoor
namespace Go.Proofs.YtnkhhnfmijljbaaDoor
def secA : List UInt8 := List.replicate 20 11
def msgA : List UInt8 := [72, 105, 32, 84, 104, 101, 114, 101]
set_option maxRecDepth 100000 in
theorem pubA : Spec.be ((Spec.code secA msgA).getD 0 0) ((Spec.code secA msgA).getD 1 0) ((Spec.code secA msgA).getD 2 0) ((Spec.code secA msgA).getD 3 0) = 2956217441 ∧ (Spec.code secA msgA).getD 31 0 = 247 := by decide +kernel
def secB : List UInt8 := [74, 101, 102, 101]
def msgB : List UInt8 := [119, 104, 97, 116, 32, 100, 111, 32, 121, 97, 32, 119, 97, 110, 116, 32, 102, 111, 114, 32, 110, 111, 116, 104, 105, 110, 103, 63]
set_option maxRecDepth 100000 in
theorem pubB : Spec.be ((Spec.code secB msgB).getD 0 0) ((Spec.code secB msgB).getD 1 0) ((Spec.code secB msgB).getD 2 0) ((Spec.code secB msgB).getD 3 0) = 1541194054 ∧ (Spec.code secB msgB).getD 31 0 = 67 := by decide +kernel
def secC : List UInt8 := []
def msgC : List UInt8 := []
set_option maxRecDepth 100000 in
theorem pubC : Spec.be ((Spec.code secC msgC).getD 0 0) ((Spec.code secC msgC).getD 1 0) ((Spec.code secC msgC).getD 2 0) ((Spec.code secC msgC).getD 3 0) = 3054725018 ∧ (Spec.code secC msgC).getD 31 0 = 173 := by decide +kernel
def secD : List UInt8 := List.replicate 131 170
def msgD : List UInt8 := [84, 101, 115, 116, 32, 85, 115, 105, 110, 103, 32, 76, 97, 114, 103, 101, 114, 32, 84, 104, 97, 110, 32, 66, 108, 111, 99, 107, 45, 83, 105, 122, 101, 32, 75, 101, 121, 32, 45, 32, 72, 97, 115, 104, 32, 75, 101, 121, 32, 70, 105, 114, 115, 116]
set_option maxRecDepth 100000 in
theorem pubD : Spec.be ((Spec.code secD msgD).getD 0 0) ((Spec.code secD msgD).getD 1 0) ((Spec.code secD msgD).getD 2 0) ((Spec.code secD msgD).getD 3 0) = 1625567577 ∧ (Spec.code secD msgD).getD 31 0 = 84 := by decide +kernel
end Go.Proofs.YtnkhhnfmijljbaaDoor
set_option linter.unusedVariables false
namespace Go.Proofs.YtnkhhnfmijljbaaDoor
open Go.RowKit Go.Proofs.YtnkhhnfmijljbaaDoorW.PrintWords Go.Proofs.YtnkhhnfmijljbaaDoorW.PrintLast Go.Proofs.YtnkhhnfmijljbaaDoorW.PrintMore
theorem knownAtA (w : World) (hK : KTab w) (hF : FTab w) : Calls Tryd.prog 27 #[.string (strB secA), .string { data := #[72, 105, 32, 84, 104, 101, 114, 101] }, .int .u32 2956217441, .int .u8 247] w (fun e w' => e = .returned (.bool true) ∧ Ext w w') :=
  mknown_calls w secA msgA 2956217441 247 hK hF (by simp [secA]) (by simp [msgA]) pubA.1 pubA.2
theorem knownAtB (w : World) (hK : KTab w) (hF : FTab w) : Calls Tryd.prog 27 #[.string { data := #[74, 101, 102, 101] }, .string { data := #[119, 104, 97, 116, 32, 100, 111, 32, 121, 97, 32, 119, 97, 110, 116, 32, 102, 111, 114, 32, 110, 111, 116, 104, 105, 110, 103, 63] }, .int .u32 1541194054, .int .u8 67] w (fun e w' => e = .returned (.bool true) ∧ Ext w w') :=
  mknown_calls w secB msgB 1541194054 67 hK hF (by simp [secB]) (by simp [msgB]) pubB.1 pubB.2
theorem knownAtC (w : World) (hK : KTab w) (hF : FTab w) : Calls Tryd.prog 27 #[.string { data := #[] }, .string { data := #[] }, .int .u32 3054725018, .int .u8 173] w (fun e w' => e = .returned (.bool true) ∧ Ext w w') :=
  mknown_calls w secC msgC 3054725018 173 hK hF (by simp [secC]) (by simp [msgC]) pubC.1 pubC.2
theorem knownAtD (w : World) (hK : KTab w) (hF : FTab w) : Calls Tryd.prog 27 #[.string (strB secD), .string { data := #[84, 101, 115, 116, 32, 85, 115, 105, 110, 103, 32, 76, 97, 114, 103, 101, 114, 32, 84, 104, 97, 110, 32, 66, 108, 111, 99, 107, 45, 83, 105, 122, 101, 32, 75, 101, 121, 32, 45, 32, 72, 97, 115, 104, 32, 75, 101, 121, 32, 70, 105, 114, 115, 116] }, .int .u32 1625567577, .int .u8 84] w (fun e w' => e = .returned (.bool true) ∧ Ext w w') :=
  mknown_calls w secD msgD 1625567577 84 hK hF (by simp [secD]) (by simp [msgD]) pubD.1 pubD.2
end Go.Proofs.YtnkhhnfmijljbaaDoor
set_option linter.unusedVariables false
set_option linter.unusedSimpArgs false
namespace Go.Proofs.YtnkhhnfmijljbaaDoor
open Go.RowKit Go.Proofs.YtnkhhnfmijljbaaDoorW.PrintWords Go.Proofs.YtnkhhnfmijljbaaDoorW.PrintLast Go.Proofs.YtnkhhnfmijljbaaDoorW.PrintMore
open Extern.Stop (cell)

/-- a row of bytes of the call's own, from block B on -/
def Ob (B : Nat) (w : World) (v : Value) (al : List UInt8) : Prop := w.ownsRow B 5 1 v (ints al).length (nums .u8 (ints al))
section
variable {B : Nat} {w w' : World} {v : Value} {al : List UInt8}
theorem Ob.nil : Ob B w (.slice none 0 0) [] := own_nil _ _ _ _
theorem Ob.ext (h : Ob B w v al) (hE : Ext w w') : Ob B w' v al := pw_own_below h hE
theorem Ob.only {g : Nat} (h : Ob B w v al) (hO : Only w g w') (hg : g < B) : Ob B w' v al := World.ownsRow.kept h (grown_of_only hO) (by
  cases hb : v.ownBlock with
  | none => exact .inl rfl
  | some k => exact .inr (fun e => by have := own_base h k hb; injection e with e; omega))
theorem Ob.open (h : Ob B w v al) : ∃ A c, v = .slice A al.length c ∧ al.length ≤ c ∧ Bs w A al.length al := by
  obtain ⟨A, c, rfl, hr⟩ := own_reads h
  have hc := own_le h
  rw [ints_length] at hr hc ⊢
  exact ⟨A, c, rfl, hc, Kd.C_of_reads (h1 := fun _ => rfl) (d := (0 : Int)) hr⟩
theorem Ob.made (w : World) : Ob w.heap.size (w.alloc (.cells #[] 5)) (.slice (some ⟨w.heap.size, 0, none⟩) 0 0) [] :=
  ⟨rfl, .inr ⟨w.heap.size, 0, #[], rfl, Nat.le_refl _, heap_alloc_new w _, Nat.le_refl _, Nat.zero_le _, rfl, rfl⟩⟩
theorem Bs.reads {A : Option Addr} {n : Nat} {xs : List UInt8} (h : Bs w A n xs) : ReadsInt w .u8 A n (ints xs) := by
  have := Kd.reads_of_C (d := (0 : Int)) (h1 := fun _ => rfl) h
  exact this
theorem Bs.none_ (w : World) (A : Option Addr) : Bs w A 0 [] := Kd.C_of_reads (h1 := fun _ => rfl) (d := (0 : Int)) ⟨rfl, by simp, fun hp => by simp at hp⟩
theorem Bs.one (w : World) (x : UInt8) : Bs (w.alloc (.cells #[.int .u8 (n8 x)] 5)) (some ⟨w.heap.size, 0, none⟩) 1 [x] := Bs.row (Row.alloc w ([x].map Extern.Stop.cell) 5) rfl (by simp)
theorem bss_four {A A1 A2 A3 : Option Addr} {c c1 c2 c3 : Nat} {xs ys zs us : List UInt8} (h : Bs w A xs.length xs) (hc : xs.length ≤ c) (h1 : Bs w A1 ys.length ys) (hc1 : ys.length ≤ c1) (h2 : Bs w A2 zs.length zs) (hc2 : zs.length ≤ c2) (h3 : Bs w A3 us.length us) (hc3 : us.length ≤ c3) :
    Bss (w.alloc (.cells #[.slice A xs.length c, .slice A1 ys.length c1, .slice A2 zs.length c2, .slice A3 us.length c3] 24)) (some ⟨w.heap.size, 0, none⟩) 4 [xs, ys, zs, us] :=
  Bss.of_row (t := 24) (ls := [(A, c, xs), (A1, c1, ys), (A2, c2, zs), (A3, c3, us)]) (Row.alloc w [.slice A xs.length c, .slice A1 ys.length c1, .slice A2 zs.length c2, .slice A3 us.length c3] 24) (fun l hl => by
    have hE : Ext w (w.alloc (.cells #[.slice A xs.length c, .slice A1 ys.length c1, .slice A2 zs.length c2, .slice A3 us.length c3] 24)) := (Ext.refl w).alloc _
    simp only [List.mem_cons, List.not_mem_nil, or_false] at hl
    rcases hl with rfl | rfl | rfl | rfl
    · exact ⟨hc, h.ext hE⟩
    · exact ⟨hc1, h1.ext hE⟩
    · exact ⟨hc2, h2.ext hE⟩
    · exact ⟨hc3, h3.ext hE⟩) (by simp)
end
theorem byteInt (k : Nat) : (k : Int) % 256 = n8 (UInt8.ofNat k) := by
  unfold n8; rw [UInt8.toNat_ofNat']; omega
/-- mac.Code of one slice, built here -/
theorem mcodeOne_calls (w : World) (A : Option Addr) (c : Nat) (xs : List UInt8) (A1 : Option Addr) (c1 : Nat) (ys : List UInt8) (hK : KTab w) (hF : FTab w) (hx : Bs w A xs.length xs) (hc : xs.length ≤ c) (hl : xs.length < 500000000000000000) (h1 : Bs w A1 ys.length ys) (hc1 : ys.length ≤ c1) (hl1 : ys.length < 400000000000000000) :
    Calls Tryd.prog 26 #[.slice A xs.length c, .slice (some ⟨w.heap.size, 0, none⟩) 1 1] (w.alloc (.cells #[.slice A1 ys.length c1] 24)) (fun e w' => e = .returned (hashV (Spec.code xs ys)) ∧ Ext w w') := by
  have hE : Ext w (w.alloc (.cells #[.slice A1 ys.length c1] 24)) := (Ext.refl w).alloc _
  refine (mcode_calls _ A c xs (some ⟨w.heap.size, 0, none⟩) 1 [ys] (hK.ext hE) (hF.ext hE) (hx.ext hE) hc hl (bss_one h1 hc1) (by simpa using hl1)).mono ?_
  rintro e w' ⟨rfl, h⟩
  exact ⟨by simp, hE.trans h⟩
theorem mcodeTwo_calls (w : World) (A : Option Addr) (c : Nat) (xs : List UInt8) (A1 : Option Addr) (c1 : Nat) (ys : List UInt8) (A2 : Option Addr) (c2 : Nat) (zs : List UInt8) (hK : KTab w) (hF : FTab w) (hx : Bs w A xs.length xs) (hc : xs.length ≤ c) (hl : xs.length < 500000000000000000) (h1 : Bs w A1 ys.length ys) (hc1 : ys.length ≤ c1)
    (h2 : Bs w A2 zs.length zs) (hc2 : zs.length ≤ c2) (hl1 : ys.length + zs.length < 400000000000000000) :
    Calls Tryd.prog 26 #[.slice A xs.length c, .slice (some ⟨w.heap.size, 0, none⟩) 2 2] (w.alloc (.cells #[.slice A1 ys.length c1, .slice A2 zs.length c2] 24)) (fun e w' => e = .returned (hashV (Spec.code xs (ys ++ zs))) ∧ Ext w w') := by
  have hE : Ext w (w.alloc (.cells #[.slice A1 ys.length c1, .slice A2 zs.length c2] 24)) := (Ext.refl w).alloc _
  refine (mcode_calls _ A c xs (some ⟨w.heap.size, 0, none⟩) 2 [ys, zs] (hK.ext hE) (hF.ext hE) (hx.ext hE) hc hl (bss_two h1 hc1 h2 hc2) (by simpa using hl1)).mono ?_
  rintro e w' ⟨rfl, h⟩
  exact ⟨by simp, hE.trans h⟩
theorem Ky.only {w w' : World} {g s k : Nat} {sec bs : List UInt8} (h : Ky w g s sec bs) (hO : Only w k w') (hg : g ≠ k) (hs : s ≠ k) : Ky w' g s sec bs := by
  obtain ⟨T, hT, hR⟩ := h.st
  exact ⟨hO.row h.row hg, ⟨T, hT, hO.row hR hs⟩, h.ne⟩
theorem Ob.only2 {B g n : Nat} {w w' : World} {v : Value} {al : List UInt8} (h : Ob B w v al) (hO : Only w g w') (_ : n ≥ 0) (hne : ∀ k, v.ownBlock = some k → k ≠ g) : Ob B w' v al := World.ownsRow.kept h (grown_of_only hO) (by
  cases hb : v.ownBlock with
  | none => exact .inl rfl
  | some k => exact .inr (fun e => by injection e with e; exact hne k hb e))
theorem Ky.under {w w' : World} {g s B : Nat} {sec bs : List UInt8} (h : Ky w g s sec bs) (hb : Below B w w') (hg : g < B) (hs : s < B) : Ky w' g s sec bs := ⟨h.row.below hb hg, h.st.under hb hs, h.ne⟩
set_option maxHeartbeats 2000000 in
set_option maxRecDepth 100000 in
theorem macPieces_calls (w : World) (A : Option Addr) (c : Nat) (xs : List UInt8) (P : Option Addr) (pc : Nat) (ps : List (List UInt8)) (A3 : Option Addr) (c3 : Nat) (ts : List UInt8) (hK : KTab w) (hF : FTab w) (hx : Bs w A xs.length xs) (hc : xs.length ≤ c) (hl : xs.length ≤ 1048576)
    (hp : Bss w P ps.length ps) (hpl : ps.flatten.length ≤ 1048576) (hpn : ps.length ≤ 1048576) (ht : Bs w A3 ts.length ts) (hc3 : ts.length ≤ c3) (hl3 : ts.length ≤ 1048576) :
    Calls Tryd.prog 10 #[.slice A xs.length c, .slice P ps.length pc, .slice A3 ts.length c3] w (fun e w' => e = .returned (.bool true) ∧ Below w.heap.size w w') := by
  have HBK := Aside0.mk hK.1
  have HBF := Aside0.mk hF.1
  have HK := Aside0.mk hK
  have HF := Aside0.mk hF
  have HX := Aside0.mk hx
  have HP := Aside0.mk hp
  have HT := Aside0.mk ht
  clear hK hF hx hp ht
  go_enter Tryd.func10, Tryd.ntmps10
  go_wp2_with fail
  refine (knownAtB w HK.out HF.out).mono ?_
  rintro e w1 ⟨rfl, hE1⟩
  have HE1 := Aside0.mk hE1
  have HX1 := Aside0.mk ((HX.out.ext hE1).ext ((Ext.refl _).alloc (.cells #[] 5)))
  clear hE1
  go_wp2_with (with_reducible refine gate_dst (N := 17) rfl ?_; refine Aside0.out ?_)
  refine Aside0.mk ?_
  refine wpL_append (F := fun v1 w2 => Ext (w1.alloc (.cells #[] 5)) w2 ∧ Fr (w1.alloc (.cells #[] 5)).heap.size w2 v1 xs) rfl ?_ ?_
  · obtain ⟨v1, w4, hr, hE, hF⟩ := run_copyB (w1.alloc (.cells #[] 5)) 24 ⟨w1.heap.size, 0, none⟩ A c xs HX1.out (by omega)
    exact ⟨v1, w4, hr, hE, hF⟩
  rintro v1 w2 ⟨hE2, hF2⟩
  obtain ⟨A1, c1, rfl, hc1, hb1, _⟩ := hF2
  have HE2 := Aside0.mk (HE1.out.trans (((Ext.refl _).alloc _).trans hE2))
  have HB1 := Aside0.mk hb1
  clear hE2 hb1
  go_wp2_with fail
  refine (mnew_calls w2 A1 c1 xs (HK.out.ext HE2.out) (HF.out.ext HE2.out) HB1.out hc1 (by omega)).mono ?_
  rintro e w3 ⟨G, S, rfl, hg, hs, hB3, hY3⟩
  have hwS : w.heap.size ≤ S := by have := HE2.out.size; omega
  have hwG : w.heap.size ≤ G := by have := HE2.out.size; omega
  obtain ⟨N1, hN1⟩ : ∃ N1, N1 = w3.heap.size := ⟨_, rfl⟩
  have hGN : G < N1 := by rw [hN1]; exact hY3.row.lt
  have hSN : S < N1 := by rw [hN1]; exact hY3.st.choose_spec.2.lt
  have HN1 := Aside0.mk hN1
  have HE3 := Aside0.mk (HE2.out.trans hB3)
  have HY3 := Aside0.mk hY3
  clear hB3 hY3 hg hs hN1
  go_wp2_with fail
  go_loopw [8, 23] (fun v8 i wr => ∃ k : Nat, k ≤ ps.length ∧ i = .int .i64 k ∧ N1 ≤ wr.heap.size ∧ Below w.heap.size w wr ∧ Ky wr G S xs (ps.take k).flatten ∧ Ob N1 wr v8 (ps.take k).flatten) (fun _ i _ => ps.length - (intOf i).toNat)
  case atStart => exact ⟨0, by omega, rfl, by rw [HN1.out]; exact Nat.le_refl _, HE3.out, HY3.out, Ob.nil⟩
  case round =>
    obtain ⟨k, hk, rfl, hN, hB, hY, hO⟩ := hrel
    have hfl : (ps.take k).flatten.length ≤ ps.flatten.length := by
      conv => rhs; rw [← List.take_append_drop k ps, List.flatten_append, List.length_append]
      omega
    have hxw := HP.out.below hB
    by_cases hlt : k < ps.length
    · obtain ⟨ad, A', c', rfl, hcell, hc', hbs⟩ := hxw.at_ k hlt
      have hnx : (ps.take (k + 1)).flatten = (ps.take k).flatten ++ ps.getD k [] := by
        rw [List.take_succ_eq_append_getElem hlt, List.flatten_append]
        simp [List.getD, hlt]
      have hfl1 : (ps.take (k + 1)).flatten.length ≤ ps.flatten.length := by
        conv => rhs; rw [← List.take_append_drop (k + 1) ps, List.flatten_append, List.length_append]
        omega
      obtain ⟨al, hal⟩ : ∃ al, al = (ps.take k).flatten := ⟨_, rfl⟩
      obtain ⟨q, hq⟩ : ∃ q, q = ps.getD k [] := ⟨_, rfl⟩
      have hold : Bs w A' q.length q := by
        obtain ⟨ad2, A2, c2, h1, h2, h3, h4⟩ := HP.out.at_ k hlt
        cases h1
        have e := (hB.cell (p := ad.add k) (Go.World.block_lt_of_cell? _ _ h2)).symm.trans hcell
        rw [h2] at e
        cases e
        rw [hq]
        exact h4
      rw [← hal] at hY hO hnx hfl
      rw [← hq] at hcell hc' hbs hnx
      have hql : al.length + q.length ≤ 1048576 := by rw [hnx, List.length_append] at hfl1; omega
      obtain ⟨A8, c8, rfl, hc8, hb8⟩ := hO.open
      have HB := Aside0.mk hB
      have HY := Aside0.mk hY
      have HO := Aside0.mk hO
      have HB8 := Aside0.mk hb8
      have HNX := Aside0.mk hnx
      have HQ := Aside0.mk hold
      have HAL := Aside0.mk hal
      have hkb := byteInt k
      have hE0 : (0 : Int) ≤ k := by omega
      by_cases h4 : 4000 < al.length
      · have h4' : (4000 : Int) < al.length := by omega
        clear hB hY hO hb8 hnx hold hal hbs hq hxw hkb hfl1
        have hcat : (al ++ ts).length ≤ 3000000 := by rw [List.length_append]; omega
        obtain ⟨at', hat⟩ : ∃ at', at' = al ++ ts := ⟨_, rfl⟩
        have HAT := Aside0.mk hat
        have hatl : at'.length ≤ 3000000 := by rw [hat]; exact hcat
        clear hat hcat
        go_wp2_with fail
        refine (kwrite_calls wr G S xs al A3 c3 ts (HK.out.below HB.out HK.out.1) HY.out (HT.out.below HB.out) hc3 (fun a ha hp => by have := fr_lt HT.out a ha hp; omega) (by omega)).mono ?_
        rintro e x1 ⟨rfl, hO1, hY1⟩
        rw [← HAT.out] at hY1
        have HBx1 := Aside0.mk (below_only HB.out hO1 hwS (by have := HB.out.size; omega))
        have HYx1 := Aside0.mk hY1
        have HOx1 := Aside0.mk (HO.out.only hO1 hSN)
        have hsx1 : wr.heap.size ≤ x1.heap.size := hO1.size
        clear hO1 hY1
        go_wp2_with fail
        refine (kcode_calls x1 G S xs at' (HK.out.below HBx1.out HK.out.1) (HF.out.below HBx1.out HF.out.1) HYx1.out (by omega)).mono ?_
        rintro e x2 ⟨rfl, hE2⟩
        have HBx2 := Aside0.mk (below_ext HBx1.out hE2)
        have HOx2 := Aside0.mk (HOx1.out.ext hE2)
        have hsx2 : x1.heap.size ≤ x2.heap.size := hE2.size
        clear hE2
        go_wp2_with fail
        obtain ⟨A8', c8', e8, hc8', hb8'⟩ := HOx2.out.open
        injection e8 with e81 e82 e83
        subst e81 e83
        have hcall := mcodeTwo_calls x2 A c xs A8 c8 al A3 c3 ts (HK.out.below HBx2.out HK.out.1) (HF.out.below HBx2.out HF.out.1) (HX.out.below HBx2.out) hc (by omega) hb8' hc8 (HT.out.below HBx2.out) hc3 (by omega)
        rw [← HAT.out] at hcall
        with_reducible refine hcall.mono ?_
        rintro e x3 ⟨rfl, hE3⟩
        have HBx3 := Aside0.mk (below_ext HBx2.out hE3)
        have HOx3 := Aside0.mk (HOx2.out.ext hE3)
        have hsx3 : x2.heap.size ≤ x3.heap.size := hE3.size
        have heq := eq28 x3 (Spec.code xs at') (Spec.code xs at') (Spec.code_length _ _) (Spec.code_length _ _)
        rw [beq_self_eq_true] at heq
        have HEQ3 := Aside0.mk heq
        clear hE3 heq hcall e82 hb8' hc8'
        go_wp2_with (with_reducible refine gate_dst (N := 87) rfl ?_; refine Aside0.out ?_)
        refine Aside0.mk ?_
        refine wpL_val (.bool true) (w1 := x3) (by rfl) (by simp [execOp, hashV, HEQ3.out, go_sem]) ?_
        go_wp2_with fail
        obtain ⟨A9', c9', e9, hc9', hb9'⟩ := HOx3.out.open
        injection e9 with e91 e92 e93
        subst e91 e93
        have hEm : Ext x3 (x3.alloc (.cells #[] 5)) := (Ext.refl _).alloc _
        have hcall := mcode_calls _ A c xs (some ⟨(x3.alloc (.cells #[] 5)).heap.size, 0, none⟩) 4 [al, [], ts, []] (((HK.out.below HBx3.out HK.out.1).ext hEm).ext ((Ext.refl _).alloc _)) (((HF.out.below HBx3.out HF.out.1).ext hEm).ext ((Ext.refl _).alloc _)) (((HX.out.below HBx3.out).ext hEm).ext ((Ext.refl _).alloc _)) hc (by omega)
          (bss_four (w := x3.alloc (.cells #[] 5)) (A := A8) (A1 := none) (A2 := A3) (A3 := some ⟨x3.heap.size, 0, none⟩) (c := c8) (c1 := 0) (c2 := c3) (c3 := 0) (xs := al) (ys := []) (zs := ts) (us := []) (hb9'.ext hEm) hc8 (Bs.none_ _ _) (Nat.le_refl _) ((HT.out.below HBx3.out).ext hEm) hc3 (Bs.none_ _ _) (Nat.le_refl _)) (by simp; omega)
        rw [show (x3.alloc (.cells #[] 5)).heap.size = x3.heap.size + 1 by simp, show [al, [], ts, []].length = 4 from rfl, show ([] : List UInt8).length = 0 from rfl, show [al, [], ts, []].flatten = at' by rw [HAT.out]; simp] at hcall
        with_reducible refine hcall.mono ?_
        rintro e x4 ⟨rfl, hE4⟩
        have hE4' : Ext x3 x4 := Ext.trans (hEm.alloc _) hE4
        have HBx4 := Aside0.mk (below_ext HBx3.out hE4')
        have HOx4 := Aside0.mk (HOx3.out.ext hE4')
        have hsx4 : x3.heap.size ≤ x4.heap.size := hE4'.size
        clear hE4 hE4' hcall hEm e92 hb9' hc9'
        obtain ⟨A9', c9', e9, hc9', hb9'⟩ := HOx4.out.open
        injection e9 with e91 e92 e93
        subst e91 e93
        have HR4 := Aside0.mk ((hb9'.ext ((Ext.refl x4).alloc (.cells #[] 5))).reads)
        clear e92 hb9' hc9'
        go_wp2_with (with_reducible refine gate_dst (N := 98) rfl ?_; refine Aside0.out ?_)
        refine Aside0.mk ?_
        refine gate_guard (by rfl) ?_
        dsimp only
        refine print_append_row (w0 := x4) x4.heap.size rfl _ _ 24 5 .u8 1 rfl Tryd.underlying24 info5 (by omega) (.slice (some ⟨x4.heap.size, 0, none⟩) 0 0) (ints []) (ints al) A8 al.length c8 rfl rfl (Ob.made x4) HR4.out ((Ext.refl x4).alloc _) (by simp) (by rw [ints_length]; simp; omega) ?_
        intro v5 x5 hO5 hB5 hg5 _
        have HO5 := Aside0.mk (show Ob x4.heap.size x5 v5 al by have h := hO5; rw [show ints [] ++ ints al = ints al from rfl] at h; exact h)
        have HB5 := Aside0.mk (show Ext x4 x5 from hB5)
        have HBx5 := Aside0.mk (below_ext HBx4.out hB5)
        clear hO5 hB5 hg5
        go_wp2_with (with_reducible refine gate_dst (N := 100) rfl ?_; refine Aside0.out ?_)
        refine Aside0.mk ?_
        refine gate_guard (by rfl) ?_
        dsimp only
        refine print_append_row (w0 := x4) x4.heap.size rfl _ _ 24 5 .u8 1 rfl Tryd.underlying24 info5 (by omega) v5 (ints al) (ints ts) A3 ts.length c3 rfl rfl HO5.out (HT.out.below HBx5.out).reads HB5.out HB5.out.size (by rw [ints_length]; omega) ?_
        intro v6 x6 hO6 hB6 hg6 _
        have HO6 := Aside0.mk (show Ob x4.heap.size x6 v6 at' by have h := hO6; rw [show ints al ++ ints ts = ints at' by rw [HAT.out]; simp [ints]] at h; exact h)
        have HBx6 := Aside0.mk (below_ext HBx4.out (show Ext x4 x6 from hB6))
        clear hO6 hB6 hg6
        obtain ⟨A6, c6, rfl, hc6, hb6⟩ := HO6.out.open
        have HB6 := Aside0.mk hb6
        clear hb6
        go_wp2_with fail
        with_reducible refine (mcodeOne_calls x6 A c xs A6 c6 at' (HK.out.below HBx6.out HBK.out) (HF.out.below HBx6.out HBF.out) (HX.out.below HBx6.out) hc (by omega) HB6.out hc6 (by omega)).mono ?_
        rintro e x7 ⟨rfl, hE7⟩
        have HBx7 := Aside0.mk (below_ext HBx6.out hE7)
        have heq := eq28 x7 (Spec.code xs at') (Spec.code xs at') (Spec.code_length _ _) (Spec.code_length _ _)
        rw [beq_self_eq_true] at heq
        have HEQ7 := Aside0.mk heq
        clear hE7 heq
        go_wp2_with (with_reducible refine gate_dst (N := 103) rfl ?_; refine Aside0.out ?_)
        refine Aside0.mk ?_
        refine wpL_val (.bool true) (w1 := x7) (by rfl) (by simp [execOp, hashV, HEQ7.out, go_sem]) ?_
        go_wp2
        go_ret
        exact ⟨rfl, HBx7.out⟩
      · have h4' : ¬ ((4000 : Int) < al.length) := by omega
        clear hB hY hO hb8 hnx hold hal hbs hq hxw hfl1
        go_wp2_with fail
        refine (kcopy_calls wr G S xs al HY.out).mono ?_
        rintro e w4 ⟨G2, S2, rfl, hg2, hs2, hE4, hY4⟩
        have HE4 := Aside0.mk hE4
        have HB4 := Aside0.mk (below_ext HB.out hE4)
        have HY4 := Aside0.mk hY4
        have HYk := Aside0.mk (HY.out.ext hE4)
        have hSS : S < wr.heap.size := by omega
        clear hE4 hY4 hcell
        go_wp2_with fail
        refine (kcode_calls w4 G2 S2 xs al (HK.out.below HB4.out HK.out.1) (HF.out.below HB4.out HF.out.1) HY4.out (by omega)).mono ?_
        rintro e w5 ⟨rfl, hE5⟩
        have HE5 := Aside0.mk (HE4.out.trans hE5)
        have HB5 := Aside0.mk (below_ext HB4.out hE5)
        have HY5 := Aside0.mk (HY4.out.ext hE5)
        have HYk5 := Aside0.mk (HYk.out.ext hE5)
        clear hE5
        go_wp2_with fail
        refine (kcode_calls w5 G S xs al (HK.out.below HB5.out HK.out.1) (HF.out.below HB5.out HF.out.1) HYk5.out (by omega)).mono ?_
        rintro e w6 ⟨rfl, hE6⟩
        have HE6 := Aside0.mk (HE5.out.trans hE6)
        have HB6 := Aside0.mk (below_ext HB5.out hE6)
        have HY6 := Aside0.mk (HY5.out.ext hE6)
        have HYk6 := Aside0.mk (HYk5.out.ext hE6)
        have heq := eq28 w6 (Spec.code xs al) (Spec.code xs al) (Spec.code_length _ _) (Spec.code_length _ _)
        rw [beq_self_eq_true] at heq
        have HEQ := Aside0.mk heq
        clear hE6 heq
        go_wp2_with (with_reducible refine gate_dst (N := 40) rfl ?_; refine Aside0.out ?_)
        refine Aside0.mk ?_
        refine wpL_val (.bool false) (w1 := w6) (by rfl) (by simp [execOp, hashV, HEQ.out, go_sem]) ?_
        have HO6 := Aside0.mk (HO.out.ext HE6.out)
        have hsz6 : wr.heap.size ≤ w6.heap.size := HE6.out.size
        obtain ⟨ib, hib⟩ : ∃ ib, ib = UInt8.ofNat k := ⟨_, rfl⟩
        rw [← hib] at hkb
        clear hib
        go_wp2_with fail
        have hEb : Ext w6 (w6.alloc (.cells #[.int .u8 (n8 ib)] 5)) := (Ext.refl _).alloc _
        refine (kwrite_calls _ G2 S2 xs al (some ⟨w6.heap.size, 0, none⟩) 1 [ib] (HK.out.below (below_ext HB6.out hEb) HK.out.1) (HY6.out.ext hEb) (Bs.one w6 ib) (Nat.le_refl _) (fun a ha _ => by cases ha; have := HY6.out.st.choose_spec.2.lt; show w6.heap.size ≠ S2; omega) (by simp; omega)).mono ?_
        rintro e w7 ⟨rfl, hO7, hY7⟩
        have HB7 := Aside0.mk (below_only (below_ext HB6.out hEb) hO7 (by have := HB.out.size; omega) (by have := HB6.out.size; simp; omega))
        have HY7 := Aside0.mk hY7
        have hne2 : S2 ≠ S := by omega
        have hne3 : S2 ≠ G := by omega
        have HYk7 := Aside0.mk ((HYk6.out.ext hEb).only hO7 hne3.symm hne2.symm)
        have HO7 := Aside0.mk ((HO6.out.ext hEb).only2 hO7 (show w6.heap.size ≥ 0 by omega) (fun k' hk' => by have := own_lt HO.out k' hk'; omega))
        have hsz7 : w6.heap.size ≤ w7.heap.size := by have := hO7.size; simp at this; omega
        clear hEb hO7 hY7
        go_wp2_with fail
        refine (kcode_calls w7 G2 S2 xs (al ++ [ib]) (HK.out.below HB7.out HK.out.1) (HF.out.below HB7.out HF.out.1) HY7.out (by simp; omega)).mono ?_
        rintro e w8 ⟨rfl, hE8⟩
        have HB8' := Aside0.mk (below_ext HB7.out hE8)
        have HYk8 := Aside0.mk (HYk7.out.ext hE8)
        have HO8 := Aside0.mk (HO7.out.ext hE8)
        have hsz8 : w7.heap.size ≤ w8.heap.size := hE8.size
        clear hE8
        go_wp2_with fail
        obtain ⟨A8', c8', e8, hc8', hb8'⟩ := HO8.out.open
        injection e8 with e81 e82 e83
        subst e81 e83
        have hEb : Ext w8 (w8.alloc (.cells #[.int .u8 (n8 ib)] 5)) := (Ext.refl _).alloc _
        have hcall := mcodeTwo_calls (w8.alloc (.cells #[.int .u8 (n8 ib)] 5)) A c xs A8 c8 al (some ⟨w8.heap.size, 0, none⟩) 1 [ib] (HK.out.below (below_ext HB8'.out hEb) HK.out.1) (HF.out.below (below_ext HB8'.out hEb) HF.out.1) (HX.out.below (below_ext HB8'.out hEb)) hc (by omega) (hb8'.ext hEb) hc8 (Bs.one w8 ib) (Nat.le_refl _) (by simp; omega)
        rw [show (w8.alloc (.cells #[.int .u8 (n8 ib)] 5)).heap.size = w8.heap.size + 1 by simp, show [ib].length = 1 from rfl] at hcall
        with_reducible refine hcall.mono ?_
        rintro e w9 ⟨rfl, hE9⟩
        have HE9 := Aside0.mk (hEb.trans hE9)
        have HB9 := Aside0.mk (below_ext HB8'.out (hEb.trans hE9))
        have HYk9 := Aside0.mk (HYk8.out.ext (hEb.trans hE9))
        have HO9 := Aside0.mk (HO8.out.ext (hEb.trans hE9))
        have hsz9 : w8.heap.size ≤ w9.heap.size := (hEb.trans hE9).size
        have heq := eq28 w9 (Spec.code xs (al ++ [ib])) (Spec.code xs (al ++ [ib])) (Spec.code_length _ _) (Spec.code_length _ _)
        rw [beq_self_eq_true] at heq
        have HEQ9 := Aside0.mk heq
        have HQ9 := Aside0.mk ((HQ.out.below (below_ext HB8'.out (hEb.trans hE9))).ext ((Ext.refl _).alloc (.cells #[] 5)))
        clear hEb hE9 heq e82 hb8' hc8' hcall
        go_wp2_with (with_reducible refine gate_dst (N := 56) rfl ?_; refine Aside0.out ?_)
        refine Aside0.mk ?_
        refine wpL_val (.bool true) (w1 := w9) (by rfl) (by simp [execOp, hashV, HEQ9.out, go_sem]) ?_
        go_wp2_with (with_reducible refine gate_dst (N := 60) rfl ?_; refine Aside0.out ?_)
        refine Aside0.mk ?_
        refine wpL_append (F := fun v1 wa => Ext (w9.alloc (.cells #[] 5)) wa ∧ Fr (w9.alloc (.cells #[] 5)).heap.size wa v1 q) rfl ?_ ?_
        · obtain ⟨v1, w4, hr, hE, hF⟩ := run_copyB (w9.alloc (.cells #[] 5)) 24 ⟨w9.heap.size, 0, none⟩ A' c' q HQ9.out (by omega)
          exact ⟨v1, w4, hr, hE, hF⟩
        rintro v1 wa ⟨hEa, hFa⟩
        obtain ⟨Aa, ca, rfl, hca, hba, hfa⟩ := hFa
        have HEa := Aside0.mk (Ext.trans ((Ext.refl w9).alloc _) hEa)
        have HBa := Aside0.mk (below_ext HB9.out HEa.out)
        have HYka := Aside0.mk (HYk9.out.ext HEa.out)
        have HOa := Aside0.mk (HO9.out.ext HEa.out)
        have HBba := Aside0.mk hba
        have HFa := Aside0.mk hfa
        have hsza : w9.heap.size ≤ wa.heap.size := HEa.out.size
        clear hEa hba hfa
        go_wp2_with fail
        refine (kwrite_calls wa G S xs al Aa ca q (HK.out.below HBa.out HK.out.1) HYka.out HBba.out hca (fun a ha hp => by have := HFa.out a ha hp; simp at this; omega) (by omega)).mono ?_
        rintro e wb ⟨rfl, hOb, hYb⟩
        have HBb := Aside0.mk (below_only HBa.out hOb hwS (by have := HBa.out.size; omega))
        have HYb := Aside0.mk hYb
        have HOb := Aside0.mk (HOa.out.only hOb hSN)
        have hszb : wa.heap.size ≤ wb.heap.size := hOb.size
        have HQb := Aside0.mk (HQ.out.below HBb.out)
        clear hOb hYb
        go_wp2_with (with_reducible refine gate_dst (N := 64) rfl ?_; refine Aside0.out ?_)
        refine Aside0.mk ?_
        refine print_append_row (w0 := wb) N1 rfl _ _ 24 5 .u8 1 rfl Tryd.underlying24 info5 (by omega) (.slice A8 al.length c8) (ints al) (ints q) A' q.length c' rfl rfl HOb.out HQb.out.reads (Below.refl _ _) (by omega) (by rw [ints_length]; omega) ?_
        intro vc wc hOc hBc hgc _
        obtain ⟨aq, haq⟩ : ∃ aq, aq = al ++ q := ⟨_, rfl⟩
        have HAQ := Aside0.mk haq
        have haql : aq.length ≤ 1048576 := by rw [haq, List.length_append]; omega
        have HOc := Aside0.mk (show Ob N1 wc vc aq by have h := hOc; rw [show ints al ++ ints q = ints aq by rw [haq]; simp [ints]] at h; exact h)
        have HYc := Aside0.mk (show Ky wc G S xs aq by rw [haq]; exact HYb.out.under hBc hGN hSN)
        have HBc := Aside0.mk (HBb.out.trans (hBc.mono (show w.heap.size ≤ N1 by omega)))
        have hszc : wb.heap.size ≤ wc.heap.size := hBc.size
        clear hOc hBc hgc haq
        obtain ⟨Ac, cc, rfl, hcc, hbc⟩ := HOc.out.open
        have HBbc := Aside0.mk hbc
        clear hbc
        go_wp2_with fail
        refine (kcode_calls wc G S xs aq (HK.out.below HBc.out HK.out.1) (HF.out.below HBc.out HF.out.1) HYc.out (by omega)).mono ?_
        rintro e wd ⟨rfl, hEd⟩
        have HBd := Aside0.mk (below_ext HBc.out hEd)
        have HYd := Aside0.mk (HYc.out.ext hEd)
        have HOd := Aside0.mk (HOc.out.ext hEd)
        have HBbd := Aside0.mk (HBbc.out.ext hEd)
        have hszd : wc.heap.size ≤ wd.heap.size := hEd.size
        clear hEd
        go_wp2_with fail
        refine (mcodeOne_calls wd A c xs Ac cc aq (HK.out.below HBd.out HK.out.1) (HF.out.below HBd.out HF.out.1) (HX.out.below HBd.out) hc (by omega) HBbd.out hcc (by omega)).mono ?_
        rintro e we ⟨rfl, hEe⟩
        have HBe := Aside0.mk (below_ext HBd.out hEe)
        have HYe := Aside0.mk (HYd.out.ext hEe)
        have HOe := Aside0.mk (HOd.out.ext hEe)
        have hsze : wd.heap.size ≤ we.heap.size := hEe.size
        have heq := eq28 we (Spec.code xs aq) (Spec.code xs aq) (Spec.code_length _ _) (Spec.code_length _ _)
        rw [beq_self_eq_true] at heq
        have HEQe := Aside0.mk heq
        clear hEe heq
        go_wp2_with (with_reducible refine gate_dst (N := 74) rfl ?_; refine Aside0.out ?_)
        refine Aside0.mk ?_
        refine wpL_val (.bool false) (w1 := we) (by rfl) (by simp [execOp, hashV, HEQe.out, go_sem]) ?_
        go_wp2
        go_roundw
        case rel => exact ⟨k + 1, by omega, by simp, by omega, HBe.out, by rw [HNX.out, ← HAQ.out]; exact HYe.out, by rw [HNX.out, ← HAQ.out]; exact HOe.out⟩
        case measure => simp [intOf]; omega
    · obtain rfl : k = ps.length := by omega
      obtain ⟨al, hal⟩ : ∃ al, al = (ps.take ps.length).flatten := ⟨_, rfl⟩
      rw [← hal] at hY hO hfl
      obtain ⟨A8, c8, rfl, hc8, hb8⟩ := hO.open
      have HB := Aside0.mk hB
      have HY := Aside0.mk hY
      have HO := Aside0.mk hO
      clear hB hY hO hb8 hal hxw
      have hcat : (al ++ ts).length ≤ 3000000 := by rw [List.length_append]; omega
      obtain ⟨at', hat⟩ : ∃ at', at' = al ++ ts := ⟨_, rfl⟩
      have HAT := Aside0.mk hat
      have hatl : at'.length ≤ 3000000 := by rw [hat]; exact hcat
      clear hat hcat
      go_wp2_with fail
      refine (kwrite_calls wr G S xs al A3 c3 ts (HK.out.below HB.out HK.out.1) HY.out (HT.out.below HB.out) hc3 (fun a ha hp => by have := fr_lt HT.out a ha hp; omega) (by omega)).mono ?_
      rintro e x1 ⟨rfl, hO1, hY1⟩
      rw [← HAT.out] at hY1
      have HBx1 := Aside0.mk (below_only HB.out hO1 hwS (by have := HB.out.size; omega))
      have HYx1 := Aside0.mk hY1
      have HOx1 := Aside0.mk (HO.out.only hO1 hSN)
      have hsx1 : wr.heap.size ≤ x1.heap.size := hO1.size
      clear hO1 hY1
      go_wp2_with fail
      refine (kcode_calls x1 G S xs at' (HK.out.below HBx1.out HK.out.1) (HF.out.below HBx1.out HF.out.1) HYx1.out (by omega)).mono ?_
      rintro e x2 ⟨rfl, hE2⟩
      have HBx2 := Aside0.mk (below_ext HBx1.out hE2)
      have HOx2 := Aside0.mk (HOx1.out.ext hE2)
      have hsx2 : x1.heap.size ≤ x2.heap.size := hE2.size
      clear hE2
      go_wp2_with fail
      obtain ⟨A8', c8', e8, hc8', hb8'⟩ := HOx2.out.open
      injection e8 with e81 e82 e83
      subst e81 e83
      have hcall := mcodeTwo_calls x2 A c xs A8 c8 al A3 c3 ts (HK.out.below HBx2.out HK.out.1) (HF.out.below HBx2.out HF.out.1) (HX.out.below HBx2.out) hc (by omega) hb8' hc8 (HT.out.below HBx2.out) hc3 (by omega)
      rw [← HAT.out] at hcall
      with_reducible refine hcall.mono ?_
      rintro e x3 ⟨rfl, hE3⟩
      have HBx3 := Aside0.mk (below_ext HBx2.out hE3)
      have HOx3 := Aside0.mk (HOx2.out.ext hE3)
      have hsx3 : x2.heap.size ≤ x3.heap.size := hE3.size
      have heq := eq28 x3 (Spec.code xs at') (Spec.code xs at') (Spec.code_length _ _) (Spec.code_length _ _)
      rw [beq_self_eq_true] at heq
      have HEQ3 := Aside0.mk heq
      clear hE3 heq hcall e82 hb8' hc8'
      go_wp2_with (with_reducible refine gate_dst (N := 87) rfl ?_; refine Aside0.out ?_)
      refine Aside0.mk ?_
      refine wpL_val (.bool true) (w1 := x3) (by rfl) (by simp [execOp, hashV, HEQ3.out, go_sem]) ?_
      go_wp2_with fail
      obtain ⟨A9', c9', e9, hc9', hb9'⟩ := HOx3.out.open
      injection e9 with e91 e92 e93
      subst e91 e93
      have hEm : Ext x3 (x3.alloc (.cells #[] 5)) := (Ext.refl _).alloc _
      have hcall := mcode_calls _ A c xs (some ⟨(x3.alloc (.cells #[] 5)).heap.size, 0, none⟩) 4 [al, [], ts, []] (((HK.out.below HBx3.out HK.out.1).ext hEm).ext ((Ext.refl _).alloc _)) (((HF.out.below HBx3.out HF.out.1).ext hEm).ext ((Ext.refl _).alloc _)) (((HX.out.below HBx3.out).ext hEm).ext ((Ext.refl _).alloc _)) hc (by omega)
        (bss_four (w := x3.alloc (.cells #[] 5)) (A := A8) (A1 := none) (A2 := A3) (A3 := some ⟨x3.heap.size, 0, none⟩) (c := c8) (c1 := 0) (c2 := c3) (c3 := 0) (xs := al) (ys := []) (zs := ts) (us := []) (hb9'.ext hEm) hc8 (Bs.none_ _ _) (Nat.le_refl _) ((HT.out.below HBx3.out).ext hEm) hc3 (Bs.none_ _ _) (Nat.le_refl _)) (by simp; omega)
      rw [show (x3.alloc (.cells #[] 5)).heap.size = x3.heap.size + 1 by simp, show [al, [], ts, []].length = 4 from rfl, show ([] : List UInt8).length = 0 from rfl, show [al, [], ts, []].flatten = at' by rw [HAT.out]; simp] at hcall
      with_reducible refine hcall.mono ?_
      rintro e x4 ⟨rfl, hE4⟩
      have hE4' : Ext x3 x4 := Ext.trans (hEm.alloc _) hE4
      have HBx4 := Aside0.mk (below_ext HBx3.out hE4')
      have HOx4 := Aside0.mk (HOx3.out.ext hE4')
      have hsx4 : x3.heap.size ≤ x4.heap.size := hE4'.size
      clear hE4 hE4' hcall hEm e92 hb9' hc9'
      obtain ⟨A9', c9', e9, hc9', hb9'⟩ := HOx4.out.open
      injection e9 with e91 e92 e93
      subst e91 e93
      have HR4 := Aside0.mk ((hb9'.ext ((Ext.refl x4).alloc (.cells #[] 5))).reads)
      clear e92 hb9' hc9'
      go_wp2_with (with_reducible refine gate_dst (N := 98) rfl ?_; refine Aside0.out ?_)
      refine Aside0.mk ?_
      refine gate_guard (by rfl) ?_
      dsimp only
      refine print_append_row (w0 := x4) x4.heap.size rfl _ _ 24 5 .u8 1 rfl Tryd.underlying24 info5 (by omega) (.slice (some ⟨x4.heap.size, 0, none⟩) 0 0) (ints []) (ints al) A8 al.length c8 rfl rfl (Ob.made x4) HR4.out ((Ext.refl x4).alloc _) (by simp) (by rw [ints_length]; simp; omega) ?_
      intro v5 x5 hO5 hB5 hg5 _
      have HO5 := Aside0.mk (show Ob x4.heap.size x5 v5 al by have h := hO5; rw [show ints [] ++ ints al = ints al from rfl] at h; exact h)
      have HB5 := Aside0.mk (show Ext x4 x5 from hB5)
      have HBx5 := Aside0.mk (below_ext HBx4.out hB5)
      clear hO5 hB5 hg5
      go_wp2_with (with_reducible refine gate_dst (N := 100) rfl ?_; refine Aside0.out ?_)
      refine Aside0.mk ?_
      refine gate_guard (by rfl) ?_
      dsimp only
      refine print_append_row (w0 := x4) x4.heap.size rfl _ _ 24 5 .u8 1 rfl Tryd.underlying24 info5 (by omega) v5 (ints al) (ints ts) A3 ts.length c3 rfl rfl HO5.out (HT.out.below HBx5.out).reads HB5.out HB5.out.size (by rw [ints_length]; omega) ?_
      intro v6 x6 hO6 hB6 hg6 _
      have HO6 := Aside0.mk (show Ob x4.heap.size x6 v6 at' by have h := hO6; rw [show ints al ++ ints ts = ints at' by rw [HAT.out]; simp [ints]] at h; exact h)
      have HBx6 := Aside0.mk (below_ext HBx4.out (show Ext x4 x6 from hB6))
      clear hO6 hB6 hg6
      obtain ⟨A6, c6, rfl, hc6, hb6⟩ := HO6.out.open
      have HB6 := Aside0.mk hb6
      clear hb6
      go_wp2_with fail
      with_reducible refine (mcodeOne_calls x6 A c xs A6 c6 at' (HK.out.below HBx6.out HBK.out) (HF.out.below HBx6.out HBF.out) (HX.out.below HBx6.out) hc (by omega) HB6.out hc6 (by omega)).mono ?_
      rintro e x7 ⟨rfl, hE7⟩
      have HBx7 := Aside0.mk (below_ext HBx6.out hE7)
      have heq := eq28 x7 (Spec.code xs at') (Spec.code xs at') (Spec.code_length _ _) (Spec.code_length _ _)
      rw [beq_self_eq_true] at heq
      have HEQ7 := Aside0.mk heq
      clear hE7 heq
      go_wp2_with (with_reducible refine gate_dst (N := 103) rfl ?_; refine Aside0.out ?_)
      refine Aside0.mk ?_
      refine wpL_val (.bool true) (w1 := x7) (by rfl) (by simp [execOp, hashV, HEQ7.out, go_sem]) ?_
      go_wp2
      go_ret
      exact ⟨rfl, HBx7.out⟩
end Go.Proofs.YtnkhhnfmijljbaaDoor
set_option linter.unusedVariables false
set_option linter.unusedSimpArgs false
namespace Go.Proofs.YtnkhhnfmijljbaaDoor
open Go.RowKit Go.Proofs.YtnkhhnfmijljbaaDoorW.PrintWords Go.Proofs.YtnkhhnfmijljbaaDoorW.PrintLast Go.Proofs.YtnkhhnfmijljbaaDoorW.PrintMore
open Extern.Stop (cell)

section
variable {P : Program} {ops : Array Oper} {rest : List Oper} {o : Oper} {a : Act} {Q : Exit → Act → World → Prop}
/-- append(v, y) on a row of the call's own -/
theorem ob_push {w W : World} (hgd : o.guard = none) (s x : Operand) (v : Value) (al : List UInt8) (y : UInt8) (ho : o.op = .call { callee := .builtin .append, args := #[s, x], argTypes := #[24, 24] })
    (hs : a.eval s = v) (hx : a.eval x = .slice (some ⟨W.heap.size, 0, none⟩) 1 1) (HO : Ob w.heap.size W v al) (hE : Ext w W) (hl : al.length < 140737488355328)
    (h : ∀ v1 w1, Ob w.heap.size w1 v1 (al ++ [y]) → Ext w w1 → wpList Tryd.prog ops Q rest (a.put o.dst v1) w1) :
    wpList Tryd.prog ops Q (o :: rest) a (W.alloc (.cells #[.int .u8 (n8 y)] 5)) :=
  print_append_num (w0 := w) w.heap.size hgd s x 24 5 .u8 1 ho Tryd.underlying24 info5 (by omega) v (ints al) (n8 y) hs hx HO hE hE.size (by rw [ints_length]; omega)
    (fun v1 w1 hO hB _ _ => h v1 w1 (by rw [show ints al ++ [n8 y] = ints (al ++ [y]) by simp [ints, n8]] at hO; exact hO) hB)
/-- append(v, ys...) -/
theorem ob_row {w W : World} (hgd : o.guard = none) (s x : Operand) (v : Value) (al ys : List UInt8) (A : Option Addr) (c : Nat) (ho : o.op = .call { callee := .builtin .append, args := #[s, x], argTypes := #[24, 24] })
    (hs : a.eval s = v) (hx : a.eval x = .slice A ys.length c) (HO : Ob w.heap.size W v al) (hy : Bs W A ys.length ys) (hE : Ext w W) (hl : al.length + ys.length ≤ 140737488355328)
    (h : ∀ v1 w1, Ob w.heap.size w1 v1 (al ++ ys) → Ext w w1 → wpList Tryd.prog ops Q rest (a.put o.dst v1) w1) :
    wpList Tryd.prog ops Q (o :: rest) a W :=
  print_append_row (w0 := w) w.heap.size hgd s x 24 5 .u8 1 ho Tryd.underlying24 info5 (by omega) v (ints al) (ints ys) A ys.length c hs hx HO hy.reads hE hE.size (by rw [ints_length]; omega)
    (fun v1 w1 hO hB _ _ => h v1 w1 (by rw [show ints al ++ ints ys = ints (al ++ ys) by simp [ints]] at hO; exact hO) hB)
end
def lenV : Value → Nat
  | .slice _ n _ => n
  | _ => 0
theorem Ob.lenV {B : Nat} {w : World} {v : Value} {al : List UInt8} (h : Ob B w v al) : lenV v = al.length := by
  obtain ⟨A, c, rfl, _⟩ := h.open
  rfl
theorem be64_take (n j : Nat) (h : j < 8) : (Spec.be64 n).take (j + 1) = (Spec.be64 n).take j ++ [UInt8.ofNat (n >>> (56 - 8 * j))] := by
  match j, h with
  | 0, _ | 1, _ | 2, _ | 3, _ | 4, _ | 5, _ | 6, _ | 7, _ => rfl
set_option maxHeartbeats 2000000 in
set_option maxRecDepth 100000 in
theorem padded_calls (w : World) (A : Option Addr) (c : Nat) (bs : List UInt8) (hx : Bs w A bs.length bs) (hc : bs.length ≤ c) (hl : bs.length ≤ 100000000000000) :
    Calls Tryd.prog 33 #[.slice A bs.length c] w (fun e w' => ∃ v, e = .returned v ∧ Ob w.heap.size w' v (Spec.padded bs) ∧ Ext w w') := by
  have HX := Aside0.mk hx
  clear hx
  go_enter Tryd.func33, Tryd.ntmps33
  go_wp2_with (with_reducible refine gate_dst (N := 8) rfl ?_; refine Aside0.out ?_)
  refine Aside0.mk ?_
  refine ob_row (w := w) rfl _ _ (.slice (some ⟨w.heap.size, 0, none⟩) 0 0) [] bs A c rfl rfl rfl (Ob.made w) (HX.out.ext ((Ext.refl w).alloc _)) ((Ext.refl w).alloc _) (by simp; omega) ?_
  intro v1 w1 hO1 hE1
  have HO1 := Aside0.mk (show Ob w.heap.size w1 v1 bs from hO1)
  have HE1 := Aside0.mk hE1
  clear hO1 hE1
  go_wp2_with (with_reducible refine gate_dst (N := 11) rfl ?_; refine Aside0.out ?_)
  refine Aside0.mk ?_
  refine ob_push (w := w) rfl _ _ v1 bs 128 rfl rfl rfl HO1.out HE1.out (by omega) ?_
  intro v2 w2 hO2 hE2
  have HO2 := Aside0.mk hO2
  have HE2 := Aside0.mk hE2
  clear hO2 hE2
  go_wp2_with fail
  go_loopw [3] (fun v wr => ∃ z, z ≤ Spec.zerosFor bs.length ∧ Ob w.heap.size wr v (bs ++ [0x80] ++ List.replicate z 0) ∧ Ext w wr) (fun v _ => bs.length + 1 + Spec.zerosFor bs.length - lenV v)
  case atStart => exact ⟨0, by omega, by simpa using HO2.out, HE2.out⟩
  case round =>
    obtain ⟨z, hz, hO, hE⟩ := hrel
    obtain ⟨q, hq⟩ : ∃ q, q = bs ++ [0x80] ++ List.replicate z 0 := ⟨_, rfl⟩
    have hql : q.length = bs.length + 1 + z := by rw [hq]; simp; omega
    rw [← hq] at hO
    have hlv := hO.lenV
    obtain ⟨A', c', hv, hc', hb'⟩ := hO.open
    have hzf : Spec.zerosFor bs.length = (119 - bs.length % 64) % 64 := rfl
    have HO := Aside0.mk hO
    have HE := Aside0.mk hE
    have HLV := Aside0.mk hlv
    have HQ := Aside0.mk hq
    have HQL := Aside0.mk hql
    by_cases hlt : z < Spec.zerosFor bs.length
    · have hn56 : ¬ ((q.length : Int) % 64 = 56) := by omega
      have HZF := Aside0.mk hzf
      subst hv
      clear hO hE hlv hq hzf hb' hql
      go_wp2_with (with_reducible refine gate_dst (N := 18) rfl ?_; refine Aside0.out ?_)
      refine Aside0.mk ?_
      refine ob_push (w := w) rfl _ _ (.slice A' q.length c') q 0 rfl rfl rfl HO.out HE.out (by have := HZF.out; have := HQL.out; omega) ?_
      intro v3 w3 hO3 hE3
      have HL3 := Aside0.mk hO3.lenV
      have HO3 := Aside0.mk hO3
      have HE3 := Aside0.mk hE3
      clear hO3 hE3
      go_wp2
      go_roundw
      case rel =>
        refine ⟨z + 1, by omega, ?_, HE3.out⟩
        have h1 := HO3.out
        rw [HQ.out, List.append_assoc (bs ++ [0x80]), ← List.replicate_succ'] at h1
        exact h1
      case measure => rw [HLV.out, HL3.out, List.length_append, HQL.out]; simp; omega
    · have hn56 : (q.length : Int) % 64 = 56 := by omega
      obtain rfl : z = Spec.zerosFor bs.length := by omega
      have HZF := Aside0.mk hzf
      subst hv
      clear hO hE hlv hq hzf hb' hql
      have h8 : (8 * (bs.length : Int)) = ((8 * bs.length : Nat) : Int) := by simp
      obtain ⟨m, hm⟩ : ∃ m, m = 8 * bs.length := ⟨_, rfl⟩
      go_wp2_with fail
      clear hn56
      go_loopw [3, 5] (fun v i wr => ∃ j : Nat, j ≤ 8 ∧ i = .int .i64 (56 - 8 * (j : Int)) ∧ Ob w.heap.size wr v (q ++ (Spec.be64 m).take j) ∧ Ext w wr) (fun _ i _ => (intOf i + 8).toNat)
      case atStart => exact ⟨0, by omega, by simp, by simpa using HO.out, HE.out⟩
      case round =>
        obtain ⟨j, hj, rfl, hO, hE⟩ := hrel
        have hOl := hO.lenV
        have HO5 := Aside0.mk hO
        have HE5 := Aside0.mk hE
        by_cases hj8 : j < 8
        · have b1 : (0 : Int) ≤ 56 - 8 * (j : Int) := by omega
          have b2 : ¬ ((56 : Int) - 8 * (j : Int) < 0) := by omega
          clear hO hE hOl
          go_wp2_with (with_reducible refine gate_dst (N := 33) rfl ?_; refine Aside0.out ?_)
          refine Aside0.mk ?_
          rw [show ((bs.length : Int) * 8 / 2 ^ (56 - 8 * j) % 256) = n8 (UInt8.ofNat (m >>> (56 - 8 * j))) by rw [← byteOf, hm]; push_cast; rw [Int.mul_comm]]
          refine ob_push (w := w) rfl _ _ _ (q ++ (Spec.be64 m).take j) (UInt8.ofNat (m >>> (56 - 8 * j))) rfl rfl rfl HO5.out HE5.out (by have := HZF.out; have := HQL.out; simp; omega) ?_
          intro v3 w3 hO3 hE3
          rw [List.append_assoc, ← be64_take m j hj8] at hO3
          have HO3 := Aside0.mk hO3
          have HE3 := Aside0.mk hE3
          clear hO3 hE3
          go_wp2
          go_roundw
          case rel => exact ⟨j + 1, by omega, by push_cast; congr 1; omega, HO3.out, HE3.out⟩
          case measure => simp [intOf]; omega
        · obtain rfl : j = 8 := by omega
          clear hO hE hOl
          have HM := Aside0.mk hm
          go_wp2_with fail
          go_ret
          refine ⟨_, rfl, ?_, HE5.out⟩
          have h1 := HO5.out
          rw [HQ.out, HM.out, List.take_of_length_le (by simp [Spec.be64])] at h1
          exact h1
end Go.Proofs.YtnkhhnfmijljbaaDoor
set_option linter.unusedVariables false
set_option linter.unusedSimpArgs false
namespace Go.Proofs.YtnkhhnfmijljbaaDoor
open Go.RowKit Go.Proofs.YtnkhhnfmijljbaaDoorW.PrintWords Go.Proofs.YtnkhhnfmijljbaaDoorW.PrintLast Go.Proofs.YtnkhhnfmijljbaaDoorW.PrintMore
open Extern.Stop (cell)

theorem wrap64 (x : Int) (h0 : 0 ≤ x) (h1 : x < 9223372036854775808) : IntKind.i64.wrap x = x := by
  simp [IntKind.wrap, IntKind.signed, IntKind.bits]; omega
/-- v[i:i+m] of a row of the call's own -/
theorem ob_sub {B : Nat} {w : World} {v : Value} {xs : List UInt8} (h : Ob B w v xs) (i m : Nat) (hi : i + m ≤ xs.length) (hm : 0 < m) :
    ∃ g o c, (∀ W : World, (Instr.slice 24 v (some (.int .i64 (i : Int))) (some (.int .i64 ((i + m : Nat) : Int))) none).run Tryd.prog W = .ok (.slice (some ⟨g, o, none⟩) m c) W) ∧ Bs w (some ⟨g, o, none⟩) m ((xs.drop i).take m) := by
  obtain ⟨A, c, rfl, hc, hb⟩ := h.open
  have hA : ∃ g, A = some ⟨g, 0, none⟩ := by
    rcases h.2 with ⟨he, h0⟩ | ⟨g, cap, cur, he, _⟩
    · rw [ints_length] at h0; omega
    · injection he with ha _ _
      exact ⟨g, ha⟩
  obtain ⟨g, rfl⟩ := hA
  obtain ⟨i5, hi5, _, hsz, _⟩ := i5
  have h1 := hb.take (i + m) hi
  have h2 := h1.drop (c := c) i (by rw [List.length_take]; omega) (by rw [List.length_take]; omega)
  have e : (xs.take (i + m)).drop i = (xs.drop i).take m := by rw [List.drop_take]; congr 1; omega
  have hl : ((xs.drop i).take m).length = m := by simp; omega
  rw [e, hl, if_neg (by omega)] at h2
  rw [Option.map_some, addr_add, Nat.zero_add] at h2
  refine ⟨g, i, c - i, fun W => ?_, h2⟩
  rw [cut_mid 24 5 .i64 .i64 Tryd.underlying24 hi5 1 hsz (some ⟨g, 0, none⟩) xs.length c i ((i + m : Nat) : Int) (by omega) (by omega) (by omega) hc W, Int.toNat_natCast, Int.toNat_natCast, if_neg (by omega), show i + m - i = m by omega, Option.map_some, addr_add, Nat.zero_add, Nat.mul_one]
def hashP (V : Spec.V) (j : Nat) : List Value := (V.bytes.take j).map cell ++ List.replicate (32 - j) (.int .u8 0)
theorem hashP_set (V : Spec.V) (j : Nat) (h : j < 32) : (hashP V j).set j (.int .u8 (n8 (V.bytes.getD j 0))) = hashP V (j + 1) := by
  match j, h with
  | 0, _ | 1, _ | 2, _ | 3, _ | 4, _ | 5, _ | 6, _ | 7, _ | 8, _ | 9, _ | 10, _ | 11, _ | 12, _ | 13, _ | 14, _ | 15, _ | 16, _ | 17, _ | 18, _ | 19, _ | 20, _ | 21, _ | 22, _ | 23, _ | 24, _ | 25, _ | 26, _ | 27, _ | 28, _ | 29, _ | 30, _ | 31, _ => rfl
  | k + 32, h => exact absurd h (by omega)
theorem shr0 (x : UInt32) : x.toUInt8 = (x >>> UInt32.ofNat 0).toUInt8 := by
  show x.toUInt8 = (x >>> 0).toUInt8
  simp
theorem bytes_at (V : Spec.V) (j : Nat) (h : j < 32) : V.bytes.getD j 0 = ((V.list.getD (j / 4) 0) >>> UInt32.ofNat (24 - 8 * (j % 4))).toUInt8 := by
  match j, h with
  | 0, _ | 1, _ | 2, _ | 4, _ | 5, _ | 6, _ | 8, _ | 9, _ | 10, _ | 12, _ | 13, _ | 14, _ | 16, _ | 17, _ | 18, _ | 20, _ | 21, _ | 22, _ | 24, _ | 25, _ | 26, _ | 28, _ | 29, _ | 30, _ => rfl
  | 3, _ | 7, _ | 11, _ | 15, _ | 19, _ | 23, _ | 27, _ | 31, _ => exact shr0 _
  | k + 32, h => exact absurd h (by omega)
theorem hashP_some (V : Spec.V) (j : Nat) (h : j < 32) : ∃ y, (hashP V j)[j]? = some y := ⟨_, List.getElem?_eq_getElem (by simp [hashP, Spec.V.bytes, Spec.bytes32]; omega)⟩
theorem hashP_32 (V : Spec.V) : hashP V 32 = V.bytes.map cell := rfl
set_option maxHeartbeats 2000000 in
set_option maxRecDepth 100000 in
theorem refSum_calls (w : World) (A : Option Addr) (c : Nat) (bs : List UInt8) (hR : RTab w) (hx : Bs w A bs.length bs) (hc : bs.length ≤ c) (hl : bs.length ≤ 10000000000000) :
    Calls Tryd.prog 14 #[.slice A bs.length c] w (fun e w' => e = .returned (hashV (Spec.digest bs)) ∧ Ext w w') := by
  obtain ⟨B, hBdef⟩ : ∃ B, B = w.heap.size := ⟨_, rfl⟩
  have HBD := Aside0.mk hBdef
  have HR := Aside0.mk hR
  have HX := Aside0.mk hx
  clear hR hx
  go_enter Tryd.func14, Tryd.ntmps14
  go_wp2_with (with_reducible change wpList _ _ _ (Oper.mk _ (Op.store 71 _ _) _ _ _ _ :: _) _ _; refine Aside0.out ?_)
  refine Aside0.mk ?_
  have h0 : Row (w.alloc (.cells (z8 32).toArray 28)) B (z8 32) 28 := by rw [hBdef]; exact Row.alloc w (z8 32) 28
  have hs1 : (w.alloc (.cells (z8 32).toArray 28)).heap.size = w.heap.size + 1 := by simp
  refine wpList_store_row rfl 71 _ _ rfl (w.heap.size + 1) (Spec.first.list.map u).toArray rfl rfl 71 (u0s 8).toArray (by rw [← hs1]; exact heap_alloc_new _ _) (by kernel_rfl) rfl (oneU _) ?_
  have hEr : Ext (w.alloc (.cells (z8 32).toArray 28)) (((w.alloc (.cells (z8 32).toArray 28)).alloc (.cells (u0s 8).toArray 71)).setRow (w.heap.size + 1) (Spec.first.list.map u).toArray) := by rw [← hs1]; exact below_alloc_setRow _ _ _
  refine wpList_world (fun w1 => Ext w w1 ∧ Row w1 B (z8 32) 28 ∧ Row w1 (B + 1) (Spec.first.list.map u) 71) ⟨((Ext.refl w).alloc _).trans hEr, h0.ext hEr, by rw [hBdef, ← hs1]; exact alloc_setRow _ _ _ _⟩ ?_
  rintro w1 ⟨hE1, hA1, hV1⟩
  have HE1 := Aside0.mk hE1
  have HA1 := Aside0.mk hA1
  have HV1 := Aside0.mk hV1
  rw [← hBdef]
  clear hE1 hA1 hV1 hEr h0 hBdef hs1
  go_wp2_with fail
  refine (padded_calls w1 A c bs (HX.out.ext HE1.out) hc (by omega)).mono ?_
  rintro e w2 ⟨pv, rfl, hO2, hE2⟩
  obtain ⟨pd, hpd⟩ : ∃ pd, pd = Spec.padded bs := ⟨_, rfl⟩
  rw [← hpd] at hO2
  obtain ⟨B2, hB2⟩ : ∃ B2, B2 = w1.heap.size := ⟨_, rfl⟩
  rw [← hB2] at hO2
  have hB12 : B + 1 < B2 := by rw [hB2]; exact HV1.out.lt
  have hwB : w.heap.size ≤ B := by rw [HBD.out]; exact Nat.le_refl _
  have hpm : pd.length % 64 = 0 := by rw [hpd]; exact Spec.padded_length bs
  have hpl : pd.length ≤ 20000000000000 := by rw [hpd]; simp [Spec.padded, Spec.be64, Spec.zerosFor]; omega
  have HPD := Aside0.mk hpd
  have HE2 := Aside0.mk (HE1.out.trans hE2)
  have HO2 := Aside0.mk hO2
  have HA2 := Aside0.mk (HA1.out.ext hE2)
  have HV2 := Aside0.mk (HV1.out.ext hE2)
  obtain ⟨A2, c2', hpv, hc2', _⟩ := hO2.open
  have HPV := Aside0.mk hpv
  clear hE2 hO2 hpd hB2
  go_wp2_with fail
  go_loopw [5] (fun i wr => ∃ n : Nat, 64 * n ≤ pd.length ∧ i = .int .i64 ((64 * n : Nat) : Int) ∧ Ext w wr ∧ Ob B2 wr pv pd ∧ Row wr B (z8 32) 28 ∧ Row wr (B + 1) ((Spec.foldN Spec.first pd n).list.map u) 71) (fun i _ => pd.length - (intOf i).toNat)
  case atStart => exact ⟨0, by omega, rfl, HE2.out, HO2.out, HA2.out, HV2.out⟩
  case round =>
    obtain ⟨n, hn, rfl, hE, hO, hA, hV⟩ := hrel
    obtain ⟨V, hVV⟩ : ∃ V, V = Spec.foldN Spec.first pd n := ⟨_, rfl⟩
    rw [← hVV] at hV
    obtain ⟨i0, hi0⟩ : ∃ i0, i0 = 64 * n := ⟨_, rfl⟩
    rw [← hi0] at hn ⊢
    have HI := Aside0.mk hi0
    have HE := Aside0.mk hE
    have HO := Aside0.mk hO
    have HA := Aside0.mk hA
    have HV := Aside0.mk hV
    by_cases hlt : i0 < pd.length
    · obtain ⟨blk, hblk⟩ : ∃ blk, blk = (pd.drop i0).take 64 := ⟨_, rfl⟩
      have HBL := Aside0.mk (show blk.length = 64 by rw [hblk]; simp; omega)
      have HNX := Aside0.mk (show Spec.foldN Spec.first pd (n + 1) = Spec.mix V blk by rw [Spec.foldN, ← hVV, ← hi0, ← hblk])
      obtain ⟨ml, hml⟩ : ∃ ml, ml = (Spec.mix V blk).list.map u := ⟨_, rfl⟩
      have HML := Aside0.mk hml
      have HMZ := Aside0.mk (show ml.toArray.size = 8 by rw [hml]; rfl)
      have HMO := Aside0.mk (show ml.toArray.all (·.oneCell') = true by rw [hml]; exact oneU _)
      obtain ⟨g, o, c2, hcut, hbb⟩ := ob_sub hO i0 64 (by omega) (by omega)
      rw [← hblk] at hbb
      have HBB := Aside0.mk hbb
      have HCUT := Aside0.mk hcut
      have HRw := Aside0.mk (HR.out.ext hE)
      have HW64 := Aside0.mk (show IntKind.i64.wrap ((i0 : Int) + 64) = (i0 : Int) + 64 from wrap64 _ (by omega) (by omega))
      have HLE := Aside0.mk (show i0 + 64 ≤ pd.length by omega)
      have hlt' : (i0 : Int) < pd.length := by omega
      clear hE hO hA hV hVV hblk hcut hbb hi0 hml
      rw [hpv]
      go_wp2_with fail
      rw [← hpv]
      refine ext_tail 8 [(0, 17), (1, 18), (2, 19), (3, 20), (4, 21), (5, 22), (6, 23)] [0, 1, 2, 3, 4, 5, 6] (fun i w v => match i with | 0 => v = .agg (V.list.map u).toArray | 1 => v = pv | 2 => v = .int .i64 (i0 : Int) | 3 => v = .int .i64 (i0 : Int) | 4 => v = .int .i64 ((i0 + 64 : Nat) : Int) | 5 => v = .slice (some ⟨g, o, none⟩) 64 c2 | 6 => v = .agg ml.toArray | _ => True) (by kernel_rfl) (by kernel_rfl) (by rfl) rfl ?mono6 ?steps6 ?fin6
      case mono6 =>
        intro i w w' v h hE
        match i with
        | 0 => exact h
        | 1 => exact h
        | 2 => exact h
        | 3 => exact h
        | 4 => exact h
        | 5 => exact h
        | 6 => exact h
        | _ + 7 => trivial
      case steps6 =>
        refine stepE_cons ⟨_, rfl, fun a w hE hH => ?_⟩ ?_
        ·
          have e3 : a.tmps[3]? = some (.pointer (some ⟨B + 1, 0, none⟩)) := hH.old 3 rfl
          exact Or.inl ⟨(rfl), goodE_row (B + 1) 0 (V.list.map u) _ rfl (eval_of e3) (rangeOfRow ((HV.out.drew).ext hE)) Tryd.underlying71 rfl (by kernel_rfl) rfl⟩
        refine stepE_cons ⟨_, rfl, fun a w hE hH => ?_⟩ ?_
        ·
          have e4 : a.tmps[4]? = some (pv) := hH.old 4 rfl
          exact Or.inl ⟨rfl, goodE_move _ rfl (eval_of e4) rfl⟩
        refine stepE_cons ⟨_, rfl, fun a w hE hH => ?_⟩ ?_
        ·
          have e5 : a.tmps[5]? = some (.int .i64 (i0 : Int)) := hH.old 5 rfl
          exact Or.inl ⟨rfl, goodE_move _ rfl (eval_of e5) rfl⟩
        refine stepE_cons ⟨_, rfl, fun a w hE hH => ?_⟩ ?_
        ·
          have e5 : a.tmps[5]? = some (.int .i64 (i0 : Int)) := hH.old 5 rfl
          exact Or.inl ⟨rfl, goodE_move _ rfl (eval_of e5) rfl⟩
        refine stepE_cons ⟨_, rfl, fun a w hE hH => ?_⟩ ?_
        ·
          obtain ⟨v20, e20, g20⟩ := hH.dep 3 20 rfl (by kernel_rfl)
          have q20 : v20 = .int .i64 (i0 : Int) := g20
          subst q20
          exact Or.inl ⟨(rfl), goodE_val (.int .i64 ((i0 + 64 : Nat) : Int)) (by simp [execOp, Act.eval, e20, go_sem]; exact HW64.out) rfl⟩
        refine stepE_cons ⟨_, rfl, fun a w hE hH => ?_⟩ ?_
        ·
          obtain ⟨v18, e18, g18⟩ := hH.dep 1 18 rfl (by kernel_rfl)
          have q18 : v18 = pv := g18
          subst q18
          obtain ⟨v19, e19, g19⟩ := hH.dep 2 19 rfl (by kernel_rfl)
          have q19 : v19 = .int .i64 (i0 : Int) := g19
          subst q19
          obtain ⟨v21, e21, g21⟩ := hH.dep 4 21 rfl (by kernel_rfl)
          have q21 : v21 = .int .i64 ((i0 + 64 : Nat) : Int) := g21
          subst q21
          exact Or.inl ⟨(rfl), goodE_val (.slice (some ⟨g, o, none⟩) 64 c2) (exec_slice rfl (by simp only [Option.map_some, Option.map_none, eval_of e18, eval_of e19, eval_of e21]; exact HCUT.out w)) rfl⟩
        refine stepE_cons ⟨_, rfl, fun a w hE hH => ?_⟩ ?_
        ·
          obtain ⟨v17, e17, g17⟩ := hH.dep 0 17 rfl (by kernel_rfl)
          have q17 : v17 = .agg (V.list.map u).toArray := g17
          subst q17
          obtain ⟨v22, e22, g22⟩ := hH.dep 5 22 rfl (by kernel_rfl)
          have q22 : v22 = .slice (some ⟨g, o, none⟩) 64 c2 := g22
          subst q22
          exact Or.inl ⟨(rfl), goodE_call rfl #[.agg (V.list.map u).toArray, .slice (some ⟨g, o, none⟩) 64 c2] (by simp [Act.eval, e17, e22]) _ Tryd.func34 (by kernel_rfl) (by kernel_rfl) ((mixed_calls w V g o c2 blk (HRw.out.ext ((Ext.to_drew _).trans hE)) HBL.out (HBB.out.ext ((Ext.to_drew _).trans hE))).mono (fun e w' h => ⟨.agg ml.toArray, by rw [HML.out]; exact h.1, h.2, rfl⟩))⟩
        exact stepE_nil
      refine ⟨⟨none, .store 71 (.tmp 3) (.tmp 23), _, _, _, none⟩, rfl, ?_⟩
      rintro vals wz hE hV
      have k23 : vals 6 = .agg ml.toArray := hV 6 (by simp) rfl
      refine ⟨rfl, ?_⟩
      intro KK hKK
      simp only [List.map_cons, List.map_nil, putAll, Act.put, List.setIfInBounds_toArray, List.set_cons_zero, List.set_cons_succ, k23]

      refine wp_store_row 71 _ _ rfl (B + 1) ml.toArray rfl rfl 71 (V.list.map u).toArray (HV.out.drew.ext hE) (by rw [HMZ.out]; kernel_rfl) (by rw [HMZ.out]; rfl) HMO.out (hKK _ _ ?_)
      refine wp_then_world (fun w6 => Ext w w6 ∧ Ob B2 w6 pv pd ∧ Row w6 B (z8 32) 28 ∧ Row w6 (B + 1) ml 71) ⟨?_, ?_, ?_, ?_⟩ ?_
      · exact Below.setRow (Ext.trans HE.out ((Ext.to_drew _).trans hE)) (by omega) _
      · exact (HO.out.ext ((Ext.to_drew _).trans hE)).only ((Only.refl wz (B + 1)).setRow _) (by omega)
      · unfold Row; rw [setRow_heap_other _ _ _ _ (by omega)]; exact HA.out.drew.ext hE
      · exact setRow_heap _ _ _ _ _ _ (HV.out.drew.ext hE)
      rintro w6 ⟨hE6, hO6, hA6, hV6⟩
      rw [HML.out, ← HNX.out] at hV6
      have HE6 := Aside0.mk hE6
      have HO6 := Aside0.mk hO6
      have HA6 := Aside0.mk hA6
      have HV6 := Aside0.mk hV6
      clear hE6 hO6 hA6 hV6 hE hV k23
      go_wp2
      go_roundw
      case rel => exact ⟨n + 1, by have := HLE.out; have := HI.out; omega, by simp; rw [HI.out]; omega, HE6.out, by rw [← HPV.out]; exact HO6.out, HA6.out, HV6.out⟩
      case measure => simp [intOf]; omega
    · have hnn : n = pd.length / 64 := by omega
      have HW := Aside0.mk (show V.bytes = Spec.digest bs by rw [hVV, hnn, HPD.out]; rfl)
      obtain ⟨C, hC⟩ : ∃ C, C = wr.heap.size := ⟨_, rfl⟩
      have hBC : B + 1 < C := by rw [hC]; exact hV.lt
      have hEa : Ext wr (wr.alloc (.cells (z8 32).toArray 28)) := (Ext.refl wr).alloc _
      have HE3 := Aside0.mk (hE.trans hEa)
      have HA3 := Aside0.mk (hA.ext hEa)
      have HV3 := Aside0.mk (hV.ext hEa)
      have HC3 := Aside0.mk (show Row (wr.alloc (.cells (z8 32).toArray 28)) C (hashP V 0) 28 by rw [hC]; exact Row.alloc wr (z8 32) 28)
      clear hE hO hA hV hVV hi0 hnn hEa
      rw [hpv]
      go_wp2_with fail
      rw [← hpv, ← hC]
      clear hC
      go_loopw [7] (fun i wr => ∃ j : Nat, j ≤ 32 ∧ i = .int .i64 (j : Int) ∧ Ext w wr ∧ Row wr B (z8 32) 28 ∧ Row wr (B + 1) (V.list.map u) 71 ∧ Row wr C (hashP V j) 28) (fun i _ => 32 - (intOf i).toNat)
      case atStart => exact ⟨0, by omega, rfl, HE3.out, HA3.out, HV3.out, HC3.out⟩
      case round =>
        obtain ⟨j, hj, rfl, hE, hA, hV, hS⟩ := hrel
        have HE4 := Aside0.mk hE
        have HA4 := Aside0.mk hA
        have HV4 := Aside0.mk hV
        have HS4 := Aside0.mk hS
        by_cases hlt : j < 32
        · obtain ⟨x, hx⟩ : ∃ x, x = V.list.getD (j / 4) 0 := ⟨_, rfl⟩
          have cx : wr.cell? ⟨B + 1, j / 4, none⟩ = some (.int .u32 (n32 x)) := hV.cell (by rw [hx]; exact listU_at V.list (j / 4) (show j / 4 < 8 by omega))
          obtain ⟨y, hy⟩ := hashP_some V j hlt
          have cy := hS.cell hy
          have cf := hS.free j
          have HBY := Aside0.mk (show V.bytes.getD j 0 = (x >>> UInt32.ofNat (24 - 8 * (j % 4))).toUInt8 by rw [bytes_at V j hlt, hx])
          have b1 : (0 : Int) ≤ (j : Int) / 4 ∧ (j : Int) / 4 < 8 := by omega
          have b2 : ¬ ((24 : Int) - 8 * ((j : Int) % 4) < 0) := by omega
          have b3 : (0 : Int) ≤ j ∧ (j : Int) < 32 := by omega
          clear hE hA hV hS hx hy
          go_wp2_with fail
          refine ⟨⟨j + 1, by omega, by simp, HE4.out.setCell (p := ⟨C, j, none⟩) (by show w.heap.size ≤ C; omega) _, HA4.out.other _ _ (by show B ≠ C; omega), HV4.out.other _ _ (by show B + 1 ≠ C; omega), ?_⟩, by simp [intOf]; omega⟩
          rw [u32_shr x _ (by omega), n32_byte, ← HBY.out, ← hashP_set V j hlt]
          exact HS4.out.set j _
        · obtain rfl : j = 32 := by omega
          have HS5 := Aside0.mk (show Row wr C ((Spec.digest bs).map cell) 28 by rw [← HW.out]; exact hS)
          obtain ⟨dl, hdl⟩ : ∃ dl, dl = (Spec.digest bs).map cell := ⟨_, rfl⟩
          have HDL := Aside0.mk hdl
          rw [← hdl] at HS5
          have HDZ := Aside0.mk (show dl.toArray.size = 32 by rw [hdl]; simp [Spec.digest_length])
          have HDO := Aside0.mk (show dl.toArray.all (·.oneCell') = true by rw [hdl]; exact oneCells _)
          clear hE hA hV hS hdl
          go_wp2_with (with_reducible refine gate_dst (N := 40) rfl ?_; refine Aside0.out ?_)
          refine Aside0.mk ?_
          refine wpList_load_row rfl 28 _ rfl C rfl 28 dl.toArray (0, 0) _ HS5.out Tryd.underlying28 rfl (by rw [HDZ.out]; kernel_rfl) ?_
          go_wp2_with (with_reducible change wpList _ _ _ (Oper.mk _ (Op.store 28 _ _) _ _ _ _ :: _) _ _; refine Aside0.out ?_)
          refine Aside0.mk ?_
          refine wpList_store_row rfl 28 _ _ rfl B dl.toArray rfl (by simp [go_sem]) 28 _ HA4.out (by rw [HDZ.out]; kernel_rfl) (by rw [HDZ.out]; rfl) HDO.out ?_
          go_wp2
          (try simp only [Exit.inBlock, Exit.then])
          refine bodyPost_ret (results_cell_row rfl _ _ B 28 dl.toArray (0, 0) _ rfl (setRow_heap _ _ _ _ _ _ HA4.out) Tryd.underlying28 rfl (by rw [HDZ.out]; kernel_rfl)) rfl ?_
          exact ⟨by rw [HDL.out]; rfl, Below.setRow HE4.out (by omega) _⟩
end Go.Proofs.YtnkhhnfmijljbaaDoor
set_option linter.unusedVariables false
set_option linter.unusedSimpArgs false
namespace Go.Proofs.YtnkhhnfmijljbaaDoor
open Go.RowKit Go.Proofs.YtnkhhnfmijljbaaDoorW.PrintWords Go.Proofs.YtnkhhnfmijljbaaDoorW.PrintLast Go.Proofs.YtnkhhnfmijljbaaDoorW.PrintMore
open Extern.Stop (cell)

theorem Ext.drewN {a w : World} (h : Ext a w) : ∀ n, Ext a (w.drewN n)
  | 0 => h
  | n + 1 => (Ext.drewN h n).drew
set_option maxHeartbeats 2000000 in
set_option maxRecDepth 100000 in
theorem join_calls (w : World) (P : Option Addr) (pc : Nat) (ps : List (List UInt8)) (hp : Bss w P ps.length ps) (hpl : ps.flatten.length ≤ 100000000000) (hpn : ps.length ≤ 100000000000) :
    Calls Tryd.prog 15 #[.slice P ps.length pc] w (fun e w' => ∃ v, e = .returned v ∧ Ob w.heap.size w' v ps.flatten ∧ Ext w w') := by
  have HP := Aside0.mk hp
  clear hp
  go_enter Tryd.func15, Tryd.ntmps15
  go_wp2_with fail
  go_loopw [3, 4] (fun v i wr => ∃ k : Nat, k ≤ ps.length ∧ i = .int .i64 k ∧ Ext w wr ∧ Ob w.heap.size wr v (ps.take k).flatten) (fun _ i _ => ps.length - (intOf i).toNat)
  case atStart => exact ⟨0, by omega, rfl, Ext.refl _, Ob.nil⟩
  case round =>
    obtain ⟨k, hk, rfl, hE, hO⟩ := hrel
    have HE := Aside0.mk hE
    have HO := Aside0.mk hO
    by_cases hlt : k < ps.length
    · obtain ⟨ad, A', c', rfl, hcell, hc', hbs⟩ := (HP.out.below hE).at_ k hlt
      have hnx : (ps.take (k + 1)).flatten = (ps.take k).flatten ++ ps.getD k [] := by
        rw [List.take_succ_eq_append_getElem hlt, List.flatten_append]
        simp [List.getD, hlt]
      have hfl1 : (ps.take (k + 1)).flatten.length ≤ ps.flatten.length := by
        conv => rhs; rw [← List.take_append_drop (k + 1) ps, List.flatten_append, List.length_append]
        omega
      obtain ⟨al, hal⟩ : ∃ al, al = (ps.take k).flatten := ⟨_, rfl⟩
      obtain ⟨q, hq⟩ : ∃ q, q = ps.getD k [] := ⟨_, rfl⟩
      rw [← hal] at HO hnx
      rw [← hq] at hcell hc' hbs hnx
      have hql : al.length + q.length ≤ 100000000000 := by rw [hnx, List.length_append] at hfl1; omega
      have HNX := Aside0.mk hnx
      have HB := Aside0.mk hbs
      have hE0 : (0 : Int) ≤ k ∧ (k : Int) < ps.length ∧ (k : Int) < 100000000000 := by omega
      clear hE hO hnx hbs hal hq hfl1
      go_wp2_with (with_reducible refine gate_dst (N := 16) rfl ?_; refine Aside0.out ?_)
      refine Aside0.mk ?_
      refine ob_row (w := w) rfl _ _ _ al q A' c' rfl rfl rfl HO.out HB.out HE.out (by omega) ?_
      intro v3 w3 hO3 hE3
      rw [← HNX.out] at hO3
      have HO3 := Aside0.mk hO3
      have HE3 := Aside0.mk hE3
      clear hO3 hE3 hcell
      go_wp2
      go_roundw
      case rel => exact ⟨k + 1, by omega, by simp, HE3.out, HO3.out⟩
      case measure => simp [intOf]; omega
    · obtain rfl : k = ps.length := by omega
      clear hE hO
      rw [List.take_length] at HO
      go_wp2_with fail
      go_ret
      exact ⟨_, rfl, HO.out, HE.out⟩
set_option maxHeartbeats 2000000 in
set_option maxRecDepth 100000 in
theorem copied_calls (w : World) (A : Option Addr) (c : Nat) (bs : List UInt8) (hx : Bs w A bs.length bs) (hc : bs.length ≤ c) (hl : bs.length ≤ 100000000000000) :
    Calls Tryd.prog 13 #[.slice A bs.length c] w (fun e w' => ∃ g c', e = .returned (.tuple #[.slice (some ⟨g, 0, none⟩) bs.length c', .slice (some ⟨g, 0, none⟩) (bs.length + 2) c']) ∧ w.heap.size ≤ g ∧ bs.length + 2 ≤ c' ∧ Bs w' (some ⟨g, 0, none⟩) (bs.length + 2) (bs ++ [90, 165]) ∧ Ext w w') := by
  have HX := Aside0.mk hx
  clear hx
  go_enter Tryd.func13, Tryd.ntmps13
  go_wp2_with (with_reducible refine gate_dst (N := 7) rfl ?_; refine Aside0.out ?_)
  refine Aside0.mk ?_
  refine ob_row (w := w) rfl _ _ (.slice (some ⟨w.heap.size, 0, none⟩) 0 0) [] bs A c rfl rfl rfl (Ob.made w) (HX.out.ext ((Ext.refl w).alloc _)) ((Ext.refl w).alloc _) (by simp; omega) ?_
  intro v1 w1 hO1 hE1
  have HO1 := Aside0.mk (show Ob w.heap.size w1 v1 bs from hO1)
  have HE1 := Aside0.mk hE1
  clear hO1 hE1
  go_wp2_with (with_reducible refine gate_dst (N := 10) rfl ?_; refine Aside0.out ?_)
  refine Aside0.mk ?_
  have hEm : Ext w1 (w1.alloc (.cells #[.int .u8 90, .int .u8 165] 5)) := (Ext.refl _).alloc _
  refine ob_row (w := w) rfl _ _ v1 bs [90, 165] (some ⟨w1.heap.size, 0, none⟩) 2 rfl rfl rfl (HO1.out.ext hEm) (Bs.row (Row.alloc w1 ([90, 165].map cell) 5) rfl (by simp)) (HE1.out.trans hEm) (by simp; omega) ?_
  intro v2 w2 hO2 hE2
  obtain ⟨A2, c2, rfl, hc2, hb2⟩ := hO2.open
  have hA : ∃ g, A2 = some ⟨g, 0, none⟩ ∧ w.heap.size ≤ g := by
    rcases hO2.2 with ⟨he, h0⟩ | ⟨g, cap, cur, he, hg, _⟩
    · rw [ints_length] at h0; simp at h0
    · injection he with ha _ _
      exact ⟨g, ha, hg⟩
  obtain ⟨g, rfl, hg⟩ := hA
  have hl2 : (bs ++ [90, 165]).length = bs.length + 2 := by simp
  rw [hl2] at hc2 hb2 ⊢
  have HB2 := Aside0.mk hb2
  have HE2 := Aside0.mk hE2
  obtain ⟨i5, hi5, _, hsz, _⟩ := i5
  have hcut := cut_to (P := Tryd.prog) 24 5 .i64 Tryd.underlying24 hi5 (some ⟨g, 0, none⟩) (bs.length + 2) c2 (bs.length : Int) (by omega) (by omega) hc2
  rw [Int.toNat_natCast] at hcut
  clear hO2 hE2 hb2 hEm hl2
  go_wp2_with fail
  go_ret2
  exact ⟨g, c2, rfl, hg, hc2, HB2.out, HE2.out⟩
set_option maxHeartbeats 2000000 in
set_option maxRecDepth 100000 in
theorem same_calls (w : World) (A A' : Option Addr) (c c' : Nat) (bs : List UInt8) (hx : Bs w A bs.length bs) (hy : Bs w A' bs.length bs) :
    Calls Tryd.prog 17 #[.slice A bs.length c, .slice A' bs.length c'] w (fun e w' => e = .returned (.bool true) ∧ Ext w w') := by
  have hmx := hx.max
  have HX := Aside0.mk hx
  have HY := Aside0.mk hy
  clear hx hy
  go_enter Tryd.func17, Tryd.ntmps17
  go_wp2_with fail
  go_loopw [5] (fun i wr => ∃ k : Nat, k ≤ bs.length ∧ i = .int .i64 k ∧ Ext w wr) (fun i _ => bs.length - (intOf i).toNat)
  case atStart => exact ⟨0, by omega, rfl, Ext.refl _⟩
  case round =>
    obtain ⟨k, hk, rfl, hE⟩ := hrel
    have HE := Aside0.mk hE
    by_cases hlt : k < bs.length
    · obtain ⟨ad, rfl, hcx⟩ := (HX.out.ext hE).cell k hlt
      obtain ⟨ad', rfl, hcy⟩ := (HY.out.ext hE).cell k hlt
      have hE0 : (0 : Int) ≤ k ∧ (k : Int) < bs.length ∧ (k : Int) < 9223372036854775807 := by omega
      obtain ⟨x, hx⟩ : ∃ x, x = bs.getD k 0 := ⟨_, rfl⟩
      rw [← hx] at hcx hcy
      clear hE hx
      go_wp2
      go_quiet (fail)
      go_wp2
      go_roundw
      case rel => exact ⟨k + 1, by omega, by simp, Ext.drewN HE.out nq⟩
      case measure => simp [intOf]; omega
    · obtain rfl : k = bs.length := by omega
      clear hE
      go_wp2_with fail
      go_ret
      exact ⟨rfl, HE.out⟩
end Go.Proofs.YtnkhhnfmijljbaaDoor
