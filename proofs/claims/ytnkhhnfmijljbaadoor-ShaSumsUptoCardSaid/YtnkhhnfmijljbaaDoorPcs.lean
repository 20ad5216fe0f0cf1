/- cairnlaw02.ShaPieces: true. -/
import Derived.Test.YtnkhhnfmijljbaaDoorOwn
set_option linter.unusedVariables false
set_option linter.unusedSimpArgs false
namespace Go.Proofs.YtnkhhnfmijljbaaDoor
open Go.RowKit Go.Proofs.YtnkhhnfmijljbaaDoorW.PrintWords Go.Proofs.YtnkhhnfmijljbaaDoorW.PrintLast Go.Proofs.YtnkhhnfmijljbaaDoorW.PrintMore
open Extern.Stop (cell)

set_option maxHeartbeats 1000000 in
set_option maxRecDepth 100000 in
theorem pieces_calls (w : World) (A : Option Addr) (c : Nat) (bs : List UInt8) (A2 : Option Addr) (c2 : Nat) (cuts : List Int) (hK : KTab w) (hF : FTab w) (hL : LTab w)
    (hb : Bs w A bs.length bs) (hc : bs.length ≤ c) (hcuts : ReadsInt w .i64 A2 cuts.length cuts) (hrange : ∀ x ∈ cuts, -9223372036854775808 ≤ x ∧ x ≤ 9223372036854775807) (hbl : bs.length ≤ 1048576) (hcl : cuts.length ≤ 1048576) :
    Calls Tryd.prog 4 #[.slice A bs.length c, .slice A2 cuts.length c2] w (fun e w' => e = .returned (.bool true) ∧ Below w.heap.size w w') := by
  have HK := Aside0.mk hK
  have HF := Aside0.mk hF
  have HL := Aside0.mk hL
  have HFB := Aside0.mk (Fr.of_bs hb hc)
  have HC := Aside0.mk hcuts
  have HRG := Aside0.mk hrange
  clear hK hF hL hb hcuts hrange
  go_enter Tryd.func4, Tryd.ntmps4
  go_wp2_with fail
  refine (awake_calls w HK.out HF.out HL.out).mono ?_
  rintro e w1 ⟨rfl, hB1⟩
  go_wp2_with fail
  refine (new_calls w1 (HF.out.below hB1 HF.out.1)).mono ?_
  rintro e w2 ⟨rfl, hB2, hS2, hSt2⟩
  obtain ⟨G, hG⟩ : ∃ G, G = w1.heap.size := ⟨_, rfl⟩
  have hwG : w.heap.size ≤ G := by rw [hG]; exact hB1.size
  rw [← hG] at hSt2 ⊢
  have HB2 := Aside0.mk (below_ext hB1 hB2)
  have HST2 := Aside0.mk hSt2
  clear hB1 hB2 hS2 hSt2 hG
  go_wp2_with fail
  go_loopw [6, 7, 8] (fun pv lv i wr => ∃ (k m : Nat) (ls : List Pt), k ≤ cuts.length ∧ m ≤ bs.length ∧ i = .int .i64 k ∧ Fr 0 w lv (bs.drop m) ∧ Pl (G + 1) (G + 1) wr pv ls ∧ (ls.map (·.2.2)).flatten = bs.take m ∧ ls.length = k ∧ Below w.heap.size w wr ∧ St wr G (bs.take m) (bs.take m).length)
    (fun _ _ i _ => cuts.length - (intOf i).toNat)
  case atStart => exact ⟨0, 0, [], by omega, by omega, rfl, by simpa using HFB.out, Pl.nil, rfl, rfl, HB2.out, by simpa using HST2.out⟩
  case round =>
    obtain ⟨k, m, ls, hk, hm, rfl, hFl, hPl, hfl, hll, hB, hS⟩ := hrel
    obtain ⟨A', c', rfl, hc', hb', hf'⟩ := hFl
    obtain ⟨L, hL⟩ : ∃ L, L = (bs.drop m).length := ⟨_, rfl⟩
    have hLm : L = bs.length - m := by rw [hL, List.length_drop]
    rw [← hL]
    have HL0 := Aside0.mk hL
    have HLM := Aside0.mk hLm
    have HFL := Aside0.mk (show Fr 0 w (.slice A' L c') (bs.drop m) from ⟨A', c', by rw [hL], hc', hb', hf'⟩)
    have HPL := Aside0.mk hPl
    have HFT := Aside0.mk hfl
    have HLL := Aside0.mk hll
    have HB := Aside0.mk hB
    have HS := Aside0.mk hS
    have hL1 : L ≤ 1048576 := by omega
    clear hfl hPl hll hc' hb' hf' hS hL hLm
    by_cases hlt : k < cuts.length
    · obtain ⟨ad2, rfl, hcell⟩ := HC.out.2.2 (by omega)
      obtain ⟨x, hx⟩ : ∃ x, x = cuts.getD k 0 := ⟨_, rfl⟩
      have c0 := hcell k hlt
      rw [← hx] at c0
      have c1 : wr.cell? (ad2.add k) = some (.int .i64 x) := by rw [hB.cell (p := ad2.add k) (Go.World.block_lt_of_cell? _ _ c0)]; exact c0
      have hxr := HRG.out x (by rw [hx, List.getD, List.getElem?_eq_getElem hlt]; exact List.getElem_mem _)
      obtain ⟨n, hn⟩ := Int.eq_ofNat_of_zero_le (Int.emod_nonneg x (by omega : ((L : Int) + 1) ≠ 0))
      have hnL : n ≤ L := by have := Int.emod_lt_of_pos x (by omega : (0 : Int) < (L : Int) + 1); omega
      have HN := Aside0.mk hn
      have hx1 := hxr.1
      have hx2 := hxr.2
      clear hB hcell hx c0 hxr hn
      go_wp2_with fail
      refine (rest_calls x ((L : Int) + 1) wr ⟨hx1, hx2⟩ (by omega) (by omega)).mono ?_
      rintro e w3 ⟨rfl, rfl⟩
      rw [HN.out]
      clear c1
      have hw3 : Ext w3 (w3.alloc (.cells #[] 5)) := (Ext.refl _).alloc _
      go_wp2_with (with_reducible refine gate_dst (N := 39) rfl ?_; refine Aside0.out ?_)
      refine Aside0.mk ?_
      obtain ⟨s1, hs1, hF1⟩ := fr_to HFL.out (n : Int) (by omega) (by rw [← HL0.out]; omega)
      refine wpL_slice s1 rfl (hs1 _) ?_
      have hPn : ((bs.drop m).take n).length = n := by rw [List.length_take, ← HL0.out]; omega
      have hcat : bs.take m ++ (bs.drop m).take n = bs.take (m + n) := by rw [List.take_add]
      rw [Int.toNat_natCast] at hF1
      obtain ⟨ps, hps⟩ : ∃ ps, ps = (bs.drop m).take n := ⟨_, rfl⟩
      rw [← hps] at hF1 hPn hcat
      have HCAT := Aside0.mk hcat
      obtain ⟨A1, c1, rfl, hc1, hb1, _⟩ := hF1
      have HPN := Aside0.mk hPn
      have hb2 := hb1.below (below_ext HB.out hw3)
      clear hs1 hb1 hPn hcat hps
      go_wp2_with (with_reducible refine gate_dst (N := 40) rfl ?_; refine Aside0.out ?_)
      refine Aside0.mk ?_
      refine wpL_append (F := fun v1 w4 => Ext (w3.alloc (.cells #[] 5)) w4 ∧ Fr (w3.alloc (.cells #[] 5)).heap.size w4 v1 ps) rfl ?_ ?_
      · obtain ⟨v1, w4, hr, hE, hF⟩ := run_copyB (w3.alloc (.cells #[] 5)) 24 ⟨w3.heap.size, 0, none⟩ A1 c1 ps hb2 (by rw [HPN.out]; omega)
        exact ⟨v1, w4, hr, hE, hF⟩
      rintro v1 w4 ⟨hE4, hF4⟩
      have HE4 := Aside0.mk (hw3.trans hE4)
      have hGw3 : G < w3.heap.size := HS.out.choose_spec.2.lt
      have HF4 := Aside0.mk (hF4.mono (show w3.heap.size + 1 ≤ (w3.alloc (.cells #[] 5)).heap.size by simp))
      obtain ⟨A4, c4, rfl, hc4, hb4, hf4⟩ := hF4
      have HB4 := Aside0.mk hb4
      have HF5 := Aside0.mk hf4
      clear hw3 hb2 hE4 hb4 hf4
      go_wp2_with (with_reducible refine gate_dst (N := 43) rfl ?_; refine Aside0.out ?_)
      refine Aside0.mk ?_
      obtain ⟨s2, hs2, hF2⟩ := fr_from HFL.out (n : Int) (by omega) (by rw [← HL0.out]; omega)
      refine wpL_slice s2 rfl (hs2 _) ?_
      rw [Int.toNat_natCast, List.drop_drop] at hF2
      obtain ⟨A5, c5, rfl, hc5, hb5, hf5⟩ := hF2
      obtain ⟨L', hL'⟩ : ∃ L' : Nat, L' = (bs.drop (m + n)).length := ⟨_, rfl⟩
      rw [← hL']
      have hLl : L' + (m + n) = bs.length := by rw [hL', List.length_drop]; have := HLM.out; omega
      have HLL' := Aside0.mk hLl
      have hLle : (L' : Int) ≤ bs.length := by omega
      have HFL2 := Aside0.mk (show Fr 0 w (.slice A5 L' c5) (bs.drop (m + n)) from ⟨A5, c5, by rw [hL'], hc5, hb5, hf5⟩)
      clear hs2 hb5 hf5 hc5 hL' hLl
      go_wp2_with fail
      have hm' : m + n ≤ bs.length := by have := HLM.out; omega
      have hmt : (bs.take m).length = m := by rw [List.length_take]; omega
      have HK4 := Aside0.mk (HK.out.below (below_ext HB.out HE4.out) HK.out.1)
      with_reducible refine (write_calls w4 G (bs.take m) A4 c4 ps HK4.out (HS.out.ext HE4.out) HB4.out hc4 (fun ad ha hp => by have := HF5.out ad ha hp; simp at this; omega) (by rw [hmt, HPN.out]; omega)).mono ?_
      rintro e w5 ⟨rfl, hO5, hS5⟩
      rw [HCAT.out] at hS5
      have HB5 := Aside0.mk (below_only (below_ext HB.out HE4.out) hO5 hwG (by have := HB.out.size; have := HE4.out.size; omega))
      have HS5 := Aside0.mk hS5
      have HPL5 := Aside0.mk ((HPL.out.ext HE4.out).only hO5 (by omega) (by omega))
      have HF6 := Aside0.mk (HF4.out.only hO5 (by omega))
      have hsz5 : w4.heap.size ≤ w5.heap.size := hO5.size
      have hsz4 : w3.heap.size ≤ w4.heap.size := HE4.out.size
      have HOB := Aside0.mk (show ∀ ad, A4 = some ad → 0 < ps.length → u6.ownBlock ≠ some ad.block by
        intro ad ha hp he
        have h1 := HF5.out ad ha hp
        have h2 := own_lt HPL.out.1 _ he
        simp at h1
        omega)
      clear hmt hO5 hS5
      go_wp2_with (with_reducible refine gate_dst (N := 50) rfl ?_; refine Aside0.out ?_)
      refine Aside0.mk ?_
      refine wpL_pl (W := w5) (v := u6) (A4, c4, ps) rfl _ _ rfl rfl rfl (HPL5.out) (HF6.out.mono (by omega)) HOB.out (by omega) (by rw [HLL.out]; omega) ?_
      intro pv6 w6 hPl6 hB6 hg6
      have HPL6 := Aside0.mk hPl6
      have HS6 := Aside0.mk (HS5.out.under hB6 (by omega))
      have hGB : w.heap.size ≤ G + 1 := by omega
      have HB6 := Aside0.mk (HB5.out.trans (hB6.mono hGB))
      clear hB6 hg6 hPl6
      go_wp2_with (with_reducible refine gate_dst (N := 57) rfl ?_; refine Aside0.out ?_)
      refine Aside0.mk ?_
      have hLl := HLL'.out
      obtain ⟨s3, hs3, hF3⟩ := fr_to HFB.out ((bs.length : Int) - L') (by omega) (by omega)
      refine wpL_slice s3 rfl (hs3 _) ?_
      rw [show ((bs.length : Int) - L').toNat = m + n by omega] at hF3
      obtain ⟨hs, hhs⟩ : ∃ hs, hs = bs.take (m + n) := ⟨_, rfl⟩
      rw [← hhs] at hF3
      have HHS := Aside0.mk hhs
      have HS6h := Aside0.mk (show St w6 G hs hs.length by rw [hhs]; exact HS6.out)
      have hhl : hs.length ≤ 1048576 := by rw [hhs, List.length_take]; omega
      obtain ⟨A7, c7, rfl, hc7, hb7, _⟩ := hF3
      have HB7 := Aside0.mk hb7
      clear hs3 hb7 hhs hLl
      go_wp2_with fail
      refine (sum_calls w6 G hs (HK.out.below HB6.out HK.out.1) HS6h.out (by omega)).mono ?_
      rintro e w7 ⟨rfl, hE7⟩
      have HB8 := Aside0.mk (below_ext HB6.out hE7)
      have HPL7 := Aside0.mk (HPL6.out.ext hE7)
      have HS7 := Aside0.mk (HS6h.out.ext hE7)
      clear hE7
      go_wp2_with (with_reducible change wpList _ _ _ (Oper.mk _ (Op.store 28 _ _) _ _ _ _ :: _) _ _; refine Aside0.out ?_)
      refine Aside0.mk ?_
      refine wpList_store_row rfl 28 _ _ rfl w7.heap.size ((Spec.digest hs).map cell).toArray rfl (by simp only [go_sem, hashV, Act.eval, Act.put]; rfl) 28 _ (heap_alloc_new _ _) (by kernel_rfl) rfl (oneCells _) ?_
      go_wp2_with fail
      obtain ⟨S, hS⟩ : ∃ S, S = w7.heap.size := ⟨_, rfl⟩
      have hEs : Ext w7 ((w7.alloc (.cells (z8 32).toArray 28)).setRow w7.heap.size ((Spec.digest hs).map cell).toArray) := below_alloc_setRow _ _ _
      refine wp_world (fun w8 => Below w.heap.size w w8 ∧ Row w8 S ((Spec.digest hs).map cell) 28 ∧ Pl (G + 1) (G + 1) w8 pv6 (ls ++ [(A4, c4, ps)]) ∧ St w8 G hs hs.length) ⟨below_ext HB8.out hEs, by rw [hS]; exact alloc_setRow _ _ _ _, HPL7.out.ext hEs, HS7.out.ext hEs⟩ ?_
      rintro w8 ⟨hB8, hR8, hPL8, hST8⟩
      rw [← hS]
      have HBw := Aside0.mk hB8
      have HR8 := Aside0.mk hR8
      have HPLw := Aside0.mk hPL8
      have HSTw := Aside0.mk hST8
      have HKw := Aside0.mk (HK.out.below hB8 HK.out.1)
      have HFw := Aside0.mk (HF.out.below hB8 HF.out.1)
      have HBS := Aside0.mk (HB7.out.below hB8)
      clear hB8 hR8 hPL8 hST8 hEs hS HPL7 HS7 HB8
      refine ext_region 7 [(0, 60), (1, 61), (2, 62), (3, 63), (4, 64), (5, 65), (6, 66)] [0, 1, 2, 3, 4, 5, 6] (fun i w v => match i with | 0 => v = (hashV (Spec.digest hs)) | 1 => ∃ b, v = .slice (some ⟨b, 0, none⟩) 0 0 | 2 => v = .slice A7 hs.length c7 | 3 => Fr 0 w v hs | 4 => ∃ b, v = .slice (some ⟨b, 0, none⟩) 1 1 ∧ Bss w (some ⟨b, 0, none⟩) 1 [hs] | 5 => v = (hashV (Spec.digest hs)) | 6 => v = .bool false | _ => True) (by kernel_rfl) (by kernel_rfl) (by rfl) rfl ?mono18 ?steps18 ?fin18
      case mono18 =>
        intro i w w' v h hE
        match i with
        | 0 => exact h
        | 1 => exact h
        | 2 => exact h
        | 3 => exact h.ext hE
        | 4 => exact (by obtain ⟨b, h1, h2⟩ := h; exact ⟨b, h1, h2.below hE⟩)
        | 5 => exact h
        | 6 => exact h
        | _ + 7 => trivial
      case steps18 =>
        refine stepE_cons ⟨_, rfl, fun a w hE hH => ?_⟩ ?_
        ·
          have e12 : a.tmps[12]? = some (.pointer (some ⟨S, 0, none⟩)) := hH.old 12 rfl
          exact Or.inl ⟨(rfl), goodE_row S 0 ((Spec.digest hs).map cell) _ rfl (eval_of e12) (rangeOfRow ((HR8.out.drew).ext hE)) Tryd.underlying28 rfl (by kernel_rfl) rfl⟩
        refine stepE_cons ⟨_, rfl, fun a w hE hH => ?_⟩ ?_
        ·
          exact Or.inl ⟨(rfl), goodE_new (.slice (some ⟨w.heap.size, 0, none⟩) 0 0) (w.alloc (.cells #[] 5)) (by simp [execOp, go_sem]) ((Ext.refl w).alloc _) ⟨_, rfl⟩⟩
        refine stepE_cons ⟨_, rfl, fun a w hE hH => ?_⟩ ?_
        ·
          have e11 : a.tmps[11]? = some (.slice A7 hs.length c7) := hH.old 11 rfl
          exact Or.inl ⟨rfl, goodE_move _ rfl (eval_of e11) rfl⟩
        refine stepE_cons ⟨_, rfl, fun a w hE hH => ?_⟩ ?_
        ·
          obtain ⟨v61, e61, g61⟩ := hH.dep 1 61 rfl (by kernel_rfl)
          obtain ⟨v62, e62, g62⟩ := hH.dep 2 62 rfl (by kernel_rfl)
          have q62 : v62 = .slice A7 hs.length c7 := g62
          subst q62
          obtain ⟨b, rfl⟩ := g61
          obtain ⟨v1, w1, hr, h1, h2⟩ := run_copyB w 24 ⟨b, 0, none⟩ A7 c7 hs (HBS.out.ext ((Ext.to_drew _).trans hE)) (by omega)
          exact Or.inl ⟨(rfl), goodE_new v1 w1 (exec_append (s := .tmp 61) (x := .tmp 62) (t := 24) (u := 24) rfl (by rw [eval_of e61, eval_of e62]; exact hr)) h1 (h2.mono (Nat.zero_le _))⟩
        refine stepE_cons ⟨_, rfl, fun a w hE hH => ?_⟩ ?_
        ·
          obtain ⟨v63, e63, g63⟩ := hH.dep 3 63 rfl (by kernel_rfl)
          obtain ⟨A9, c9, rfl, hc9, hb9, _⟩ := g63
          refine Or.inl ⟨(rfl), goodE_new (.slice (some ⟨w.heap.size, 0, none⟩) 1 1) (w.alloc (.cells #[.slice A9 hs.length c9] 24)) (by simp [execOp, Act.eval, e63, go_sem]) ((Ext.refl w).alloc _) ⟨_, rfl, bss_one hb9 hc9⟩⟩
        refine stepE_cons ⟨_, rfl, fun a w hE hH => ?_⟩ ?_
        ·
          obtain ⟨v64, e64, g64⟩ := hH.dep 4 64 rfl (by kernel_rfl)
          obtain ⟨b, rfl, hb⟩ := g64
          refine Or.inl ⟨(rfl), goodE_call rfl #[.slice (some ⟨b, 0, none⟩) 1 1] (by simp [Act.eval, e64]) _ Tryd.func16 (by kernel_rfl) (by kernel_rfl) ?_⟩
          refine (shaSum_calls w (some ⟨b, 0, none⟩) 1 [hs] (HKw.out.ext ((Ext.to_drew _).trans hE)) (HFw.out.ext ((Ext.to_drew _).trans hE)) hb (by simp; omega)).mono ?_
          rintro e w' ⟨rfl, h⟩
          exact ⟨_, rfl, h, by simp⟩
        refine stepE_cons ⟨_, rfl, fun a w hE hH => ?_⟩ ?_
        ·
          obtain ⟨v60, e60, g60⟩ := hH.dep 0 60 rfl (by kernel_rfl)
          have q60 : v60 = (hashV (Spec.digest hs)) := g60
          subst q60
          obtain ⟨v65, e65, g65⟩ := hH.dep 5 65 rfl (by kernel_rfl)
          have q65 : v65 = (hashV (Spec.digest hs)) := g65
          subst q65
          exact Or.inl ⟨(rfl), goodE_val (.bool false) (by simp [execOp, Act.eval, e60, e65, eq28 w _ _ (Spec.digest_length hs) (Spec.digest_length hs), hashV, go_sem]) rfl⟩
        exact stepE_nil
      rintro vals wz hE hV
      have k66 : vals 6 = .bool false := hV 6 (by simp) rfl
      simp only [List.map_cons, List.map_nil, putAll, Act.put, List.setIfInBounds_toArray, List.set_cons_zero, List.set_cons_succ, k66]
      have HBz := Aside0.mk (below_ext HBw.out ((Ext.to_drew _).trans hE))
      have HPLz := Aside0.mk (HPLw.out.ext ((Ext.to_drew _).trans hE))
      have HSTz := Aside0.mk (HSTw.out.ext ((Ext.to_drew _).trans hE))
      clear hE hV k66
      go_wp2
      go_roundw
      case rel =>
        refine ⟨k + 1, m + n, ls ++ [(A4, c4, ps)], by omega, hm', by simp, HFL2.out, HPLz.out, ?_, by simp [HLL.out], HBz.out, by have h := HSTz.out; rw [HHS.out] at h; exact h⟩
        rw [List.map_append, List.flatten_append, HFT.out]
        simpa using HCAT.out
      case measure => simp [intOf]; omega
    · have hw3 : Ext wr (wr.alloc (.cells #[] 5)) := (Ext.refl _).alloc _
      obtain ⟨ps, hps⟩ : ∃ ps, ps = bs.drop m := ⟨_, rfl⟩
      have hcat : bs.take m ++ ps = bs := by rw [hps, List.take_append_drop]
      have HCAT := Aside0.mk hcat
      have hpl : L = ps.length := by rw [hps]; exact HL0.out
      have HPL' := Aside0.mk hpl
      have hFl := HFL.out
      rw [← hps] at hFl
      obtain ⟨A1, c1, e1, hc1, hb1, _⟩ := hFl
      injection e1 with e1 e2 e3
      subst e1
      subst e3
      have HB1 := Aside0.mk (hb1.below (below_ext HB.out hw3))
      have HW3 := Aside0.mk hw3
      clear hcat hpl hps e2 hb1 hw3 hB
      go_wp2_with (with_reducible refine gate_dst (N := 69) rfl ?_; refine Aside0.out ?_)
      refine Aside0.mk ?_
      have hLp := HPL'.out
      refine wpL_append (F := fun v1 w4 => Ext (wr.alloc (.cells #[] 5)) w4 ∧ Fr (wr.alloc (.cells #[] 5)).heap.size w4 v1 ps) rfl ?_ ?_
      · obtain ⟨v1, w4, hr, hE, hF⟩ := run_copyB (wr.alloc (.cells #[] 5)) 24 ⟨wr.heap.size, 0, none⟩ A' c' ps HB1.out (by omega)
        rw [← HPL'.out] at hr
        exact ⟨v1, w4, hr, hE, hF⟩
      rintro v1 w4 ⟨hE4, hF4⟩
      have HE4 := Aside0.mk (HW3.out.trans hE4)
      have hGw3 : G < wr.heap.size := HS.out.choose_spec.2.lt
      have HF4 := Aside0.mk (hF4.mono (show wr.heap.size + 1 ≤ (wr.alloc (.cells #[] 5)).heap.size by simp))
      obtain ⟨A4, c4, rfl, hc4, hb4, hf4⟩ := hF4
      have HB4 := Aside0.mk hb4
      have HF5 := Aside0.mk hf4
      have HK4 := Aside0.mk (HK.out.below (below_ext HB.out HE4.out) HK.out.1)
      clear hE4 hb4 hf4 hLp
      go_wp2_with fail
      have hLp := HPL'.out
      have hmt : (bs.take m).length = m := by rw [List.length_take]; omega
      with_reducible refine (write_calls w4 G (bs.take m) A4 c4 ps HK4.out (HS.out.ext HE4.out) HB4.out hc4 (fun ad ha hp => by have := HF5.out ad ha hp; simp at this; omega) (by rw [hmt]; omega)).mono ?_
      rintro e w5 ⟨rfl, hO5, hS5⟩
      rw [HCAT.out] at hS5
      have HB5 := Aside0.mk (below_only (below_ext HB.out HE4.out) hO5 hwG (by have := HB.out.size; have := HE4.out.size; omega))
      have HS5 := Aside0.mk hS5
      have HPL5 := Aside0.mk ((HPL.out.ext HE4.out).only hO5 (by omega) (by omega))
      have HF6 := Aside0.mk (HF4.out.only hO5 (by omega))
      have hsz5 : w4.heap.size ≤ w5.heap.size := hO5.size
      have hsz4 : wr.heap.size ≤ w4.heap.size := HE4.out.size
      have HOB := Aside0.mk (show ∀ ad, A4 = some ad → 0 < ps.length → u6.ownBlock ≠ some ad.block by
        intro ad ha hp he
        have h1 := HF5.out ad ha hp
        have h2 := own_lt HPL.out.1 _ he
        simp at h1
        omega)
      clear hmt hO5 hS5 hLp
      go_wp2_with (with_reducible refine gate_dst (N := 76) rfl ?_; refine Aside0.out ?_)
      refine Aside0.mk ?_
      refine wpL_pl (W := w5) (v := u6) (A4, c4, ps) rfl _ _ rfl rfl rfl (HPL5.out) (HF6.out.mono (by omega)) HOB.out (by omega) (by rw [HLL.out]; omega) ?_
      intro pv6 w6 hPl6 hB6 hg6
      have HPL6 := Aside0.mk hPl6
      have HS6 := Aside0.mk (HS5.out.under hB6 (by omega))
      have hGB : w.heap.size ≤ G + 1 := by omega
      have HB6 := Aside0.mk (HB5.out.trans (hB6.mono hGB))
      have HFT2 := Aside0.mk (show ((ls ++ [(A4, c4, ps)]).map (·.2.2)).flatten = bs by rw [List.map_append, List.flatten_append, HFT.out]; simpa using HCAT.out)
      obtain ⟨qs, hqs⟩ : ∃ qs, qs = ls ++ [(A4, c4, ps)] := ⟨_, rfl⟩
      rw [← hqs] at HPL6 HFT2
      have hw6 : Ext w6 (w6.alloc (.cells #[] 5)) := (Ext.refl _).alloc _
      have HW6 := Aside0.mk hw6
      obtain ⟨Ab, cb, eb, hcb, hbb, _⟩ := HFB.out
      injection eb with e1 e2 e3
      subst e1
      subst e3
      have HBB := Aside0.mk (hbb.below (below_ext HB6.out hw6))
      clear hB6 hg6 hPl6 hqs hw6 e2 hbb
      go_wp2_with (with_reducible refine gate_dst (N := 79) rfl ?_; refine Aside0.out ?_)
      refine Aside0.mk ?_
      refine wpL_append (F := fun v1 w7 => Ext (w6.alloc (.cells #[] 5)) w7 ∧ Fr (w6.alloc (.cells #[] 5)).heap.size w7 v1 bs) rfl ?_ ?_
      · obtain ⟨v1, w4, hr, hE, hF⟩ := run_copyB (w6.alloc (.cells #[] 5)) 24 ⟨w6.heap.size, 0, none⟩ A c bs HBB.out (by omega)
        exact ⟨v1, w4, hr, hE, hF⟩
      rintro v1 w7 ⟨hE7, hF7⟩
      have HE7 := Aside0.mk (HW6.out.trans hE7)
      obtain ⟨A7, c7, rfl, hc7, hb7, hf7⟩ := hF7
      have HB7 := Aside0.mk hb7
      have HBw7 := Aside0.mk (below_ext HB6.out HE7.out)
      have HK7 := Aside0.mk (HK.out.below HBw7.out HK.out.1)
      have HF7 := Aside0.mk (HF.out.below HBw7.out HF.out.1)
      clear hE7 hb7 hf7
      go_wp2_with fail
      refine (sumOne_calls w7 A7 bs.length c7 bs HK7.out HF7.out HB7.out hc7 (by omega)).mono ?_
      rintro e w8 ⟨rfl, hE8⟩
      have HE8 := Aside0.mk (HE7.out.trans hE8)
      clear hE8
      go_wp2_with (with_reducible change wpList _ _ _ (Oper.mk _ (Op.store 28 _ _) _ _ _ _ :: _) _ _; refine Aside0.out ?_)
      refine Aside0.mk ?_
      refine wpList_store_row rfl 28 _ _ rfl w8.heap.size ((Spec.digest bs).map cell).toArray rfl (by simp only [go_sem, hashV, Act.eval, Act.put]; rfl) 28 _ (heap_alloc_new _ _) (by kernel_rfl) rfl (oneCells _) ?_
      obtain ⟨R, hR⟩ : ∃ R, R = w8.heap.size := ⟨_, rfl⟩
      have hEr : Ext w8 ((w8.alloc (.cells (z8 32).toArray 28)).setRow w8.heap.size ((Spec.digest bs).map cell).toArray) := below_alloc_setRow _ _ _
      refine wpList_world (fun w9 => Ext w6 w9 ∧ Row w9 R ((Spec.digest bs).map cell) 28) ⟨HE8.out.trans hEr, by rw [hR]; exact alloc_setRow _ _ _ _⟩ ?_
      rintro w9 ⟨hE9, hR9⟩
      rw [← hR]
      have HE9 := Aside0.mk hE9
      have HR9 := Aside0.mk hR9
      have HB9 := Aside0.mk (below_ext HB6.out hE9)
      have HS9 := Aside0.mk (HS6.out.ext hE9)
      clear hE9 hR9 hR hEr
      go_wp2_with fail
      refine (sum_calls w9 G bs (HK.out.below HB9.out HK.out.1) HS9.out (by omega)).mono ?_
      rintro e w10 ⟨rfl, hE10⟩
      have HEa := Aside0.mk (HE9.out.trans hE10)
      have HRa := Aside0.mk (HR9.out.ext hE10)
      clear hE10
      go_wp2_with (with_reducible change wpList _ _ _ (Oper.mk _ (Op.store 28 _ _) _ _ _ _ :: _) _ _; refine Aside0.out ?_)
      refine Aside0.mk ?_
      refine wpList_store_row rfl 28 _ _ rfl w10.heap.size ((Spec.digest bs).map cell).toArray rfl (by simp only [go_sem, hashV, Act.eval, Act.put]; rfl) 28 _ (heap_alloc_new _ _) (by kernel_rfl) rfl (oneCells _) ?_
      obtain ⟨S, hS⟩ : ∃ S, S = w10.heap.size := ⟨_, rfl⟩
      have hEs : Ext w10 ((w10.alloc (.cells (z8 32).toArray 28)).setRow w10.heap.size ((Spec.digest bs).map cell).toArray) := below_alloc_setRow _ _ _
      refine wpList_world (fun w11 => Ext w6 w11 ∧ Row w11 R ((Spec.digest bs).map cell) 28 ∧ Row w11 S ((Spec.digest bs).map cell) 28) ⟨HEa.out.trans hEs, HRa.out.ext hEs, by rw [hS]; exact alloc_setRow _ _ _ _⟩ ?_
      rintro w11 ⟨hE11, hR11, hS11⟩
      rw [← hS]
      have HB11 := Aside0.mk (below_ext HB6.out hE11)
      have HR11 := Aside0.mk hR11
      have HS11 := Aside0.mk hS11
      have HSTw := Aside0.mk (HS6.out.ext hE11)
      have HPLw := Aside0.mk (HPL6.out.ext hE11)
      have HKw := Aside0.mk (HK.out.below HB11.out HK.out.1)
      have HFw := Aside0.mk (HF.out.below HB11.out HF.out.1)
      obtain ⟨Aq, cq, hqv, hcq, hbq⟩ := HPLw.out.bss
      have HQV := Aside0.mk hqv
      have HBQ := Aside0.mk hbq
      clear hE11 hR11 hS11 hEs hS hqv hbq
      go_wp2_with fail
      refine ext_region 17 [(0, 84), (1, 85), (2, 86), (3, 87), (4, 88), (5, 89), (6, 90), (7, 91), (8, 92), (9, 93), (10, 94), (11, 95), (12, 96), (13, 97), (14, 98), (15, 99), (16, 4)] [0, 1, 2, 3, 4, 5, 6, 7, 8, 9, 10, 11, 12, 13, 14, 15, 16] (fun i w v => match i with | 0 => v = (hashV (Spec.digest bs)) | 1 => v = (hashV (Spec.digest bs)) | 2 => v = .bool true | 3 => v = .bool true | 4 => v = pv6 | 5 => v = (hashV (Spec.digest bs)) | 6 => v = (hashV (Spec.digest bs)) | 7 => v = .bool true | 8 => v = .bool true | 9 => v = .bool true | 10 => v = .pointer (some ⟨G, 0, none⟩) | 11 => v = .int .i64 bs.length | 12 => v = .slice A bs.length c | 13 => v = .int .i64 bs.length | 14 => v = .bool true | 15 => v = .bool true | 16 => v = .bool true | _ => True) (by kernel_rfl) (by kernel_rfl) (by rfl) rfl ?mono25 ?steps25 ?fin25
      case mono25 =>
        intro i w w' v h hE
        match i with
        | 0 => exact h
        | 1 => exact h
        | 2 => exact h
        | 3 => exact h
        | 4 => exact h
        | 5 => exact h
        | 6 => exact h
        | 7 => exact h
        | 8 => exact h
        | 9 => exact h
        | 10 => exact h
        | 11 => exact h
        | 12 => exact h
        | 13 => exact h
        | 14 => exact h
        | 15 => exact h
        | 16 => exact h
        | _ + 17 => trivial
      case steps25 =>
        refine stepE_cons ⟨_, rfl, fun a w hE hH => ?_⟩ ?_
        ·
          have e15 : a.tmps[15]? = some (.pointer (some ⟨S, 0, none⟩)) := hH.old 15 rfl
          exact Or.inl ⟨(rfl), goodE_row S 0 ((Spec.digest bs).map cell) _ rfl (eval_of e15) (rangeOfRow ((HS11.out.drew).ext hE)) Tryd.underlying28 rfl (by kernel_rfl) rfl⟩
        refine stepE_cons ⟨_, rfl, fun a w hE hH => ?_⟩ ?_
        ·
          have e14 : a.tmps[14]? = some (.pointer (some ⟨R, 0, none⟩)) := hH.old 14 rfl
          exact Or.inl ⟨(rfl), goodE_row R 0 ((Spec.digest bs).map cell) _ rfl (eval_of e14) (rangeOfRow ((HR11.out.drew).ext hE)) Tryd.underlying28 rfl (by kernel_rfl) rfl⟩
        refine stepE_cons ⟨_, rfl, fun a w hE hH => ?_⟩ ?_
        ·
          obtain ⟨v84, e84, g84⟩ := hH.dep 0 84 rfl (by kernel_rfl)
          have q84 : v84 = (hashV (Spec.digest bs)) := g84
          subst q84
          obtain ⟨v85, e85, g85⟩ := hH.dep 1 85 rfl (by kernel_rfl)
          have q85 : v85 = (hashV (Spec.digest bs)) := g85
          subst q85
          exact Or.inl ⟨(rfl), goodE_val (.bool true) (by simp [execOp, Act.eval, e84, e85, eq28 w _ _ (Spec.digest_length bs) (Spec.digest_length bs), hashV, go_sem]) rfl⟩
        refine stepE_cons ⟨_, rfl, fun a w hE hH => ?_⟩ ?_
        ·
          obtain ⟨v86, e86, g86⟩ := hH.dep 2 86 rfl (by kernel_rfl)
          exact Or.inl ⟨rfl, goodE_move v86 rfl (eval_of e86) g86⟩
        refine stepE_cons ⟨_, rfl, fun a w hE hH => ?_⟩ ?_
        ·
          have e6 : a.tmps[6]? = some (pv6) := hH.old 6 rfl
          obtain ⟨v87, e87, g87⟩ := hH.dep 3 87 rfl (by kernel_rfl)
          have q87 : v87 = .bool true := g87
          subst q87
          exact Or.inl ⟨wanted_on rfl rfl rfl e87, goodE_move _ rfl (eval_of e6) rfl⟩
        refine stepE_cons ⟨_, rfl, fun a w hE hH => ?_⟩ ?_
        ·
          obtain ⟨v88, e88, g88⟩ := hH.dep 4 88 rfl (by kernel_rfl)
          have q88 : v88 = pv6 := g88
          subst q88
          obtain ⟨v87, e87, g87⟩ := hH.dep 3 87 rfl (by kernel_rfl)
          have q87 : v87 = .bool true := g87
          subst q87
          refine Or.inl ⟨(wanted_on rfl rfl rfl e87), goodE_call rfl #[.slice Aq qs.length cq] (by simp [Act.eval, e88, HQV.out]) _ Tryd.func16 (by kernel_rfl) (by kernel_rfl) ?_⟩
          have hcall := shaSum_calls w Aq cq (qs.map (·.2.2)) (HKw.out.ext ((Ext.to_drew _).trans hE)) (HFw.out.ext ((Ext.to_drew _).trans hE)) (by rw [List.length_map]; exact HBQ.out.ext ((Ext.to_drew _).trans hE)) (by rw [HFT2.out]; omega)
          rw [List.length_map, HFT2.out] at hcall
          refine hcall.mono ?_
          rintro e w' ⟨rfl, h⟩
          exact ⟨_, rfl, h, rfl⟩
        refine stepE_cons ⟨_, rfl, fun a w hE hH => ?_⟩ ?_
        ·
          have e14 : a.tmps[14]? = some (.pointer (some ⟨R, 0, none⟩)) := hH.old 14 rfl
          obtain ⟨v87, e87, g87⟩ := hH.dep 3 87 rfl (by kernel_rfl)
          have q87 : v87 = .bool true := g87
          subst q87
          exact Or.inl ⟨(wanted_on rfl rfl rfl e87), goodE_row R 0 ((Spec.digest bs).map cell) _ rfl (eval_of e14) (rangeOfRow ((HR11.out.drew).ext hE)) Tryd.underlying28 rfl (by kernel_rfl) rfl⟩
        refine stepE_cons ⟨_, rfl, fun a w hE hH => ?_⟩ ?_
        ·
          obtain ⟨v89, e89, g89⟩ := hH.dep 5 89 rfl (by kernel_rfl)
          have q89 : v89 = (hashV (Spec.digest bs)) := g89
          subst q89
          obtain ⟨v90, e90, g90⟩ := hH.dep 6 90 rfl (by kernel_rfl)
          have q90 : v90 = (hashV (Spec.digest bs)) := g90
          subst q90
          obtain ⟨v87, e87, g87⟩ := hH.dep 3 87 rfl (by kernel_rfl)
          have q87 : v87 = .bool true := g87
          subst q87
          exact Or.inl ⟨(wanted_on rfl rfl rfl e87), goodE_val (.bool true) (by simp [execOp, Act.eval, e89, e90, eq28 w _ _ (Spec.digest_length bs) (Spec.digest_length bs), hashV, go_sem]) rfl⟩
        refine stepE_cons ⟨_, rfl, fun a w hE hH => ?_⟩ ?_
        ·
          obtain ⟨v87, e87, g87⟩ := hH.dep 3 87 rfl (by kernel_rfl)
          have q87 : v87 = .bool true := g87
          subst q87
          obtain ⟨v91, e91, g91⟩ := hH.dep 7 91 rfl (by kernel_rfl)
          have q91 : v91 = .bool true := g91
          subst q91
          exact Or.inl ⟨rfl, goodE_pick _ (.bool true) rfl (eval_of e87) (by simp [Act.eval, e91, e87]) rfl⟩
        refine stepE_cons ⟨_, rfl, fun a w hE hH => ?_⟩ ?_
        ·
          obtain ⟨v92, e92, g92⟩ := hH.dep 8 92 rfl (by kernel_rfl)
          exact Or.inl ⟨rfl, goodE_move v92 rfl (eval_of e92) g92⟩
        refine stepE_cons ⟨_, rfl, fun a w hE hH => ?_⟩ ?_
        ·
          have e5 : a.tmps[5]? = some (.pointer (some ⟨G, 0, none⟩)) := hH.old 5 rfl
          obtain ⟨v93, e93, g93⟩ := hH.dep 9 93 rfl (by kernel_rfl)
          have q93 : v93 = .bool true := g93
          subst q93
          exact Or.inl ⟨wanted_on rfl rfl rfl e93, goodE_move _ rfl (eval_of e5) rfl⟩
        refine stepE_cons ⟨_, rfl, fun a w hE hH => ?_⟩ ?_
        ·
          obtain ⟨v94, e94, g94⟩ := hH.dep 10 94 rfl (by kernel_rfl)
          have q94 : v94 = .pointer (some ⟨G, 0, none⟩) := g94
          subst q94
          obtain ⟨v93, e93, g93⟩ := hH.dep 9 93 rfl (by kernel_rfl)
          have q93 : v93 = .bool true := g93
          subst q93
          refine Or.inl ⟨(wanted_on rfl rfl rfl e93), goodE_call rfl #[.pointer (some ⟨G, 0, none⟩)] (by simp [Act.eval, e94]) _ Tryd.func22 (by kernel_rfl) (by kernel_rfl) ?_⟩
          refine (len_calls w G _ _ (HSTw.out.ext ((Ext.to_drew _).trans hE))).mono ?_
          rintro e w' ⟨rfl, rfl⟩
          exact ⟨_, rfl, Ext.refl _, rfl⟩
        refine stepE_cons ⟨_, rfl, fun a w hE hH => ?_⟩ ?_
        ·
          have e0 : a.tmps[0]? = some (.slice A bs.length c) := hH.old 0 rfl
          obtain ⟨v93, e93, g93⟩ := hH.dep 9 93 rfl (by kernel_rfl)
          have q93 : v93 = .bool true := g93
          subst q93
          exact Or.inl ⟨wanted_on rfl rfl rfl e93, goodE_move _ rfl (eval_of e0) rfl⟩
        refine stepE_cons ⟨_, rfl, fun a w hE hH => ?_⟩ ?_
        ·
          obtain ⟨v96, e96, g96⟩ := hH.dep 12 96 rfl (by kernel_rfl)
          have q96 : v96 = .slice A bs.length c := g96
          subst q96
          obtain ⟨v93, e93, g93⟩ := hH.dep 9 93 rfl (by kernel_rfl)
          have q93 : v93 = .bool true := g93
          subst q93
          exact Or.inl ⟨wanted_on rfl rfl rfl e93, goodE_val (.int .i64 bs.length) (by simp [execOp, Act.eval, e96, e93, go_sem]) rfl⟩
        refine stepE_cons ⟨_, rfl, fun a w hE hH => ?_⟩ ?_
        ·
          obtain ⟨v95, e95, g95⟩ := hH.dep 11 95 rfl (by kernel_rfl)
          have q95 : v95 = .int .i64 bs.length := g95
          subst q95
          obtain ⟨v97, e97, g97⟩ := hH.dep 13 97 rfl (by kernel_rfl)
          have q97 : v97 = .int .i64 bs.length := g97
          subst q97
          obtain ⟨v93, e93, g93⟩ := hH.dep 9 93 rfl (by kernel_rfl)
          have q93 : v93 = .bool true := g93
          subst q93
          exact Or.inl ⟨wanted_on rfl rfl rfl e93, goodE_val (.bool true) (by simp [execOp, Act.eval, e97, e93, e95, go_sem]) rfl⟩
        refine stepE_cons ⟨_, rfl, fun a w hE hH => ?_⟩ ?_
        ·
          obtain ⟨v93, e93, g93⟩ := hH.dep 9 93 rfl (by kernel_rfl)
          have q93 : v93 = .bool true := g93
          subst q93
          obtain ⟨v98, e98, g98⟩ := hH.dep 14 98 rfl (by kernel_rfl)
          have q98 : v98 = .bool true := g98
          subst q98
          exact Or.inl ⟨rfl, goodE_pick _ (.bool true) rfl (eval_of e93) (by simp [Act.eval, e98, e93]) rfl⟩
        refine stepE_cons ⟨_, rfl, fun a w hE hH => ?_⟩ ?_
        ·
          obtain ⟨v99, e99, g99⟩ := hH.dep 15 99 rfl (by kernel_rfl)
          exact Or.inl ⟨rfl, goodE_assign v99 rfl (eval_of e99) g99⟩
        exact stepE_nil
      rintro vals wz hE hV
      have k4 : vals 16 = .bool true := hV 16 (by simp) rfl
      simp only [List.map_cons, List.map_nil, putAll, Act.put, List.setIfInBounds_toArray, List.set_cons_zero, List.set_cons_succ, k4]
      have HBz := Aside0.mk (below_ext HB11.out ((Ext.to_drew _).trans hE))
      clear hE hV
      go_wp2
      go_ret
      exact ⟨rfl, HBz.out⟩
end Go.Proofs.YtnkhhnfmijljbaaDoor
