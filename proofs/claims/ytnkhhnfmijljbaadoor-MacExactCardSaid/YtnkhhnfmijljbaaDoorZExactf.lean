/- Parts of the proof: cairnlaw02.ShaPieces: true. cairnlaw02.ShaSums: true. Arguments opened: slices of bytes, of numbers, of slices of bytes; how great they are. -/
import Derived.Test.YtnkhhnfmijljbaaDoorZExactc
import Derived.Test.YtnkhhnfmijljbaaDoorZExacte
import Derived.ProofKit
import Derived.OpenShut
set_option linter.unusedVariables false
set_option linter.unusedSimpArgs false
namespace Go.Proofs.YtnkhhnfmijljbaaDoor
open Go.RowKit Go.Proofs.YtnkhhnfmijljbaaDoorW.PrintWords Go.Proofs.YtnkhhnfmijljbaaDoorW.PrintLast Go.Proofs.YtnkhhnfmijljbaaDoorW.PrintMore
open Extern.Stop (cell)

set_option maxHeartbeats 1000000 in
set_option maxRecDepth 100000 in
theorem pieces_calls (w : World) (A : Option Addr) (c : Nat) (bs : List UInt8) (A2 : Option Addr) (c2 : Nat) (cuts : List Int) (hK : KTab w) (hF : FTab w) (hL : LTab w)
    (hb : Bs w A bs.length bs) (hc : bs.length ≤ c) (hcuts : ReadsInt w .i64 A2 cuts.length cuts) (hrange : ∀ x ∈ cuts, -9223372036854775808 ≤ x ∧ x ≤ 9223372036854775807) (hbl : bs.length ≤ 1048576) (hcl : cuts.length ≤ 1048576) :
    Calls Tryd.prog 4 #[.slice A bs.length c, .slice A2 cuts.length c2] w (fun e w' => e = .returned (.bool true) ∧ Below w.heap.size w w') := by
  have HK := Aside0.mk hK
  have HF := Aside0.mk hF
  have HL := Aside0.mk hL
  have HFB := Aside0.mk (Fr.of_bs hb hc)
  have HC := Aside0.mk hcuts
  have HRG := Aside0.mk hrange
  clear hK hF hL hb hcuts hrange
  go_enter Tryd.func4, Tryd.ntmps4
  go_wp2_with fail
  refine (awake_calls w HK.out HF.out HL.out).mono ?_
  rintro e w1 ⟨rfl, hB1⟩
  go_wp2_with fail
  refine (new_calls w1 (HF.out.below hB1 HF.out.1)).mono ?_
  rintro e w2 ⟨rfl, hB2, hS2, hSt2⟩
  obtain ⟨G, hG⟩ : ∃ G, G = w1.heap.size := ⟨_, rfl⟩
  have hwG : w.heap.size ≤ G := by rw [hG]; exact hB1.size
  rw [← hG] at hSt2 ⊢
  have HB2 := Aside0.mk (below_ext hB1 hB2)
  have HST2 := Aside0.mk hSt2
  clear hB1 hB2 hS2 hSt2 hG
  go_wp2_with fail
  go_loopw [6, 7, 8] (fun pv lv i wr => ∃ (k m : Nat) (ls : List Pt), k ≤ cuts.length ∧ m ≤ bs.length ∧ i = .int .i64 k ∧ Fr 0 w lv (bs.drop m) ∧ Pl (G + 1) (G + 1) wr pv ls ∧ (ls.map (·.2.2)).flatten = bs.take m ∧ ls.length = k ∧ Below w.heap.size w wr ∧ St wr G (bs.take m) (bs.take m).length)
    (fun _ _ i _ => cuts.length - (intOf i).toNat)
  case atStart => exact ⟨0, 0, [], by omega, by omega, rfl, by simpa using HFB.out, Pl.nil, rfl, rfl, HB2.out, by simpa using HST2.out⟩
  case round =>
    obtain ⟨k, m, ls, hk, hm, rfl, hFl, hPl, hfl, hll, hB, hS⟩ := hrel
    obtain ⟨A', c', rfl, hc', hb', hf'⟩ := hFl
    obtain ⟨L, hL⟩ : ∃ L, L = (bs.drop m).length := ⟨_, rfl⟩
    have hLm : L = bs.length - m := by rw [hL, List.length_drop]
    rw [← hL]
    have HL0 := Aside0.mk hL
    have HLM := Aside0.mk hLm
    have HFL := Aside0.mk (show Fr 0 w (.slice A' L c') (bs.drop m) from ⟨A', c', by rw [hL], hc', hb', hf'⟩)
    have HPL := Aside0.mk hPl
    have HFT := Aside0.mk hfl
    have HLL := Aside0.mk hll
    have HB := Aside0.mk hB
    have HS := Aside0.mk hS
    have hL1 : L ≤ 1048576 := by omega
    clear hfl hPl hll hc' hb' hf' hS hL hLm
    by_cases hlt : k < cuts.length
    · obtain ⟨ad2, rfl, hcell⟩ := HC.out.2.2 (by omega)
      obtain ⟨x, hx⟩ : ∃ x, x = cuts.getD k 0 := ⟨_, rfl⟩
      have c0 := hcell k hlt
      rw [← hx] at c0
      have c1 : wr.cell? (ad2.add k) = some (.int .i64 x) := by rw [hB.cell (p := ad2.add k) (Go.World.block_lt_of_cell? _ _ c0)]; exact c0
      have hxr := HRG.out x (by rw [hx, List.getD, List.getElem?_eq_getElem hlt]; exact List.getElem_mem _)
      obtain ⟨n, hn⟩ := Int.eq_ofNat_of_zero_le (Int.emod_nonneg x (by omega : ((L : Int) + 1) ≠ 0))
      have hnL : n ≤ L := by have := Int.emod_lt_of_pos x (by omega : (0 : Int) < (L : Int) + 1); omega
      have HN := Aside0.mk hn
      have hx1 := hxr.1
      have hx2 := hxr.2
      clear hB hcell hx c0 hxr hn
      go_wp2_with fail
      refine (rest_calls x ((L : Int) + 1) wr ⟨hx1, hx2⟩ (by omega) (by omega)).mono ?_
      rintro e w3 ⟨rfl, rfl⟩
      rw [HN.out]
      clear c1
      have hw3 : Ext w3 (w3.alloc (.cells #[] 5)) := (Ext.refl _).alloc _
      go_wp2_with (with_reducible refine gate_dst (N := 39) rfl ?_; refine Aside0.out ?_)
      refine Aside0.mk ?_
      obtain ⟨s1, hs1, hF1⟩ := fr_to HFL.out (n : Int) (by omega) (by rw [← HL0.out]; omega)
      refine wpL_slice s1 rfl (hs1 _) ?_
      have hPn : ((bs.drop m).take n).length = n := by rw [List.length_take, ← HL0.out]; omega
      have hcat : bs.take m ++ (bs.drop m).take n = bs.take (m + n) := by rw [List.take_add]
      rw [Int.toNat_natCast] at hF1
      obtain ⟨ps, hps⟩ : ∃ ps, ps = (bs.drop m).take n := ⟨_, rfl⟩
      rw [← hps] at hF1 hPn hcat
      have HCAT := Aside0.mk hcat
      obtain ⟨A1, c1, rfl, hc1, hb1, _⟩ := hF1
      have HPN := Aside0.mk hPn
      have hb2 := hb1.below (below_ext HB.out hw3)
      clear hs1 hb1 hPn hcat hps
      go_wp2_with (with_reducible refine gate_dst (N := 40) rfl ?_; refine Aside0.out ?_)
      refine Aside0.mk ?_
      refine wpL_append (F := fun v1 w4 => Ext (w3.alloc (.cells #[] 5)) w4 ∧ Fr (w3.alloc (.cells #[] 5)).heap.size w4 v1 ps) rfl ?_ ?_
      · obtain ⟨v1, w4, hr, hE, hF⟩ := run_copyB (w3.alloc (.cells #[] 5)) 24 ⟨w3.heap.size, 0, none⟩ A1 c1 ps hb2 (by rw [HPN.out]; omega)
        exact ⟨v1, w4, hr, hE, hF⟩
      rintro v1 w4 ⟨hE4, hF4⟩
      have HE4 := Aside0.mk (hw3.trans hE4)
      have hGw3 : G < w3.heap.size := HS.out.choose_spec.2.lt
      have HF4 := Aside0.mk (hF4.mono (show w3.heap.size + 1 ≤ (w3.alloc (.cells #[] 5)).heap.size by simp))
      obtain ⟨A4, c4, rfl, hc4, hb4, hf4⟩ := hF4
      have HB4 := Aside0.mk hb4
      have HF5 := Aside0.mk hf4
      clear hw3 hb2 hE4 hb4 hf4
      go_wp2_with (with_reducible refine gate_dst (N := 43) rfl ?_; refine Aside0.out ?_)
      refine Aside0.mk ?_
      obtain ⟨s2, hs2, hF2⟩ := fr_from HFL.out (n : Int) (by omega) (by rw [← HL0.out]; omega)
      refine wpL_slice s2 rfl (hs2 _) ?_
      rw [Int.toNat_natCast, List.drop_drop] at hF2
      obtain ⟨A5, c5, rfl, hc5, hb5, hf5⟩ := hF2
      obtain ⟨L', hL'⟩ : ∃ L' : Nat, L' = (bs.drop (m + n)).length := ⟨_, rfl⟩
      rw [← hL']
      have hLl : L' + (m + n) = bs.length := by rw [hL', List.length_drop]; have := HLM.out; omega
      have HLL' := Aside0.mk hLl
      have hLle : (L' : Int) ≤ bs.length := by omega
      have HFL2 := Aside0.mk (show Fr 0 w (.slice A5 L' c5) (bs.drop (m + n)) from ⟨A5, c5, by rw [hL'], hc5, hb5, hf5⟩)
      clear hs2 hb5 hf5 hc5 hL' hLl
      go_wp2_with fail
      have hm' : m + n ≤ bs.length := by have := HLM.out; omega
      have hmt : (bs.take m).length = m := by rw [List.length_take]; omega
      have HK4 := Aside0.mk (HK.out.below (below_ext HB.out HE4.out) HK.out.1)
      with_reducible refine (write_calls w4 G (bs.take m) A4 c4 ps HK4.out (HS.out.ext HE4.out) HB4.out hc4 (fun ad ha hp => by have := HF5.out ad ha hp; simp at this; omega) (by rw [hmt, HPN.out]; omega)).mono ?_
      rintro e w5 ⟨rfl, hO5, hS5⟩
      rw [HCAT.out] at hS5
      have HB5 := Aside0.mk (below_only (below_ext HB.out HE4.out) hO5 hwG (by have := HB.out.size; have := HE4.out.size; omega))
      have HS5 := Aside0.mk hS5
      have HPL5 := Aside0.mk ((HPL.out.ext HE4.out).only hO5 (by omega) (by omega))
      have HF6 := Aside0.mk (HF4.out.only hO5 (by omega))
      have hsz5 : w4.heap.size ≤ w5.heap.size := hO5.size
      have hsz4 : w3.heap.size ≤ w4.heap.size := HE4.out.size
      have HOB := Aside0.mk (show ∀ ad, A4 = some ad → 0 < ps.length → u6.ownBlock ≠ some ad.block by
        intro ad ha hp he
        have h1 := HF5.out ad ha hp
        have h2 := own_lt HPL.out.1 _ he
        simp at h1
        omega)
      clear hmt hO5 hS5
      go_wp2_with (with_reducible refine gate_dst (N := 50) rfl ?_; refine Aside0.out ?_)
      refine Aside0.mk ?_
      refine wpL_pl (W := w5) (v := u6) (A4, c4, ps) rfl _ _ rfl rfl rfl (HPL5.out) (HF6.out.mono (by omega)) HOB.out (by omega) (by rw [HLL.out]; omega) ?_
      intro pv6 w6 hPl6 hB6 hg6
      have HPL6 := Aside0.mk hPl6
      have HS6 := Aside0.mk (HS5.out.under hB6 (by omega))
      have hGB : w.heap.size ≤ G + 1 := by omega
      have HB6 := Aside0.mk (HB5.out.trans (hB6.mono hGB))
      clear hB6 hg6 hPl6
      go_wp2_with (with_reducible refine gate_dst (N := 57) rfl ?_; refine Aside0.out ?_)
      refine Aside0.mk ?_
      have hLl := HLL'.out
      obtain ⟨s3, hs3, hF3⟩ := fr_to HFB.out ((bs.length : Int) - L') (by omega) (by omega)
      refine wpL_slice s3 rfl (hs3 _) ?_
      rw [show ((bs.length : Int) - L').toNat = m + n by omega] at hF3
      obtain ⟨hs, hhs⟩ : ∃ hs, hs = bs.take (m + n) := ⟨_, rfl⟩
      rw [← hhs] at hF3
      have HHS := Aside0.mk hhs
      have HS6h := Aside0.mk (show St w6 G hs hs.length by rw [hhs]; exact HS6.out)
      have hhl : hs.length ≤ 1048576 := by rw [hhs, List.length_take]; omega
      obtain ⟨A7, c7, rfl, hc7, hb7, _⟩ := hF3
      have HB7 := Aside0.mk hb7
      clear hs3 hb7 hhs hLl
      go_wp2_with fail
      refine (sum_calls w6 G hs (HK.out.below HB6.out HK.out.1) HS6h.out (by omega)).mono ?_
      rintro e w7 ⟨rfl, hE7⟩
      have HB8 := Aside0.mk (below_ext HB6.out hE7)
      have HPL7 := Aside0.mk (HPL6.out.ext hE7)
      have HS7 := Aside0.mk (HS6h.out.ext hE7)
      clear hE7
      go_wp2_with (with_reducible change wpList _ _ _ (Oper.mk _ (Op.store 28 _ _) _ _ _ _ :: _) _ _; refine Aside0.out ?_)
      refine Aside0.mk ?_
      refine wpList_store_row rfl 28 _ _ rfl w7.heap.size ((Spec.digest hs).map cell).toArray rfl (by simp only [go_sem, hashV, Act.eval, Act.put]; rfl) 28 _ (heap_alloc_new _ _) (by kernel_rfl) rfl (oneCells _) ?_
      go_wp2_with fail
      obtain ⟨S, hS⟩ : ∃ S, S = w7.heap.size := ⟨_, rfl⟩
      have hEs : Ext w7 ((w7.alloc (.cells (z8 32).toArray 28)).setRow w7.heap.size ((Spec.digest hs).map cell).toArray) := below_alloc_setRow _ _ _
      refine wp_world (fun w8 => Below w.heap.size w w8 ∧ Row w8 S ((Spec.digest hs).map cell) 28 ∧ Pl (G + 1) (G + 1) w8 pv6 (ls ++ [(A4, c4, ps)]) ∧ St w8 G hs hs.length) ⟨below_ext HB8.out hEs, by rw [hS]; exact alloc_setRow _ _ _ _, HPL7.out.ext hEs, HS7.out.ext hEs⟩ ?_
      rintro w8 ⟨hB8, hR8, hPL8, hST8⟩
      rw [← hS]
      have HBw := Aside0.mk hB8
      have HR8 := Aside0.mk hR8
      have HPLw := Aside0.mk hPL8
      have HSTw := Aside0.mk hST8
      have HKw := Aside0.mk (HK.out.below hB8 HK.out.1)
      have HFw := Aside0.mk (HF.out.below hB8 HF.out.1)
      have HBS := Aside0.mk (HB7.out.below hB8)
      clear hB8 hR8 hPL8 hST8 hEs hS HPL7 HS7 HB8
      refine ext_region 7 [(0, 60), (1, 61), (2, 62), (3, 63), (4, 64), (5, 65), (6, 66)] [0, 1, 2, 3, 4, 5, 6] (fun i w v => match i with | 0 => v = (hashV (Spec.digest hs)) | 1 => ∃ b, v = .slice (some ⟨b, 0, none⟩) 0 0 | 2 => v = .slice A7 hs.length c7 | 3 => Fr 0 w v hs | 4 => ∃ b, v = .slice (some ⟨b, 0, none⟩) 1 1 ∧ Bss w (some ⟨b, 0, none⟩) 1 [hs] | 5 => v = (hashV (Spec.digest hs)) | 6 => v = .bool false | _ => True) (by kernel_rfl) (by kernel_rfl) (by rfl) rfl ?mono18 ?steps18 ?fin18
      case mono18 =>
        intro i w w' v h hE
        match i with
        | 0 => exact h
        | 1 => exact h
        | 2 => exact h
        | 3 => exact h.ext hE
        | 4 => exact (by obtain ⟨b, h1, h2⟩ := h; exact ⟨b, h1, h2.below hE⟩)
        | 5 => exact h
        | 6 => exact h
        | _ + 7 => trivial
      case steps18 =>
        refine stepE_cons ⟨_, rfl, fun a w hE hH => ?_⟩ ?_
        ·
          have e12 : a.tmps[12]? = some (.pointer (some ⟨S, 0, none⟩)) := hH.old 12 rfl
          exact Or.inl ⟨(rfl), goodE_row S 0 ((Spec.digest hs).map cell) _ rfl (eval_of e12) (rangeOfRow ((HR8.out.drew).ext hE)) Tryd.underlying28 rfl (by kernel_rfl) rfl⟩
        refine stepE_cons ⟨_, rfl, fun a w hE hH => ?_⟩ ?_
        ·
          exact Or.inl ⟨(rfl), goodE_new (.slice (some ⟨w.heap.size, 0, none⟩) 0 0) (w.alloc (.cells #[] 5)) (by simp [execOp, go_sem]) ((Ext.refl w).alloc _) ⟨_, rfl⟩⟩
        refine stepE_cons ⟨_, rfl, fun a w hE hH => ?_⟩ ?_
        ·
          have e11 : a.tmps[11]? = some (.slice A7 hs.length c7) := hH.old 11 rfl
          exact Or.inl ⟨rfl, goodE_move _ rfl (eval_of e11) rfl⟩
        refine stepE_cons ⟨_, rfl, fun a w hE hH => ?_⟩ ?_
        ·
          obtain ⟨v61, e61, g61⟩ := hH.dep 1 61 rfl (by kernel_rfl)
          obtain ⟨v62, e62, g62⟩ := hH.dep 2 62 rfl (by kernel_rfl)
          have q62 : v62 = .slice A7 hs.length c7 := g62
          subst q62
          obtain ⟨b, rfl⟩ := g61
          obtain ⟨v1, w1, hr, h1, h2⟩ := run_copyB w 24 ⟨b, 0, none⟩ A7 c7 hs (HBS.out.ext ((Ext.to_drew _).trans hE)) (by omega)
          exact Or.inl ⟨(rfl), goodE_new v1 w1 (exec_append (s := .tmp 61) (x := .tmp 62) (t := 24) (u := 24) rfl (by rw [eval_of e61, eval_of e62]; exact hr)) h1 (h2.mono (Nat.zero_le _))⟩
        refine stepE_cons ⟨_, rfl, fun a w hE hH => ?_⟩ ?_
        ·
          obtain ⟨v63, e63, g63⟩ := hH.dep 3 63 rfl (by kernel_rfl)
          obtain ⟨A9, c9, rfl, hc9, hb9, _⟩ := g63
          refine Or.inl ⟨(rfl), goodE_new (.slice (some ⟨w.heap.size, 0, none⟩) 1 1) (w.alloc (.cells #[.slice A9 hs.length c9] 24)) (by simp [execOp, Act.eval, e63, go_sem]) ((Ext.refl w).alloc _) ⟨_, rfl, bss_one hb9 hc9⟩⟩
        refine stepE_cons ⟨_, rfl, fun a w hE hH => ?_⟩ ?_
        ·
          obtain ⟨v64, e64, g64⟩ := hH.dep 4 64 rfl (by kernel_rfl)
          obtain ⟨b, rfl, hb⟩ := g64
          refine Or.inl ⟨(rfl), goodE_call rfl #[.slice (some ⟨b, 0, none⟩) 1 1] (by simp [Act.eval, e64]) _ Tryd.func16 (by kernel_rfl) (by kernel_rfl) ?_⟩
          refine (shaSum_calls w (some ⟨b, 0, none⟩) 1 [hs] (HKw.out.ext ((Ext.to_drew _).trans hE)) (HFw.out.ext ((Ext.to_drew _).trans hE)) hb (by simp; omega)).mono ?_
          rintro e w' ⟨rfl, h⟩
          exact ⟨_, rfl, h, by simp⟩
        refine stepE_cons ⟨_, rfl, fun a w hE hH => ?_⟩ ?_
        ·
          obtain ⟨v60, e60, g60⟩ := hH.dep 0 60 rfl (by kernel_rfl)
          have q60 : v60 = (hashV (Spec.digest hs)) := g60
          subst q60
          obtain ⟨v65, e65, g65⟩ := hH.dep 5 65 rfl (by kernel_rfl)
          have q65 : v65 = (hashV (Spec.digest hs)) := g65
          subst q65
          exact Or.inl ⟨(rfl), goodE_val (.bool false) (by simp [execOp, Act.eval, e60, e65, eq28 w _ _ (Spec.digest_length hs) (Spec.digest_length hs), hashV, go_sem]) rfl⟩
        exact stepE_nil
      rintro vals wz hE hV
      have k66 : vals 6 = .bool false := hV 6 (by simp) rfl
      simp only [List.map_cons, List.map_nil, putAll, Act.put, List.setIfInBounds_toArray, List.set_cons_zero, List.set_cons_succ, k66]
      have HBz := Aside0.mk (below_ext HBw.out ((Ext.to_drew _).trans hE))
      have HPLz := Aside0.mk (HPLw.out.ext ((Ext.to_drew _).trans hE))
      have HSTz := Aside0.mk (HSTw.out.ext ((Ext.to_drew _).trans hE))
      clear hE hV k66
      go_wp2
      go_roundw
      case rel =>
        refine ⟨k + 1, m + n, ls ++ [(A4, c4, ps)], by omega, hm', by simp, HFL2.out, HPLz.out, ?_, by simp [HLL.out], HBz.out, by have h := HSTz.out; rw [HHS.out] at h; exact h⟩
        rw [List.map_append, List.flatten_append, HFT.out]
        simpa using HCAT.out
      case measure => simp [intOf]; omega
    · have hw3 : Ext wr (wr.alloc (.cells #[] 5)) := (Ext.refl _).alloc _
      obtain ⟨ps, hps⟩ : ∃ ps, ps = bs.drop m := ⟨_, rfl⟩
      have hcat : bs.take m ++ ps = bs := by rw [hps, List.take_append_drop]
      have HCAT := Aside0.mk hcat
      have hpl : L = ps.length := by rw [hps]; exact HL0.out
      have HPL' := Aside0.mk hpl
      have hFl := HFL.out
      rw [← hps] at hFl
      obtain ⟨A1, c1, e1, hc1, hb1, _⟩ := hFl
      injection e1 with e1 e2 e3
      subst e1
      subst e3
      have HB1 := Aside0.mk (hb1.below (below_ext HB.out hw3))
      have HW3 := Aside0.mk hw3
      clear hcat hpl hps e2 hb1 hw3 hB
      go_wp2_with (with_reducible refine gate_dst (N := 69) rfl ?_; refine Aside0.out ?_)
      refine Aside0.mk ?_
      have hLp := HPL'.out
      refine wpL_append (F := fun v1 w4 => Ext (wr.alloc (.cells #[] 5)) w4 ∧ Fr (wr.alloc (.cells #[] 5)).heap.size w4 v1 ps) rfl ?_ ?_
      · obtain ⟨v1, w4, hr, hE, hF⟩ := run_copyB (wr.alloc (.cells #[] 5)) 24 ⟨wr.heap.size, 0, none⟩ A' c' ps HB1.out (by omega)
        rw [← HPL'.out] at hr
        exact ⟨v1, w4, hr, hE, hF⟩
      rintro v1 w4 ⟨hE4, hF4⟩
      have HE4 := Aside0.mk (HW3.out.trans hE4)
      have hGw3 : G < wr.heap.size := HS.out.choose_spec.2.lt
      have HF4 := Aside0.mk (hF4.mono (show wr.heap.size + 1 ≤ (wr.alloc (.cells #[] 5)).heap.size by simp))
      obtain ⟨A4, c4, rfl, hc4, hb4, hf4⟩ := hF4
      have HB4 := Aside0.mk hb4
      have HF5 := Aside0.mk hf4
      have HK4 := Aside0.mk (HK.out.below (below_ext HB.out HE4.out) HK.out.1)
      clear hE4 hb4 hf4 hLp
      go_wp2_with fail
      have hLp := HPL'.out
      have hmt : (bs.take m).length = m := by rw [List.length_take]; omega
      with_reducible refine (write_calls w4 G (bs.take m) A4 c4 ps HK4.out (HS.out.ext HE4.out) HB4.out hc4 (fun ad ha hp => by have := HF5.out ad ha hp; simp at this; omega) (by rw [hmt]; omega)).mono ?_
      rintro e w5 ⟨rfl, hO5, hS5⟩
      rw [HCAT.out] at hS5
      have HB5 := Aside0.mk (below_only (below_ext HB.out HE4.out) hO5 hwG (by have := HB.out.size; have := HE4.out.size; omega))
      have HS5 := Aside0.mk hS5
      have HPL5 := Aside0.mk ((HPL.out.ext HE4.out).only hO5 (by omega) (by omega))
      have HF6 := Aside0.mk (HF4.out.only hO5 (by omega))
      have hsz5 : w4.heap.size ≤ w5.heap.size := hO5.size
      have hsz4 : wr.heap.size ≤ w4.heap.size := HE4.out.size
      have HOB := Aside0.mk (show ∀ ad, A4 = some ad → 0 < ps.length → u6.ownBlock ≠ some ad.block by
        intro ad ha hp he
        have h1 := HF5.out ad ha hp
        have h2 := own_lt HPL.out.1 _ he
        simp at h1
        omega)
      clear hmt hO5 hS5 hLp
      go_wp2_with (with_reducible refine gate_dst (N := 76) rfl ?_; refine Aside0.out ?_)
      refine Aside0.mk ?_
      refine wpL_pl (W := w5) (v := u6) (A4, c4, ps) rfl _ _ rfl rfl rfl (HPL5.out) (HF6.out.mono (by omega)) HOB.out (by omega) (by rw [HLL.out]; omega) ?_
      intro pv6 w6 hPl6 hB6 hg6
      have HPL6 := Aside0.mk hPl6
      have HS6 := Aside0.mk (HS5.out.under hB6 (by omega))
      have hGB : w.heap.size ≤ G + 1 := by omega
      have HB6 := Aside0.mk (HB5.out.trans (hB6.mono hGB))
      have HFT2 := Aside0.mk (show ((ls ++ [(A4, c4, ps)]).map (·.2.2)).flatten = bs by rw [List.map_append, List.flatten_append, HFT.out]; simpa using HCAT.out)
      obtain ⟨qs, hqs⟩ : ∃ qs, qs = ls ++ [(A4, c4, ps)] := ⟨_, rfl⟩
      rw [← hqs] at HPL6 HFT2
      have hw6 : Ext w6 (w6.alloc (.cells #[] 5)) := (Ext.refl _).alloc _
      have HW6 := Aside0.mk hw6
      obtain ⟨Ab, cb, eb, hcb, hbb, _⟩ := HFB.out
      injection eb with e1 e2 e3
      subst e1
      subst e3
      have HBB := Aside0.mk (hbb.below (below_ext HB6.out hw6))
      clear hB6 hg6 hPl6 hqs hw6 e2 hbb
      go_wp2_with (with_reducible refine gate_dst (N := 79) rfl ?_; refine Aside0.out ?_)
      refine Aside0.mk ?_
      refine wpL_append (F := fun v1 w7 => Ext (w6.alloc (.cells #[] 5)) w7 ∧ Fr (w6.alloc (.cells #[] 5)).heap.size w7 v1 bs) rfl ?_ ?_
      · obtain ⟨v1, w4, hr, hE, hF⟩ := run_copyB (w6.alloc (.cells #[] 5)) 24 ⟨w6.heap.size, 0, none⟩ A c bs HBB.out (by omega)
        exact ⟨v1, w4, hr, hE, hF⟩
      rintro v1 w7 ⟨hE7, hF7⟩
      have HE7 := Aside0.mk (HW6.out.trans hE7)
      obtain ⟨A7, c7, rfl, hc7, hb7, hf7⟩ := hF7
      have HB7 := Aside0.mk hb7
      have HBw7 := Aside0.mk (below_ext HB6.out HE7.out)
      have HK7 := Aside0.mk (HK.out.below HBw7.out HK.out.1)
      have HF7 := Aside0.mk (HF.out.below HBw7.out HF.out.1)
      clear hE7 hb7 hf7
      go_wp2_with fail
      refine (sumOne_calls w7 A7 bs.length c7 bs HK7.out HF7.out HB7.out hc7 (by omega)).mono ?_
      rintro e w8 ⟨rfl, hE8⟩
      have HE8 := Aside0.mk (HE7.out.trans hE8)
      clear hE8
      go_wp2_with (with_reducible change wpList _ _ _ (Oper.mk _ (Op.store 28 _ _) _ _ _ _ :: _) _ _; refine Aside0.out ?_)
      refine Aside0.mk ?_
      refine wpList_store_row rfl 28 _ _ rfl w8.heap.size ((Spec.digest bs).map cell).toArray rfl (by simp only [go_sem, hashV, Act.eval, Act.put]; rfl) 28 _ (heap_alloc_new _ _) (by kernel_rfl) rfl (oneCells _) ?_
      obtain ⟨R, hR⟩ : ∃ R, R = w8.heap.size := ⟨_, rfl⟩
      have hEr : Ext w8 ((w8.alloc (.cells (z8 32).toArray 28)).setRow w8.heap.size ((Spec.digest bs).map cell).toArray) := below_alloc_setRow _ _ _
      refine wpList_world (fun w9 => Ext w6 w9 ∧ Row w9 R ((Spec.digest bs).map cell) 28) ⟨HE8.out.trans hEr, by rw [hR]; exact alloc_setRow _ _ _ _⟩ ?_
      rintro w9 ⟨hE9, hR9⟩
      rw [← hR]
      have HE9 := Aside0.mk hE9
      have HR9 := Aside0.mk hR9
      have HB9 := Aside0.mk (below_ext HB6.out hE9)
      have HS9 := Aside0.mk (HS6.out.ext hE9)
      clear hE9 hR9 hR hEr
      go_wp2_with fail
      refine (sum_calls w9 G bs (HK.out.below HB9.out HK.out.1) HS9.out (by omega)).mono ?_
      rintro e w10 ⟨rfl, hE10⟩
      have HEa := Aside0.mk (HE9.out.trans hE10)
      have HRa := Aside0.mk (HR9.out.ext hE10)
      clear hE10
      go_wp2_with (with_reducible change wpList _ _ _ (Oper.mk _ (Op.store 28 _ _) _ _ _ _ :: _) _ _; refine Aside0.out ?_)
      refine Aside0.mk ?_
      refine wpList_store_row rfl 28 _ _ rfl w10.heap.size ((Spec.digest bs).map cell).toArray rfl (by simp only [go_sem, hashV, Act.eval, Act.put]; rfl) 28 _ (heap_alloc_new _ _) (by kernel_rfl) rfl (oneCells _) ?_
      obtain ⟨S, hS⟩ : ∃ S, S = w10.heap.size := ⟨_, rfl⟩
      have hEs : Ext w10 ((w10.alloc (.cells (z8 32).toArray 28)).setRow w10.heap.size ((Spec.digest bs).map cell).toArray) := below_alloc_setRow _ _ _
      refine wpList_world (fun w11 => Ext w6 w11 ∧ Row w11 R ((Spec.digest bs).map cell) 28 ∧ Row w11 S ((Spec.digest bs).map cell) 28) ⟨HEa.out.trans hEs, HRa.out.ext hEs, by rw [hS]; exact alloc_setRow _ _ _ _⟩ ?_
      rintro w11 ⟨hE11, hR11, hS11⟩
      rw [← hS]
      have HB11 := Aside0.mk (below_ext HB6.out hE11)
      have HR11 := Aside0.mk hR11
      have HS11 := Aside0.mk hS11
      have HSTw := Aside0.mk (HS6.out.ext hE11)
      have HPLw := Aside0.mk (HPL6.out.ext hE11)
      have HKw := Aside0.mk (HK.out.below HB11.out HK.out.1)
      have HFw := Aside0.mk (HF.out.below HB11.out HF.out.1)
      obtain ⟨Aq, cq, hqv, hcq, hbq⟩ := HPLw.out.bss
      have HQV := Aside0.mk hqv
      have HBQ := Aside0.mk hbq
      clear hE11 hR11 hS11 hEs hS hqv hbq
      go_wp2_with fail
      refine ext_region 17 [(0, 84), (1, 85), (2, 86), (3, 87), (4, 88), (5, 89), (6, 90), (7, 91), (8, 92), (9, 93), (10, 94), (11, 95), (12, 96), (13, 97), (14, 98), (15, 99), (16, 4)] [0, 1, 2, 3, 4, 5, 6, 7, 8, 9, 10, 11, 12, 13, 14, 15, 16] (fun i w v => match i with | 0 => v = (hashV (Spec.digest bs)) | 1 => v = (hashV (Spec.digest bs)) | 2 => v = .bool true | 3 => v = .bool true | 4 => v = pv6 | 5 => v = (hashV (Spec.digest bs)) | 6 => v = (hashV (Spec.digest bs)) | 7 => v = .bool true | 8 => v = .bool true | 9 => v = .bool true | 10 => v = .pointer (some ⟨G, 0, none⟩) | 11 => v = .int .i64 bs.length | 12 => v = .slice A bs.length c | 13 => v = .int .i64 bs.length | 14 => v = .bool true | 15 => v = .bool true | 16 => v = .bool true | _ => True) (by kernel_rfl) (by kernel_rfl) (by rfl) rfl ?mono25 ?steps25 ?fin25
      case mono25 =>
        intro i w w' v h hE
        match i with
        | 0 => exact h
        | 1 => exact h
        | 2 => exact h
        | 3 => exact h
        | 4 => exact h
        | 5 => exact h
        | 6 => exact h
        | 7 => exact h
        | 8 => exact h
        | 9 => exact h
        | 10 => exact h
        | 11 => exact h
        | 12 => exact h
        | 13 => exact h
        | 14 => exact h
        | 15 => exact h
        | 16 => exact h
        | _ + 17 => trivial
      case steps25 =>
        refine stepE_cons ⟨_, rfl, fun a w hE hH => ?_⟩ ?_
        ·
          have e15 : a.tmps[15]? = some (.pointer (some ⟨S, 0, none⟩)) := hH.old 15 rfl
          exact Or.inl ⟨(rfl), goodE_row S 0 ((Spec.digest bs).map cell) _ rfl (eval_of e15) (rangeOfRow ((HS11.out.drew).ext hE)) Tryd.underlying28 rfl (by kernel_rfl) rfl⟩
        refine stepE_cons ⟨_, rfl, fun a w hE hH => ?_⟩ ?_
        ·
          have e14 : a.tmps[14]? = some (.pointer (some ⟨R, 0, none⟩)) := hH.old 14 rfl
          exact Or.inl ⟨(rfl), goodE_row R 0 ((Spec.digest bs).map cell) _ rfl (eval_of e14) (rangeOfRow ((HR11.out.drew).ext hE)) Tryd.underlying28 rfl (by kernel_rfl) rfl⟩
        refine stepE_cons ⟨_, rfl, fun a w hE hH => ?_⟩ ?_
        ·
          obtain ⟨v84, e84, g84⟩ := hH.dep 0 84 rfl (by kernel_rfl)
          have q84 : v84 = (hashV (Spec.digest bs)) := g84
          subst q84
          obtain ⟨v85, e85, g85⟩ := hH.dep 1 85 rfl (by kernel_rfl)
          have q85 : v85 = (hashV (Spec.digest bs)) := g85
          subst q85
          exact Or.inl ⟨(rfl), goodE_val (.bool true) (by simp [execOp, Act.eval, e84, e85, eq28 w _ _ (Spec.digest_length bs) (Spec.digest_length bs), hashV, go_sem]) rfl⟩
        refine stepE_cons ⟨_, rfl, fun a w hE hH => ?_⟩ ?_
        ·
          obtain ⟨v86, e86, g86⟩ := hH.dep 2 86 rfl (by kernel_rfl)
          exact Or.inl ⟨rfl, goodE_move v86 rfl (eval_of e86) g86⟩
        refine stepE_cons ⟨_, rfl, fun a w hE hH => ?_⟩ ?_
        ·
          have e6 : a.tmps[6]? = some (pv6) := hH.old 6 rfl
          obtain ⟨v87, e87, g87⟩ := hH.dep 3 87 rfl (by kernel_rfl)
          have q87 : v87 = .bool true := g87
          subst q87
          exact Or.inl ⟨wanted_on rfl rfl rfl e87, goodE_move _ rfl (eval_of e6) rfl⟩
        refine stepE_cons ⟨_, rfl, fun a w hE hH => ?_⟩ ?_
        ·
          obtain ⟨v88, e88, g88⟩ := hH.dep 4 88 rfl (by kernel_rfl)
          have q88 : v88 = pv6 := g88
          subst q88
          obtain ⟨v87, e87, g87⟩ := hH.dep 3 87 rfl (by kernel_rfl)
          have q87 : v87 = .bool true := g87
          subst q87
          refine Or.inl ⟨(wanted_on rfl rfl rfl e87), goodE_call rfl #[.slice Aq qs.length cq] (by simp [Act.eval, e88, HQV.out]) _ Tryd.func16 (by kernel_rfl) (by kernel_rfl) ?_⟩
          have hcall := shaSum_calls w Aq cq (qs.map (·.2.2)) (HKw.out.ext ((Ext.to_drew _).trans hE)) (HFw.out.ext ((Ext.to_drew _).trans hE)) (by rw [List.length_map]; exact HBQ.out.ext ((Ext.to_drew _).trans hE)) (by rw [HFT2.out]; omega)
          rw [List.length_map, HFT2.out] at hcall
          refine hcall.mono ?_
          rintro e w' ⟨rfl, h⟩
          exact ⟨_, rfl, h, rfl⟩
        refine stepE_cons ⟨_, rfl, fun a w hE hH => ?_⟩ ?_
        ·
          have e14 : a.tmps[14]? = some (.pointer (some ⟨R, 0, none⟩)) := hH.old 14 rfl
          obtain ⟨v87, e87, g87⟩ := hH.dep 3 87 rfl (by kernel_rfl)
          have q87 : v87 = .bool true := g87
          subst q87
          exact Or.inl ⟨(wanted_on rfl rfl rfl e87), goodE_row R 0 ((Spec.digest bs).map cell) _ rfl (eval_of e14) (rangeOfRow ((HR11.out.drew).ext hE)) Tryd.underlying28 rfl (by kernel_rfl) rfl⟩
        refine stepE_cons ⟨_, rfl, fun a w hE hH => ?_⟩ ?_
        ·
          obtain ⟨v89, e89, g89⟩ := hH.dep 5 89 rfl (by kernel_rfl)
          have q89 : v89 = (hashV (Spec.digest bs)) := g89
          subst q89
          obtain ⟨v90, e90, g90⟩ := hH.dep 6 90 rfl (by kernel_rfl)
          have q90 : v90 = (hashV (Spec.digest bs)) := g90
          subst q90
          obtain ⟨v87, e87, g87⟩ := hH.dep 3 87 rfl (by kernel_rfl)
          have q87 : v87 = .bool true := g87
          subst q87
          exact Or.inl ⟨(wanted_on rfl rfl rfl e87), goodE_val (.bool true) (by simp [execOp, Act.eval, e89, e90, eq28 w _ _ (Spec.digest_length bs) (Spec.digest_length bs), hashV, go_sem]) rfl⟩
        refine stepE_cons ⟨_, rfl, fun a w hE hH => ?_⟩ ?_
        ·
          obtain ⟨v87, e87, g87⟩ := hH.dep 3 87 rfl (by kernel_rfl)
          have q87 : v87 = .bool true := g87
          subst q87
          obtain ⟨v91, e91, g91⟩ := hH.dep 7 91 rfl (by kernel_rfl)
          have q91 : v91 = .bool true := g91
          subst q91
          exact Or.inl ⟨rfl, goodE_pick _ (.bool true) rfl (eval_of e87) (by simp [Act.eval, e91, e87]) rfl⟩
        refine stepE_cons ⟨_, rfl, fun a w hE hH => ?_⟩ ?_
        ·
          obtain ⟨v92, e92, g92⟩ := hH.dep 8 92 rfl (by kernel_rfl)
          exact Or.inl ⟨rfl, goodE_move v92 rfl (eval_of e92) g92⟩
        refine stepE_cons ⟨_, rfl, fun a w hE hH => ?_⟩ ?_
        ·
          have e5 : a.tmps[5]? = some (.pointer (some ⟨G, 0, none⟩)) := hH.old 5 rfl
          obtain ⟨v93, e93, g93⟩ := hH.dep 9 93 rfl (by kernel_rfl)
          have q93 : v93 = .bool true := g93
          subst q93
          exact Or.inl ⟨wanted_on rfl rfl rfl e93, goodE_move _ rfl (eval_of e5) rfl⟩
        refine stepE_cons ⟨_, rfl, fun a w hE hH => ?_⟩ ?_
        ·
          obtain ⟨v94, e94, g94⟩ := hH.dep 10 94 rfl (by kernel_rfl)
          have q94 : v94 = .pointer (some ⟨G, 0, none⟩) := g94
          subst q94
          obtain ⟨v93, e93, g93⟩ := hH.dep 9 93 rfl (by kernel_rfl)
          have q93 : v93 = .bool true := g93
          subst q93
          refine Or.inl ⟨(wanted_on rfl rfl rfl e93), goodE_call rfl #[.pointer (some ⟨G, 0, none⟩)] (by simp [Act.eval, e94]) _ Tryd.func22 (by kernel_rfl) (by kernel_rfl) ?_⟩
          refine (len_calls w G _ _ (HSTw.out.ext ((Ext.to_drew _).trans hE))).mono ?_
          rintro e w' ⟨rfl, rfl⟩
          exact ⟨_, rfl, Ext.refl _, rfl⟩
        refine stepE_cons ⟨_, rfl, fun a w hE hH => ?_⟩ ?_
        ·
          have e0 : a.tmps[0]? = some (.slice A bs.length c) := hH.old 0 rfl
          obtain ⟨v93, e93, g93⟩ := hH.dep 9 93 rfl (by kernel_rfl)
          have q93 : v93 = .bool true := g93
          subst q93
          exact Or.inl ⟨wanted_on rfl rfl rfl e93, goodE_move _ rfl (eval_of e0) rfl⟩
        refine stepE_cons ⟨_, rfl, fun a w hE hH => ?_⟩ ?_
        ·
          obtain ⟨v96, e96, g96⟩ := hH.dep 12 96 rfl (by kernel_rfl)
          have q96 : v96 = .slice A bs.length c := g96
          subst q96
          obtain ⟨v93, e93, g93⟩ := hH.dep 9 93 rfl (by kernel_rfl)
          have q93 : v93 = .bool true := g93
          subst q93
          exact Or.inl ⟨wanted_on rfl rfl rfl e93, goodE_val (.int .i64 bs.length) (by simp [execOp, Act.eval, e96, e93, go_sem]) rfl⟩
        refine stepE_cons ⟨_, rfl, fun a w hE hH => ?_⟩ ?_
        ·
          obtain ⟨v95, e95, g95⟩ := hH.dep 11 95 rfl (by kernel_rfl)
          have q95 : v95 = .int .i64 bs.length := g95
          subst q95
          obtain ⟨v97, e97, g97⟩ := hH.dep 13 97 rfl (by kernel_rfl)
          have q97 : v97 = .int .i64 bs.length := g97
          subst q97
          obtain ⟨v93, e93, g93⟩ := hH.dep 9 93 rfl (by kernel_rfl)
          have q93 : v93 = .bool true := g93
          subst q93
          exact Or.inl ⟨wanted_on rfl rfl rfl e93, goodE_val (.bool true) (by simp [execOp, Act.eval, e97, e93, e95, go_sem]) rfl⟩
        refine stepE_cons ⟨_, rfl, fun a w hE hH => ?_⟩ ?_
        ·
          obtain ⟨v93, e93, g93⟩ := hH.dep 9 93 rfl (by kernel_rfl)
          have q93 : v93 = .bool true := g93
          subst q93
          obtain ⟨v98, e98, g98⟩ := hH.dep 14 98 rfl (by kernel_rfl)
          have q98 : v98 = .bool true := g98
          subst q98
          exact Or.inl ⟨rfl, goodE_pick _ (.bool true) rfl (eval_of e93) (by simp [Act.eval, e98, e93]) rfl⟩
        refine stepE_cons ⟨_, rfl, fun a w hE hH => ?_⟩ ?_
        ·
          obtain ⟨v99, e99, g99⟩ := hH.dep 15 99 rfl (by kernel_rfl)
          exact Or.inl ⟨rfl, goodE_assign v99 rfl (eval_of e99) g99⟩
        exact stepE_nil
      rintro vals wz hE hV
      have k4 : vals 16 = .bool true := hV 16 (by simp) rfl
      simp only [List.map_cons, List.map_nil, putAll, Act.put, List.setIfInBounds_toArray, List.set_cons_zero, List.set_cons_succ, k4]
      have HBz := Aside0.mk (below_ext HB11.out ((Ext.to_drew _).trans hE))
      clear hE hV
      go_wp2
      go_ret
      exact ⟨rfl, HBz.out⟩
end Go.Proofs.YtnkhhnfmijljbaaDoor
set_option linter.unusedVariables false
set_option linter.unusedSimpArgs false
namespace Go.Proofs.YtnkhhnfmijljbaaDoor
open Go.RowKit Go.Proofs.YtnkhhnfmijljbaaDoorW.PrintWords Go.Proofs.YtnkhhnfmijljbaaDoorW.PrintLast Go.Proofs.YtnkhhnfmijljbaaDoorW.PrintMore
open Extern.Stop (cell)

/-- none of these parts lies in v's own block -/
def Sep (v : Value) (E : Pt → Prop) : Prop := ∀ l, E l → ∀ ad, l.1 = some ad → 0 < l.2.2.length → v.ownBlock ≠ some ad.block
def Ol (B : Nat) (w : World) (v : Value) (ls : List Pt) : Prop := w.ownsRow B 24 1 v ls.length (ls.map pv)
def Fe (w : World) (E : Pt → Prop) : Prop := ∀ l, E l → Fr 0 w (pv l) l.2.2
def Dis (v vo : Value) : Prop := ∀ b, v.ownBlock = some b → vo.ownBlock ≠ some b
section
variable {ops : Array Oper} {rest : List Oper} {o : Oper} {a : Act} {Q : Exit → Act → World → Prop}
/-- 'ls = append(ls, p)', where another list of the call's own stands by -/
theorem wpL_px {W : World} {B : Nat} {v vo : Value} {ls lo : List Pt} {E : Pt → Prop} (p : Pt) (hgd : o.guard = none) (s x : Operand) (ho : o.op = .call { callee := .builtin .append, args := #[s, x], argTypes := #[22, 22] }) (hs : a.eval s = v) (hx : a.eval x = .slice (some ⟨W.heap.size, 0, none⟩) 1 1)
    (h : Ol B W v ls) (h2 : Ol B W vo lo) (hF : Fe W E) (hS : Sep v E) (hD : Dis v vo) (hB : B ≤ W.heap.size) (hl : ls.length < 5000000000000)
    (k : ∀ v1 w1, Ol B w1 v1 (ls ++ [p]) → Ol B w1 vo lo → Fe w1 E → Sep v1 E → Dis v1 vo → Below B W w1 → wpList Tryd.prog ops Q rest (a.put o.dst v1) w1) : wpList Tryd.prog ops Q (o :: rest) a (W.alloc (.cells #[pv p] 24)) := by
  refine print_append (P := Tryd.prog) B hgd s x 22 24 (.slice none 0 0) 24 ho Tryd.underlying22 info24 rfl (by omega) v (ls.map pv) (pv p) hs hx rfl (by rw [List.length_map]; exact h) (Below.refl _ _) hB (by rw [List.length_map]; omega) ?_
  intro v1 w1 hO hb hg hat
  refine k v1 w1 (by unfold Ol; simpa using hO) ?_ (fun l hl' => Fr.grown (hF l hl') hg (hS l hl')) ?_ ?_ hb
  · refine World.ownsRow.kept h2 hg ?_
    cases hb : vo.ownBlock with
    | none => exact .inl rfl
    | some k => exact .inr (fun e => hD k e.symm hb)
  · intro l hl' ad ha hn
    rcases hat with e | ⟨b, e, hb'⟩
    · rw [e]; exact hS l hl' ad ha hn
    · rw [e]
      intro e'
      injection e' with e'
      obtain ⟨A', c', hv', _, hbs, _⟩ := hF l hl'
      have e1 : A' = some ad := by unfold pv at hv'; injection hv' with e2; rw [← e2, ha]
      have := fr_lt hbs ad e1 hn
      omega
  · intro b hb1
    rcases hat with e | ⟨b', e, hb'⟩
    · exact hD b (by rw [← e]; exact hb1)
    · intro hvo
      rw [e] at hb1
      injection hb1 with hb1
      have := own_lt h2 b hvo
      omega
end
theorem Dis.symm {v vo : Value} (h : Dis v vo) : Dis vo v := fun b h1 h2 => h b h2 h1
structure Px (B : Nat) (w : World) (v3 v4 : Value) (l1 l2 : List Pt) (E : Pt → Prop) : Prop where
  o3 : Ol B w v3 l1
  o4 : Ol B w v4 l2
  fe : Fe w E
  s3 : Sep v3 E
  s4 : Sep v4 E
  dis : Dis v3 v4
  e1 : ∀ l ∈ l1, E l
  e2 : ∀ l ∈ l2, E l
theorem Px.ext {B : Nat} {w w' : World} {v3 v4 : Value} {l1 l2 : List Pt} {E : Pt → Prop} (h : Px B w v3 v4 l1 l2 E) (hE : Ext w w') : Px B w' v3 v4 l1 l2 E :=
  ⟨pw_own_below h.o3 hE, pw_own_below h.o4 hE, fun l hl => (h.fe l hl).ext hE, h.s3, h.s4, h.dis, h.e1, h.e2⟩
theorem Px.nil (B : Nat) (w : World) : Px B w (.slice none 0 0) (.slice none 0 0) [] [] (fun _ => False) :=
  ⟨own_nil _ _ _ _, own_nil _ _ _ _, fun _ h => h.elim, fun _ h => h.elim, fun _ h => h.elim, (fun _ h => by simp [Value.ownBlock] at h), (fun _ h => by cases h), (fun _ h => by cases h)⟩
/-- two parts in a new block come in -/
theorem Px.more {B g c : Nat} {w w' : World} {v3 v4 : Value} {l1 l2 : List Pt} {E : Pt → Prop} {q : List UInt8} (h : Px B w v3 v4 l1 l2 E) (hE : Ext w w') (hg : w.heap.size ≤ g) (hc : q.length + 2 ≤ c) (hb : Bs w' (some ⟨g, 0, none⟩) (q.length + 2) (q ++ [90, 165])) :
    Px B w' v3 v4 l1 l2 (fun l => E l ∨ l = (some ⟨g, 0, none⟩, c, q) ∨ l = (some ⟨g, 0, none⟩, c, q ++ [90, 165])) := by
  have k := h.ext hE
  have hl2 : (q ++ [90, 165]).length = q.length + 2 := by simp
  have sep : ∀ {v : Value} {ls : List Pt}, Ol B w v ls → Sep v E → Sep v (fun l => E l ∨ l = (some ⟨g, 0, none⟩, c, q) ∨ l = (some ⟨g, 0, none⟩, c, q ++ [90, 165])) := by
    intro v ls hO hS l hl ad ha hn
    rcases hl with hl | rfl | rfl
    · exact hS l hl ad ha hn
    · cases ha; intro e; have h9 : g < w.heap.size := own_lt hO _ e; omega
    · cases ha; intro e; have h9 : g < w.heap.size := own_lt hO _ e; omega
  refine ⟨k.o3, k.o4, ?_, sep h.o3 h.s3, sep h.o4 h.s4, k.dis, fun l hl => .inl (h.e1 l hl), fun l hl => .inl (h.e2 l hl)⟩
  intro l hl
  rcases hl with hl | rfl | rfl
  · exact k.fe l hl
  · refine ⟨_, _, rfl, by show q.length ≤ c; omega, ?_, fun _ _ _ => Nat.zero_le _⟩
    have := hb.len ▸ hb
    have h3 := this.take q.length (by omega)
    rw [List.take_left'  rfl] at h3
    exact h3
  · refine ⟨_, _, rfl, by show (q ++ [90, 165]).length ≤ c; omega, by rw [hl2]; exact hb, fun _ _ _ => Nat.zero_le _⟩
theorem Px.pl3 {B : Nat} {w : World} {v3 v4 : Value} {l1 l2 : List Pt} {E : Pt → Prop} (h : Px B w v3 v4 l1 l2 E) : Pl B 0 w v3 l1 := ⟨h.o3, fun l hl => ⟨h.fe l (h.e1 l hl), h.s3 l (h.e1 l hl)⟩⟩
theorem Px.pl4 {B : Nat} {w : World} {v3 v4 : Value} {l1 l2 : List Pt} {E : Pt → Prop} (h : Px B w v3 v4 l1 l2 E) : Pl B 0 w v4 l2 := ⟨h.o4, fun l hl => ⟨h.fe l (h.e2 l hl), h.s4 l (h.e2 l hl)⟩⟩
theorem cell_ext {w w' : World} (hE : Ext w w') {p : Addr} {v : Value} (h : w.cell? p = some v) : w'.cell? p = some v := (hE.cell (Go.World.block_lt_of_cell? _ _ h)).trans h
/-- the k-th of a list of the call's own -/
theorem Pl.at_ {B B' : Nat} {w : World} {v : Value} {ls : List Pt} (h : Pl B B' w v ls) (k : Nat) (hk : k < ls.length) : ∃ ad c A c', v = .slice (some ad) ls.length c ∧ w.cell? (ad.add k) = some (.slice A ls[k].2.2.length c') ∧ ls[k].2.2.length ≤ c' ∧ Bs w A ls[k].2.2.length ls[k].2.2 := by
  obtain ⟨g, cap, e, _, _⟩ := h.1.form (by omega)
  obtain ⟨A', c', hv', hc', hb', _⟩ := (h.2 ls[k] (List.getElem_mem _)).1
  refine ⟨⟨g, 0, none⟩, cap, A', c', e, ?_, hc', hb'⟩
  have := h.1.cells (g := g) (by rw [e]; rfl) k (pv ls[k]) (by simp [hk])
  rw [hv'] at this
  exact this
theorem map_at {α β : Type} {f : α → β} {l : List α} {m : List β} (h : l.map f = m) (k : Nat) (hk : k < l.length) (d : β) : f l[k] = m.getD k d := by
  subst h
  simp [List.getD, hk]
set_option maxHeartbeats 2000000 in
set_option maxRecDepth 100000 in
theorem shaSums_calls (w : World) (P : Option Addr) (pc : Nat) (ps : List (List UInt8)) (hK : KTab w) (hF : FTab w) (hL : LTab w) (hR : RTab w) (hp : Bss w P ps.length ps) (hpc : ps.length ≤ pc) (hpl : ps.flatten.length ≤ 1048576) (hpn : ps.length ≤ 1048576) :
    Calls Tryd.prog 3 #[.slice P ps.length pc] w (fun e w' => e = .returned (.bool true) ∧ Below w.heap.size w w') := by
  have HK := Aside0.mk hK
  have HF := Aside0.mk hF
  have HL := Aside0.mk hL
  have HR := Aside0.mk hR
  have HP := Aside0.mk hp
  clear hK hF hL hR hp
  go_enter Tryd.func3, Tryd.ntmps3
  go_wp2_with fail
  refine (awake_calls w HK.out HF.out HL.out).mono ?_
  rintro e w1 ⟨rfl, hB1⟩
  have HE1 := Aside0.mk (show Ext w w1 from hB1)
  clear hB1
  go_wp2_with fail
  go_loopw [3, 4, 5] (fun v3 v4 i wr => ∃ (k : Nat) (l1 l2 : List Pt) (E : Pt → Prop), k ≤ ps.length ∧ i = .int .i64 k ∧ Ext w wr ∧ Px w.heap.size wr v3 v4 l1 l2 E ∧ l1.map (·.2.2) = ps.take k ∧ l2.map (·.2.2) = (ps.take k).map (· ++ [90, 165])) (fun _ _ i _ => ps.length - (intOf i).toNat)
  case atStart => exact ⟨0, [], [], _, by omega, rfl, HE1.out, Px.nil _ _, rfl, rfl⟩
  case round =>
    obtain ⟨k, l1, l2, E, hk, rfl, hE, hX, hm1, hm2⟩ := hrel
    have HE := Aside0.mk hE
    have HX := Aside0.mk hX
    have HM1 := Aside0.mk hm1
    have HM2 := Aside0.mk hm2
    have hl1 : l1.length = k := by have := congrArg List.length hm1; simp at this; omega
    have hl2 : l2.length = k := by have := congrArg List.length hm2; simp at this; omega
    by_cases hlt : k < ps.length
    · obtain ⟨ad, A', c', rfl, hcell, hc', hbs⟩ := (HP.out.below hE).at_ k hlt
      have hnx : ps.take (k + 1) = ps.take k ++ [ps.getD k []] := by
        rw [List.take_succ_eq_append_getElem hlt]
        simp [List.getD, hlt]
      have hfl1 : (ps.take (k + 1)).flatten.length ≤ ps.flatten.length := by
        conv => rhs; rw [← List.take_append_drop (k + 1) ps, List.flatten_append, List.length_append]
        omega
      obtain ⟨q, hq⟩ : ∃ q, q = ps.getD k [] := ⟨_, rfl⟩
      rw [← hq] at hcell hc' hbs hnx
      have hql : q.length ≤ 1048576 := by rw [hnx, List.flatten_append, List.length_append] at hfl1; simp only [List.flatten_cons, List.flatten_nil, List.append_nil] at hfl1; omega
      have HNX := Aside0.mk hnx
      have HB := Aside0.mk hbs
      have HL1 := Aside0.mk hl1
      have HL2 := Aside0.mk hl2
      have hE0 : (0 : Int) ≤ k ∧ (k : Int) < ps.length ∧ (k : Int) < 1048576 := by omega
      clear hE hX hm1 hm2 hl1 hl2 hnx hbs hq hfl1
      go_wp2_with fail
      refine (copied_calls wr A' c' q HB.out hc' (by omega)).mono ?_
      rintro e w2 ⟨g, c2, rfl, hg, hc2, hb2, hE2⟩
      have hX2 := HX.out.more hE2 hg hc2 hb2
      obtain ⟨q2, hq2⟩ : ∃ q2, q2 = q ++ [90, 165] := ⟨_, rfl⟩
      have hq2l : q.length + 2 = q2.length := by rw [hq2]; simp
      rw [← hq2] at hX2
      have HX2 := Aside0.mk hX2
      have HQ2 := Aside0.mk hq2
      have HE2 := Aside0.mk (HE.out.trans hE2)
      have hwg : w.heap.size ≤ w2.heap.size := HE2.out.size
      rw [hq2l]
      clear hg hb2 hE2 hcell hq2 hX2 hq2l
      go_wp2_with (with_reducible refine gate_dst (N := 31) rfl ?_; refine Aside0.out ?_)
      refine Aside0.mk ?_
      refine wpL_px (some ⟨g, 0, none⟩, c2, q) rfl _ _ rfl rfl rfl HX2.out.o3 HX2.out.o4 HX2.out.fe HX2.out.s3 HX2.out.dis hwg (by rw [HL1.out]; omega) ?_
      intro v3 w3 hO3 hO4 hFe3 hS3 hD3 hB3
      have HX3 := Aside0.mk (show Px w.heap.size w3 v3 _ (l1 ++ [(some ⟨g, 0, none⟩, c2, q)]) l2 _ from ⟨hO3, hO4, hFe3, hS3, HX2.out.s4, hD3, fun l hl => by
        rcases List.mem_append.1 hl with hl | hl
        · exact HX2.out.e1 l hl
        · rw [List.mem_singleton] at hl; exact .inr (.inl hl), HX2.out.e2⟩)
      have HE3 := Aside0.mk (show Ext w w3 from Below.trans HE2.out hB3)
      have hwg3 : w.heap.size ≤ w3.heap.size := HE3.out.size
      clear hO3 hO4 hFe3 hS3 hD3 hB3 hwg HX2
      go_wp2_with (with_reducible refine gate_dst (N := 35) rfl ?_; refine Aside0.out ?_)
      refine Aside0.mk ?_
      refine wpL_px (some ⟨g, 0, none⟩, c2, q2) rfl _ _ rfl rfl rfl HX3.out.o4 HX3.out.o3 HX3.out.fe HX3.out.s4 HX3.out.dis.symm hwg3 (by rw [HL2.out]; omega) ?_
      intro v4 w4 hO4 hO3 hFe4 hS4 hD4 hB4
      have HX4 := Aside0.mk (show Px w.heap.size w4 v3 v4 (l1 ++ [(some ⟨g, 0, none⟩, c2, q)]) (l2 ++ [(some ⟨g, 0, none⟩, c2, q2)]) _ from ⟨hO3, hO4, hFe4, HX3.out.s3, hS4, hD4.symm, HX3.out.e1, fun l hl => by
        rcases List.mem_append.1 hl with hl | hl
        · exact HX3.out.e2 l hl
        · rw [List.mem_singleton] at hl; exact .inr (.inr hl)⟩)
      have HE4 := Aside0.mk (show Ext w w4 from Below.trans HE3.out hB4)
      clear hO3 hO4 hFe4 hS4 hD4 hB4 hwg3 HX3
      go_wp2
      go_roundw
      case rel => exact ⟨k + 1, _, _, _, by omega, by simp, HE4.out, HX4.out, by rw [List.map_append, HM1.out, HNX.out]; rfl, by rw [List.map_append, HM2.out, HNX.out, List.map_append, HQ2.out]; rfl⟩
      case measure => simp [intOf]; omega
    · obtain rfl : k = ps.length := by omega
      rw [List.take_length] at hm1 hm2
      have HN1 := Aside0.mk hm1
      have HN2 := Aside0.mk hm2
      have HL1 := Aside0.mk hl1
      have HL2 := Aside0.mk hl2
      have HPr := Aside0.mk (HP.out.below hE)
      clear hE hX hm1 hm2 hl1 hl2 HM1 HM2
      go_wp2_with fail
      refine (join_calls wr P pc ps HPr.out (by omega) (by omega)).mono ?_
      rintro e w2 ⟨vj, rfl, hO2, hE2⟩
      obtain ⟨Aj, cj, rfl, hcj, hbj⟩ := hO2.open
      obtain ⟨fl, hfl⟩ : ∃ fl, fl = ps.flatten := ⟨_, rfl⟩
      rw [← hfl] at hcj hbj ⊢ hpl
      have HFL := Aside0.mk hfl
      have HBJ := Aside0.mk hbj
      have HE2 := Aside0.mk (HE.out.trans hE2)
      have HX2 := Aside0.mk (HX.out.ext hE2)
      clear hE2 hO2 hbj hfl
      go_wp2_with fail
      refine (refSum_calls w2 Aj cj fl (HR.out.ext HE2.out) HBJ.out hcj (by omega)).mono ?_
      rintro e w3 ⟨rfl, hE3⟩
      obtain ⟨dl, hdl⟩ : ∃ dl, dl = (Spec.digest fl).map cell := ⟨_, rfl⟩
      rw [show hashV (Spec.digest fl) = .agg dl.toArray by rw [hdl]; rfl]
      have HDL := Aside0.mk hdl
      have HDZ := Aside0.mk (show dl.toArray.size = 32 by rw [hdl]; simp [Spec.digest_length])
      have HDO := Aside0.mk (show dl.toArray.all (·.oneCell') = true by rw [hdl]; exact oneCells _)
      have HE3 := Aside0.mk (HE2.out.trans hE3)
      have HX3 := Aside0.mk (HX2.out.ext hE3)
      clear hE3 hdl
      go_wp2_with (with_reducible change wpList _ _ _ (Oper.mk _ (Op.store 28 _ _) _ _ _ _ :: _) _ _; refine Aside0.out ?_)
      refine Aside0.mk ?_
      refine wpList_store_row rfl 28 _ _ rfl w3.heap.size dl.toArray rfl rfl 28 (z8 32).toArray (heap_alloc_new _ _) (by rw [HDZ.out]; kernel_rfl) (by rw [HDZ.out]; rfl) HDO.out ?_
      have hEr : Ext w3 ((w3.alloc (.cells (z8 32).toArray 28)).setRow w3.heap.size dl.toArray) := below_alloc_setRow _ _ _
      obtain ⟨G8, hG8⟩ : ∃ G8, G8 = w3.heap.size := ⟨_, rfl⟩
      refine wpList_world (fun w4 => Ext w w4 ∧ Px w.heap.size w4 _ _ l1 l2 E ∧ Row w4 G8 dl 28) ⟨HE3.out.trans hEr, HX3.out.ext hEr, by rw [hG8]; exact alloc_setRow _ _ _ _⟩ ?_
      rintro w4 ⟨hE4, hX4, hR4⟩
      rw [← hG8]
      have HE4 := Aside0.mk hE4
      have HX4 := Aside0.mk hX4
      have HR4 := Aside0.mk hR4
      clear hE4 hX4 hR4 hEr hG8
      obtain ⟨A3, c3, e3, hc3, hb3⟩ := HX4.out.pl3.bss
      rw [HN1.out, HL1.out] at hb3
      rw [HL1.out] at e3 hc3
      subst e3
      have HB3 := Aside0.mk hb3
      clear hb3
      go_wp2_with fail
      have hcall := shaSum_calls w4 A3 c3 ps (HK.out.ext HE4.out) (HF.out.ext HE4.out) HB3.out (by rw [← HFL.out]; omega)
      refine hcall.mono ?_
      rintro e w5 ⟨rfl, hE5⟩
      rw [← HFL.out, show hashV (Spec.digest fl) = .agg dl.toArray by rw [HDL.out]; rfl]
      have HE5 := Aside0.mk (HE4.out.trans hE5)
      have HX5 := Aside0.mk (HX4.out.ext hE5)
      have HR5 := Aside0.mk (HR4.out.ext hE5)
      clear hE5 hcall
      go_wp2_with (with_reducible change wpList _ _ _ (Oper.mk _ (Op.store 28 _ _) _ _ _ _ :: _) _ _; refine Aside0.out ?_)
      refine Aside0.mk ?_
      refine wpList_store_row rfl 28 _ _ rfl w5.heap.size dl.toArray rfl rfl 28 (z8 32).toArray (heap_alloc_new _ _) (by rw [HDZ.out]; kernel_rfl) (by rw [HDZ.out]; rfl) HDO.out ?_
      have hEr : Ext w5 ((w5.alloc (.cells (z8 32).toArray 28)).setRow w5.heap.size dl.toArray) := below_alloc_setRow _ _ _
      obtain ⟨G9, hG9⟩ : ∃ G9, G9 = w5.heap.size := ⟨_, rfl⟩
      refine wpList_world (fun w6 => Ext w w6 ∧ Px w.heap.size w6 _ _ l1 l2 E ∧ Row w6 G8 dl 28 ∧ Row w6 G9 dl 28) ⟨HE5.out.trans hEr, HX5.out.ext hEr, HR5.out.ext hEr, by rw [hG9]; exact alloc_setRow _ _ _ _⟩ ?_
      rintro w6 ⟨hE6, hX6, hR6, hR6'⟩
      rw [← hG9]
      have HE6 := Aside0.mk hE6
      have HX6 := Aside0.mk hX6
      have HR6 := Aside0.mk hR6
      have HR6' := Aside0.mk hR6'
      have heq := eq28 w6 (Spec.digest fl) (Spec.digest fl) (Spec.digest_length _) (Spec.digest_length _)
      rw [beq_self_eq_true, ← HDL.out] at heq
      have HEQ := Aside0.mk heq
      clear hE6 hX6 hR6 hR6' hEr hG9 heq
      go_wp2_with (with_reducible refine gate_dst (N := 41) rfl ?_; refine Aside0.out ?_)
      refine Aside0.mk ?_
      refine wpList_load_row rfl 28 _ rfl G9 rfl 28 dl.toArray (0, 0) _ HR6'.out Tryd.underlying28 rfl (by rw [HDZ.out]; kernel_rfl) ?_
      refine wpList_load_row rfl 28 _ rfl G8 rfl 28 dl.toArray (0, 0) _ HR6.out Tryd.underlying28 rfl (by rw [HDZ.out]; kernel_rfl) ?_
      refine wpL_val (.bool false) (w1 := w6) (by rfl) (by simp [execOp, Act.eval, Act.put, HEQ.out, go_sem]) ?_
      go_wp2_with fail
      go_loopw [10] (fun i wr => ∃ (k : Nat), k ≤ ps.length ∧ i = .int .i64 k ∧ Ext w wr ∧ Px w.heap.size wr (.slice A3 ps.length c3) _ l1 l2 E) (fun i _ => ps.length - (intOf i).toNat)
      case atStart => exact ⟨0, by omega, rfl, HE6.out, HX6.out⟩
      case round =>
        obtain ⟨k, hk, rfl, hE, hX⟩ := hrel
        have HE := Aside0.mk hE
        have HX := Aside0.mk hX
        by_cases hlt : k < ps.length
        · obtain ⟨ad, A', c', rfl, hcell, hc', hbs⟩ := (HP.out.below hE).at_ k hlt
          obtain ⟨a4, c4, Ar, cr, e4, h4, hcr, hbr⟩ := hX.pl4.at_ k (by rw [HL2.out]; exact hlt)
          obtain ⟨a3, c3', Ai, ci, e3, h3, hci, hbi⟩ := hX.pl3.at_ k (by rw [HL1.out]; exact hlt)
          rw [HL2.out] at e4
          rw [HL1.out] at e3
          injection e3 with e31 e32 e33
          subst e31 e33 e4
          rw [map_at HN2.out k (by rw [HL2.out]; exact hlt) []] at h4 hcr hbr
          rw [map_at HN1.out k (by rw [HL1.out]; exact hlt) []] at h3 hci hbi
          rw [show (ps.map (· ++ [90, 165])).getD k [] = ps.getD k [] ++ [90, 165] by simp [List.getD, hlt]] at h4 hcr hbr
          have hfl1 : (ps.getD k []).length ≤ ps.flatten.length := by
            conv => rhs; rw [← List.take_append_drop k ps, List.drop_eq_getElem_cons hlt, List.flatten_append, List.flatten_cons, List.length_append, List.length_append]
            simp only [List.getD, List.getElem?_eq_getElem hlt, Option.getD_some]
            omega
          rw [← HFL.out] at hfl1
          obtain ⟨q, hq⟩ : ∃ q, q = ps.getD k [] := ⟨_, rfl⟩
          rw [← hq] at hcell hc' hbs h4 hcr hbr h3 hci hbi hfl1
          obtain ⟨q2, hq2⟩ : ∃ q2, q2 = q ++ [90, 165] := ⟨_, rfl⟩
          rw [← hq2] at h4 hcr hbr
          have hq2l : q2.length = q.length + 2 := by rw [hq2]; simp
          obtain ⟨ar, rfl, h90⟩ := hbr.cell q.length (by omega)
          obtain ⟨_, e', h165⟩ := hbr.cell (q.length + 1) (by omega)
          cases e'
          have e90 : q2.getD q.length 0 = 90 := by rw [hq2]; simp [List.getD]
          have e165 : q2.getD (q.length + 1) 0 = 165 := by rw [hq2]; simp [List.getD]
          rw [e90] at h90
          rw [e165] at h165
          obtain ⟨i5, hi5, _, hsz, _⟩ := i5
          have hcut := cut_to (P := Tryd.prog) 24 5 .i64 Tryd.underlying24 hi5 (some ar) q2.length cr (q.length : Int) (by omega) (by omega) hcr
          rw [Int.toNat_natCast] at hcut
          have HCUT := Aside0.mk hcut
          have hrq := hbr.take q.length (by omega)
          rw [hq2, List.take_left' rfl] at hrq
          obtain ⟨m1, hm1⟩ : ∃ m1, m1 = q.length + 1 := ⟨_, rfl⟩
          rw [← hm1] at h165
          have HW1 := Aside0.mk (show IntKind.i64.wrap ((q.length : Int) + 1) = (m1 : Int) by rw [wrap64 _ (by omega) (by omega), hm1]; rfl)
          have HRQ := Aside0.mk hrq
          have HBQ := Aside0.mk hbs
          have H4 := Aside0.mk h4
          have H3 := Aside0.mk h3
          have H0 := Aside0.mk hcell
          have H90 := Aside0.mk (show wr.cell? (ar.add q.length) = some (.int .u8 90) from h90)
          have H165 := Aside0.mk (show wr.cell? (ar.add m1) = some (.int .u8 165) from h165)
          have b4 : (0 : Int) ≤ k ∧ (k : Int) < ps.length ∧ (k : Int) < 1048576 := by omega
          have b5 : (0 : Int) ≤ q.length ∧ (q.length : Int) < q2.length := by omega
          have b6 : (0 : Int) ≤ m1 ∧ (m1 : Int) < q2.length := by omega
          clear hE hX e90 e165 hbs hbr hbi hcr hci h4 h3 h90 h165 hcut hrq hq hq2 hq2l hm1 hi5 hsz hc'
          go_wp2_with fail
          refine ext_region 42 [(0, 55), (1, 56), (2, 57), (3, 58), (4, 59), (5, 60), (6, 61), (7, 62), (8, 63), (9, 64), (10, 65), (11, 66), (12, 67), (13, 68), (14, 69), (15, 70), (16, 71), (17, 72), (18, 73), (19, 74), (20, 75), (21, 76), (22, 77), (23, 78), (24, 79), (25, 80), (26, 81), (27, 82), (28, 83), (29, 84), (30, 85), (31, 86), (32, 87), (33, 88), (34, 89), (35, 90), (36, 91), (37, 92), (38, 93), (39, 94), (40, 95), (41, 96)] [0, 1, 2, 3, 4, 5, 6, 7, 8, 9, 10, 11, 12, 13, 14, 15, 16, 17, 18, 19, 20, 21, 22, 23, 24, 25, 26, 27, 28, 29, 30, 31, 32, 33, 34, 35, 36, 37, 38, 39, 40, 41] (fun i w v => match i with | 0 => v = .slice (some a4) ps.length c4 | 1 => v = .int .i64 k | 2 => v = .pointer (some (a4.add k)) | 3 => v = .slice (some ar) q2.length cr | 4 => v = .int .i64 q.length | 5 => v = .slice (some ar) q.length cr | 6 => v = .slice (some ad) ps.length pc | 7 => v = .int .i64 k | 8 => v = .pointer (some (ad.add k)) | 9 => v = .slice A' q.length c' | 10 => v = .bool true | 11 => v = .bool false | 12 => v = .bool false | 13 => v = .slice (some a4) ps.length c4 | 14 => v = .int .i64 k | 15 => v = .pointer (some (a4.add k)) | 16 => v = .slice (some ar) q2.length cr | 17 => v = .int .i64 q.length | 18 => v = .pointer (some (ar.add q.length)) | 19 => v = .int .u8 90 | 20 => v = .bool false | 21 => v = .bool false | 22 => v = .bool false | 23 => v = .slice (some a4) ps.length c4 | 24 => v = .int .i64 k | 25 => v = .pointer (some (a4.add k)) | 26 => v = .slice (some ar) q2.length cr | 27 => v = .int .i64 q.length | 28 => v = .int .i64 (m1 : Int) | 29 => v = .pointer (some (ar.add m1)) | 30 => v = .int .u8 165 | 31 => v = .bool false | 32 => v = .bool false | 33 => v = .bool false | 34 => v = .slice (some a3) ps.length c3 | 35 => v = .int .i64 k | 36 => v = .pointer (some (a3.add k)) | 37 => v = .slice Ai q.length ci | 38 => v = .int .i64 q.length | 39 => v = .int .i64 q.length | 40 => v = .bool false | 41 => v = .bool false | _ => True) (by kernel_rfl) (by kernel_rfl) (by rfl) rfl ?mono19 ?steps19 ?fin19
          case mono19 =>
            intro i w w' v h hE
            match i with
            | 0 => exact h
            | 1 => exact h
            | 2 => exact h
            | 3 => exact h
            | 4 => exact h
            | 5 => exact h
            | 6 => exact h
            | 7 => exact h
            | 8 => exact h
            | 9 => exact h
            | 10 => exact h
            | 11 => exact h
            | 12 => exact h
            | 13 => exact h
            | 14 => exact h
            | 15 => exact h
            | 16 => exact h
            | 17 => exact h
            | 18 => exact h
            | 19 => exact h
            | 20 => exact h
            | 21 => exact h
            | 22 => exact h
            | 23 => exact h
            | 24 => exact h
            | 25 => exact h
            | 26 => exact h
            | 27 => exact h
            | 28 => exact h
            | 29 => exact h
            | 30 => exact h
            | 31 => exact h
            | 32 => exact h
            | 33 => exact h
            | 34 => exact h
            | 35 => exact h
            | 36 => exact h
            | 37 => exact h
            | 38 => exact h
            | 39 => exact h
            | 40 => exact h
            | 41 => exact h
            | _ + 42 => trivial
          case steps19 =>
            refine stepE_cons ⟨_, rfl, fun a w hE hH => ?_⟩ ?_
            ·
              have e4 : a.tmps[4]? = some (.slice (some a4) ps.length c4) := hH.old 4 rfl
              exact Or.inl ⟨rfl, goodE_move _ rfl (eval_of e4) rfl⟩
            refine stepE_cons ⟨_, rfl, fun a w hE hH => ?_⟩ ?_
            ·
              have e10 : a.tmps[10]? = some (.int .i64 k) := hH.old 10 rfl
              exact Or.inl ⟨rfl, goodE_move _ rfl (eval_of e10) rfl⟩
            refine stepE_cons ⟨_, rfl, fun a w hE hH => ?_⟩ ?_
            ·
              obtain ⟨v55, e55, g55⟩ := hH.dep 0 55 rfl (by kernel_rfl)
              have q55 : v55 = .slice (some a4) ps.length c4 := g55
              subst q55
              obtain ⟨v56, e56, g56⟩ := hH.dep 1 56 rfl (by kernel_rfl)
              have q56 : v56 = .int .i64 k := g56
              subst q56
              exact Or.inl ⟨(rfl), goodE_val (.pointer (some (a4.add k))) (by simp [execOp, Act.eval, e55, e56, go_sem, b4]) rfl⟩
            refine stepE_cons ⟨_, rfl, fun a w hE hH => ?_⟩ ?_
            ·
              obtain ⟨v57, e57, g57⟩ := hH.dep 2 57 rfl (by kernel_rfl)
              have q57 : v57 = .pointer (some (a4.add k)) := g57
              subst q57
              exact Or.inl ⟨(rfl), goodE_val (.slice (some ar) q2.length cr) (by simp [execOp, Act.eval, e57, go_sem, cell_ext ((Ext.to_drew _).trans hE) H4.out]) rfl⟩
            refine stepE_cons ⟨_, rfl, fun a w hE hH => ?_⟩ ?_
            ·
              have e11 : a.tmps[11]? = some (.int .i64 q.length) := hH.old 11 rfl
              exact Or.inl ⟨rfl, goodE_move _ rfl (eval_of e11) rfl⟩
            refine stepE_cons ⟨_, rfl, fun a w hE hH => ?_⟩ ?_
            ·
              obtain ⟨v58, e58, g58⟩ := hH.dep 3 58 rfl (by kernel_rfl)
              have q58 : v58 = .slice (some ar) q2.length cr := g58
              subst q58
              obtain ⟨v59, e59, g59⟩ := hH.dep 4 59 rfl (by kernel_rfl)
              have q59 : v59 = .int .i64 q.length := g59
              subst q59
              exact Or.inl ⟨(rfl), goodE_val (.slice (some ar) q.length cr) (exec_slice rfl (by simp only [Option.map_some, Option.map_none, eval_of e58, eval_of e59]; exact HCUT.out w)) rfl⟩
            refine stepE_cons ⟨_, rfl, fun a w hE hH => ?_⟩ ?_
            ·
              have e0 : a.tmps[0]? = some (.slice (some ad) ps.length pc) := hH.old 0 rfl
              exact Or.inl ⟨rfl, goodE_move _ rfl (eval_of e0) rfl⟩
            refine stepE_cons ⟨_, rfl, fun a w hE hH => ?_⟩ ?_
            ·
              have e10 : a.tmps[10]? = some (.int .i64 k) := hH.old 10 rfl
              exact Or.inl ⟨rfl, goodE_move _ rfl (eval_of e10) rfl⟩
            refine stepE_cons ⟨_, rfl, fun a w hE hH => ?_⟩ ?_
            ·
              obtain ⟨v61, e61, g61⟩ := hH.dep 6 61 rfl (by kernel_rfl)
              have q61 : v61 = .slice (some ad) ps.length pc := g61
              subst q61
              obtain ⟨v62, e62, g62⟩ := hH.dep 7 62 rfl (by kernel_rfl)
              have q62 : v62 = .int .i64 k := g62
              subst q62
              exact Or.inl ⟨(rfl), goodE_val (.pointer (some (ad.add k))) (by simp [execOp, Act.eval, e61, e62, go_sem, b4]) rfl⟩
            refine stepE_cons ⟨_, rfl, fun a w hE hH => ?_⟩ ?_
            ·
              obtain ⟨v63, e63, g63⟩ := hH.dep 8 63 rfl (by kernel_rfl)
              have q63 : v63 = .pointer (some (ad.add k)) := g63
              subst q63
              exact Or.inl ⟨(rfl), goodE_val (.slice A' q.length c') (by simp [execOp, Act.eval, e63, go_sem, cell_ext ((Ext.to_drew _).trans hE) H0.out]) rfl⟩
            refine stepE_cons ⟨_, rfl, fun a w hE hH => ?_⟩ ?_
            ·
              obtain ⟨v60, e60, g60⟩ := hH.dep 5 60 rfl (by kernel_rfl)
              have q60 : v60 = .slice (some ar) q.length cr := g60
              subst q60
              obtain ⟨v64, e64, g64⟩ := hH.dep 9 64 rfl (by kernel_rfl)
              have q64 : v64 = .slice A' q.length c' := g64
              subst q64
              exact Or.inl ⟨(rfl), goodE_call rfl #[.slice (some ar) q.length cr, .slice A' q.length c'] (by simp [Act.eval, e60, e64]) _ Tryd.func17 (by kernel_rfl) (by kernel_rfl) ((same_calls w (some ar) A' cr c' q (HRQ.out.ext ((Ext.to_drew _).trans hE)) (HBQ.out.ext ((Ext.to_drew _).trans hE))).mono (fun e w' h => ⟨_, h.1, h.2, rfl⟩))⟩
            refine stepE_cons ⟨_, rfl, fun a w hE hH => ?_⟩ ?_
            ·
              obtain ⟨v65, e65, g65⟩ := hH.dep 10 65 rfl (by kernel_rfl)
              have q65 : v65 = .bool true := g65
              subst q65
              exact Or.inl ⟨rfl, goodE_val (.bool false) (by simp [execOp, Act.eval, e65, go_sem]) rfl⟩
            refine stepE_cons ⟨_, rfl, fun a w hE hH => ?_⟩ ?_
            ·
              obtain ⟨v66, e66, g66⟩ := hH.dep 11 66 rfl (by kernel_rfl)
              exact Or.inl ⟨rfl, goodE_move v66 rfl (eval_of e66) g66⟩
            refine stepE_cons ⟨_, rfl, fun a w hE hH => ?_⟩ ?_
            ·
              have e4 : a.tmps[4]? = some (.slice (some a4) ps.length c4) := hH.old 4 rfl
              obtain ⟨v67, e67, g67⟩ := hH.dep 12 67 rfl (by kernel_rfl)
              have q67 : v67 = .bool false := g67
              subst q67
              exact Or.inl ⟨wanted_on rfl rfl rfl e67, goodE_move _ rfl (eval_of e4) rfl⟩
            refine stepE_cons ⟨_, rfl, fun a w hE hH => ?_⟩ ?_
            ·
              have e10 : a.tmps[10]? = some (.int .i64 k) := hH.old 10 rfl
              obtain ⟨v67, e67, g67⟩ := hH.dep 12 67 rfl (by kernel_rfl)
              have q67 : v67 = .bool false := g67
              subst q67
              exact Or.inl ⟨wanted_on rfl rfl rfl e67, goodE_move _ rfl (eval_of e10) rfl⟩
            refine stepE_cons ⟨_, rfl, fun a w hE hH => ?_⟩ ?_
            ·
              obtain ⟨v68, e68, g68⟩ := hH.dep 13 68 rfl (by kernel_rfl)
              have q68 : v68 = .slice (some a4) ps.length c4 := g68
              subst q68
              obtain ⟨v69, e69, g69⟩ := hH.dep 14 69 rfl (by kernel_rfl)
              have q69 : v69 = .int .i64 k := g69
              subst q69
              obtain ⟨v67, e67, g67⟩ := hH.dep 12 67 rfl (by kernel_rfl)
              have q67 : v67 = .bool false := g67
              subst q67
              exact Or.inl ⟨(wanted_on rfl rfl rfl e67), goodE_val (.pointer (some (a4.add k))) (by simp [execOp, Act.eval, e68, e69, go_sem, b4]) rfl⟩
            refine stepE_cons ⟨_, rfl, fun a w hE hH => ?_⟩ ?_
            ·
              obtain ⟨v70, e70, g70⟩ := hH.dep 15 70 rfl (by kernel_rfl)
              have q70 : v70 = .pointer (some (a4.add k)) := g70
              subst q70
              obtain ⟨v67, e67, g67⟩ := hH.dep 12 67 rfl (by kernel_rfl)
              have q67 : v67 = .bool false := g67
              subst q67
              exact Or.inl ⟨(wanted_on rfl rfl rfl e67), goodE_val (.slice (some ar) q2.length cr) (by simp [execOp, Act.eval, e70, go_sem, cell_ext ((Ext.to_drew _).trans hE) H4.out]) rfl⟩
            refine stepE_cons ⟨_, rfl, fun a w hE hH => ?_⟩ ?_
            ·
              have e11 : a.tmps[11]? = some (.int .i64 q.length) := hH.old 11 rfl
              obtain ⟨v67, e67, g67⟩ := hH.dep 12 67 rfl (by kernel_rfl)
              have q67 : v67 = .bool false := g67
              subst q67
              exact Or.inl ⟨wanted_on rfl rfl rfl e67, goodE_move _ rfl (eval_of e11) rfl⟩
            refine stepE_cons ⟨_, rfl, fun a w hE hH => ?_⟩ ?_
            ·
              obtain ⟨v71, e71, g71⟩ := hH.dep 16 71 rfl (by kernel_rfl)
              have q71 : v71 = .slice (some ar) q2.length cr := g71
              subst q71
              obtain ⟨v72, e72, g72⟩ := hH.dep 17 72 rfl (by kernel_rfl)
              have q72 : v72 = .int .i64 q.length := g72
              subst q72
              obtain ⟨v67, e67, g67⟩ := hH.dep 12 67 rfl (by kernel_rfl)
              have q67 : v67 = .bool false := g67
              subst q67
              exact Or.inl ⟨(wanted_on rfl rfl rfl e67), goodE_val (.pointer (some (ar.add q.length))) (by simp [execOp, Act.eval, e71, e72, go_sem, b5]) rfl⟩
            refine stepE_cons ⟨_, rfl, fun a w hE hH => ?_⟩ ?_
            ·
              obtain ⟨v73, e73, g73⟩ := hH.dep 18 73 rfl (by kernel_rfl)
              have q73 : v73 = .pointer (some (ar.add q.length)) := g73
              subst q73
              obtain ⟨v67, e67, g67⟩ := hH.dep 12 67 rfl (by kernel_rfl)
              have q67 : v67 = .bool false := g67
              subst q67
              exact Or.inl ⟨(wanted_on rfl rfl rfl e67), goodE_val (.int .u8 90) (by simp [execOp, Act.eval, e73, go_sem, cell_ext ((Ext.to_drew _).trans hE) H90.out]) rfl⟩
            refine stepE_cons ⟨_, rfl, fun a w hE hH => ?_⟩ ?_
            ·
              obtain ⟨v74, e74, g74⟩ := hH.dep 19 74 rfl (by kernel_rfl)
              have q74 : v74 = .int .u8 90 := g74
              subst q74
              obtain ⟨v67, e67, g67⟩ := hH.dep 12 67 rfl (by kernel_rfl)
              have q67 : v67 = .bool false := g67
              subst q67
              exact Or.inl ⟨wanted_on rfl rfl rfl e67, goodE_val (.bool false) (by simp [execOp, Act.eval, e74, e67, go_sem]) rfl⟩
            refine stepE_cons ⟨_, rfl, fun a w hE hH => ?_⟩ ?_
            ·
              obtain ⟨v67, e67, g67⟩ := hH.dep 12 67 rfl (by kernel_rfl)
              have q67 : v67 = .bool false := g67
              subst q67
              obtain ⟨v75, e75, g75⟩ := hH.dep 20 75 rfl (by kernel_rfl)
              have q75 : v75 = .bool false := g75
              subst q75
              exact Or.inl ⟨rfl, goodE_pick _ (.bool false) rfl (eval_of e67) (by simp [Act.eval, e75, e67]) rfl⟩
            refine stepE_cons ⟨_, rfl, fun a w hE hH => ?_⟩ ?_
            ·
              obtain ⟨v76, e76, g76⟩ := hH.dep 21 76 rfl (by kernel_rfl)
              exact Or.inl ⟨rfl, goodE_move v76 rfl (eval_of e76) g76⟩
            refine stepE_cons ⟨_, rfl, fun a w hE hH => ?_⟩ ?_
            ·
              have e4 : a.tmps[4]? = some (.slice (some a4) ps.length c4) := hH.old 4 rfl
              obtain ⟨v77, e77, g77⟩ := hH.dep 22 77 rfl (by kernel_rfl)
              have q77 : v77 = .bool false := g77
              subst q77
              exact Or.inl ⟨wanted_on rfl rfl rfl e77, goodE_move _ rfl (eval_of e4) rfl⟩
            refine stepE_cons ⟨_, rfl, fun a w hE hH => ?_⟩ ?_
            ·
              have e10 : a.tmps[10]? = some (.int .i64 k) := hH.old 10 rfl
              obtain ⟨v77, e77, g77⟩ := hH.dep 22 77 rfl (by kernel_rfl)
              have q77 : v77 = .bool false := g77
              subst q77
              exact Or.inl ⟨wanted_on rfl rfl rfl e77, goodE_move _ rfl (eval_of e10) rfl⟩
            refine stepE_cons ⟨_, rfl, fun a w hE hH => ?_⟩ ?_
            ·
              obtain ⟨v78, e78, g78⟩ := hH.dep 23 78 rfl (by kernel_rfl)
              have q78 : v78 = .slice (some a4) ps.length c4 := g78
              subst q78
              obtain ⟨v79, e79, g79⟩ := hH.dep 24 79 rfl (by kernel_rfl)
              have q79 : v79 = .int .i64 k := g79
              subst q79
              obtain ⟨v77, e77, g77⟩ := hH.dep 22 77 rfl (by kernel_rfl)
              have q77 : v77 = .bool false := g77
              subst q77
              exact Or.inl ⟨(wanted_on rfl rfl rfl e77), goodE_val (.pointer (some (a4.add k))) (by simp [execOp, Act.eval, e78, e79, go_sem, b4]) rfl⟩
            refine stepE_cons ⟨_, rfl, fun a w hE hH => ?_⟩ ?_
            ·
              obtain ⟨v80, e80, g80⟩ := hH.dep 25 80 rfl (by kernel_rfl)
              have q80 : v80 = .pointer (some (a4.add k)) := g80
              subst q80
              obtain ⟨v77, e77, g77⟩ := hH.dep 22 77 rfl (by kernel_rfl)
              have q77 : v77 = .bool false := g77
              subst q77
              exact Or.inl ⟨(wanted_on rfl rfl rfl e77), goodE_val (.slice (some ar) q2.length cr) (by simp [execOp, Act.eval, e80, go_sem, cell_ext ((Ext.to_drew _).trans hE) H4.out]) rfl⟩
            refine stepE_cons ⟨_, rfl, fun a w hE hH => ?_⟩ ?_
            ·
              have e11 : a.tmps[11]? = some (.int .i64 q.length) := hH.old 11 rfl
              obtain ⟨v77, e77, g77⟩ := hH.dep 22 77 rfl (by kernel_rfl)
              have q77 : v77 = .bool false := g77
              subst q77
              exact Or.inl ⟨wanted_on rfl rfl rfl e77, goodE_move _ rfl (eval_of e11) rfl⟩
            refine stepE_cons ⟨_, rfl, fun a w hE hH => ?_⟩ ?_
            ·
              obtain ⟨v82, e82, g82⟩ := hH.dep 27 82 rfl (by kernel_rfl)
              have q82 : v82 = .int .i64 q.length := g82
              subst q82
              obtain ⟨v77, e77, g77⟩ := hH.dep 22 77 rfl (by kernel_rfl)
              have q77 : v77 = .bool false := g77
              subst q77
              exact Or.inl ⟨(wanted_on rfl rfl rfl e77), goodE_val (.int .i64 (m1 : Int)) (by simp [execOp, Act.eval, e82, go_sem]; exact HW1.out) rfl⟩
            refine stepE_cons ⟨_, rfl, fun a w hE hH => ?_⟩ ?_
            ·
              obtain ⟨v81, e81, g81⟩ := hH.dep 26 81 rfl (by kernel_rfl)
              have q81 : v81 = .slice (some ar) q2.length cr := g81
              subst q81
              obtain ⟨v83, e83, g83⟩ := hH.dep 28 83 rfl (by kernel_rfl)
              have q83 : v83 = .int .i64 (m1 : Int) := g83
              subst q83
              obtain ⟨v77, e77, g77⟩ := hH.dep 22 77 rfl (by kernel_rfl)
              have q77 : v77 = .bool false := g77
              subst q77
              exact Or.inl ⟨(wanted_on rfl rfl rfl e77), goodE_val (.pointer (some (ar.add m1))) (by simp [execOp, Act.eval, e81, e83, go_sem, b6]) rfl⟩
            refine stepE_cons ⟨_, rfl, fun a w hE hH => ?_⟩ ?_
            ·
              obtain ⟨v84, e84, g84⟩ := hH.dep 29 84 rfl (by kernel_rfl)
              have q84 : v84 = .pointer (some (ar.add m1)) := g84
              subst q84
              obtain ⟨v77, e77, g77⟩ := hH.dep 22 77 rfl (by kernel_rfl)
              have q77 : v77 = .bool false := g77
              subst q77
              exact Or.inl ⟨(wanted_on rfl rfl rfl e77), goodE_val (.int .u8 165) (by simp [execOp, Act.eval, e84, go_sem, cell_ext ((Ext.to_drew _).trans hE) H165.out]) rfl⟩
            refine stepE_cons ⟨_, rfl, fun a w hE hH => ?_⟩ ?_
            ·
              obtain ⟨v85, e85, g85⟩ := hH.dep 30 85 rfl (by kernel_rfl)
              have q85 : v85 = .int .u8 165 := g85
              subst q85
              obtain ⟨v77, e77, g77⟩ := hH.dep 22 77 rfl (by kernel_rfl)
              have q77 : v77 = .bool false := g77
              subst q77
              exact Or.inl ⟨wanted_on rfl rfl rfl e77, goodE_val (.bool false) (by simp [execOp, Act.eval, e77, e85, go_sem]) rfl⟩
            refine stepE_cons ⟨_, rfl, fun a w hE hH => ?_⟩ ?_
            ·
              obtain ⟨v77, e77, g77⟩ := hH.dep 22 77 rfl (by kernel_rfl)
              have q77 : v77 = .bool false := g77
              subst q77
              obtain ⟨v86, e86, g86⟩ := hH.dep 31 86 rfl (by kernel_rfl)
              have q86 : v86 = .bool false := g86
              subst q86
              exact Or.inl ⟨rfl, goodE_pick _ (.bool false) rfl (eval_of e77) (by simp [Act.eval, e77, e86]) rfl⟩
            refine stepE_cons ⟨_, rfl, fun a w hE hH => ?_⟩ ?_
            ·
              obtain ⟨v87, e87, g87⟩ := hH.dep 32 87 rfl (by kernel_rfl)
              exact Or.inl ⟨rfl, goodE_move v87 rfl (eval_of e87) g87⟩
            refine stepE_cons ⟨_, rfl, fun a w hE hH => ?_⟩ ?_
            ·
              have e3 : a.tmps[3]? = some (.slice (some a3) ps.length c3) := hH.old 3 rfl
              obtain ⟨v88, e88, g88⟩ := hH.dep 33 88 rfl (by kernel_rfl)
              have q88 : v88 = .bool false := g88
              subst q88
              exact Or.inl ⟨wanted_on rfl rfl rfl e88, goodE_move _ rfl (eval_of e3) rfl⟩
            refine stepE_cons ⟨_, rfl, fun a w hE hH => ?_⟩ ?_
            ·
              have e10 : a.tmps[10]? = some (.int .i64 k) := hH.old 10 rfl
              obtain ⟨v88, e88, g88⟩ := hH.dep 33 88 rfl (by kernel_rfl)
              have q88 : v88 = .bool false := g88
              subst q88
              exact Or.inl ⟨wanted_on rfl rfl rfl e88, goodE_move _ rfl (eval_of e10) rfl⟩
            refine stepE_cons ⟨_, rfl, fun a w hE hH => ?_⟩ ?_
            ·
              obtain ⟨v89, e89, g89⟩ := hH.dep 34 89 rfl (by kernel_rfl)
              have q89 : v89 = .slice (some a3) ps.length c3 := g89
              subst q89
              obtain ⟨v90, e90, g90⟩ := hH.dep 35 90 rfl (by kernel_rfl)
              have q90 : v90 = .int .i64 k := g90
              subst q90
              obtain ⟨v88, e88, g88⟩ := hH.dep 33 88 rfl (by kernel_rfl)
              have q88 : v88 = .bool false := g88
              subst q88
              exact Or.inl ⟨(wanted_on rfl rfl rfl e88), goodE_val (.pointer (some (a3.add k))) (by simp [execOp, Act.eval, e89, e90, go_sem, b4]) rfl⟩
            refine stepE_cons ⟨_, rfl, fun a w hE hH => ?_⟩ ?_
            ·
              obtain ⟨v91, e91, g91⟩ := hH.dep 36 91 rfl (by kernel_rfl)
              have q91 : v91 = .pointer (some (a3.add k)) := g91
              subst q91
              obtain ⟨v88, e88, g88⟩ := hH.dep 33 88 rfl (by kernel_rfl)
              have q88 : v88 = .bool false := g88
              subst q88
              exact Or.inl ⟨(wanted_on rfl rfl rfl e88), goodE_val (.slice Ai q.length ci) (by simp [execOp, Act.eval, e91, go_sem, cell_ext ((Ext.to_drew _).trans hE) H3.out]) rfl⟩
            refine stepE_cons ⟨_, rfl, fun a w hE hH => ?_⟩ ?_
            ·
              obtain ⟨v92, e92, g92⟩ := hH.dep 37 92 rfl (by kernel_rfl)
              have q92 : v92 = .slice Ai q.length ci := g92
              subst q92
              obtain ⟨v88, e88, g88⟩ := hH.dep 33 88 rfl (by kernel_rfl)
              have q88 : v88 = .bool false := g88
              subst q88
              exact Or.inl ⟨wanted_on rfl rfl rfl e88, goodE_val (.int .i64 q.length) (by simp [execOp, Act.eval, e88, e92, go_sem]) rfl⟩
            refine stepE_cons ⟨_, rfl, fun a w hE hH => ?_⟩ ?_
            ·
              have e11 : a.tmps[11]? = some (.int .i64 q.length) := hH.old 11 rfl
              obtain ⟨v88, e88, g88⟩ := hH.dep 33 88 rfl (by kernel_rfl)
              have q88 : v88 = .bool false := g88
              subst q88
              exact Or.inl ⟨wanted_on rfl rfl rfl e88, goodE_move _ rfl (eval_of e11) rfl⟩
            refine stepE_cons ⟨_, rfl, fun a w hE hH => ?_⟩ ?_
            ·
              obtain ⟨v93, e93, g93⟩ := hH.dep 38 93 rfl (by kernel_rfl)
              have q93 : v93 = .int .i64 q.length := g93
              subst q93
              obtain ⟨v94, e94, g94⟩ := hH.dep 39 94 rfl (by kernel_rfl)
              have q94 : v94 = .int .i64 q.length := g94
              subst q94
              obtain ⟨v88, e88, g88⟩ := hH.dep 33 88 rfl (by kernel_rfl)
              have q88 : v88 = .bool false := g88
              subst q88
              exact Or.inl ⟨wanted_on rfl rfl rfl e88, goodE_val (.bool false) (by simp [execOp, Act.eval, e88, e93, e94, go_sem]) rfl⟩
            refine stepE_cons ⟨_, rfl, fun a w hE hH => ?_⟩ ?_
            ·
              obtain ⟨v88, e88, g88⟩ := hH.dep 33 88 rfl (by kernel_rfl)
              have q88 : v88 = .bool false := g88
              subst q88
              obtain ⟨v95, e95, g95⟩ := hH.dep 40 95 rfl (by kernel_rfl)
              have q95 : v95 = .bool false := g95
              subst q95
              exact Or.inl ⟨rfl, goodE_pick _ (.bool false) rfl (eval_of e88) (by simp [Act.eval, e88, e95]) rfl⟩
            exact stepE_nil
          rintro vals wz hE hV
          have k96 : vals 41 = .bool false := hV 41 (by simp) rfl
          simp only [List.map_cons, List.map_nil, putAll, Act.put, List.setIfInBounds_toArray, List.set_cons_zero, List.set_cons_succ, k96]

          have HE8 := Aside0.mk (HE.out.trans ((Ext.to_drew _).trans hE))
          have HX8 := Aside0.mk (HX.out.ext ((Ext.to_drew _).trans hE))
          clear hE hV k96 hcell
          go_wp2
          go_roundw
          case rel => exact ⟨k + 1, by omega, by simp, HE8.out, HX8.out⟩
          case measure => simp [intOf]; omega
        · obtain rfl : k = ps.length := by omega
          clear hE hX
          go_wp2_with fail
          go_ret
          exact ⟨rfl, HE.out⟩
end Go.Proofs.YtnkhhnfmijljbaaDoor
set_option linter.unusedVariables false
set_option linter.unusedSimpArgs false
namespace Go.Proofs.YtnkhhnfmijljbaaDoor
open Go.ChangeShapes Go.WideShapes Go.ChangeAt Go.RowKit Go.Proofs.YtnkhhnfmijljbaaDoorW.PrintWords Go.Proofs.YtnkhhnfmijljbaaDoorW.PrintLast Go.Proofs.YtnkhhnfmijljbaaDoorW.PrintMore
open Extern.Stop (cell)

theorem bulk_one_le {H : Type} (d : DataW H) : 1 ≤ Rows.uptoBulk d := by
  cases d with
  | lit l => cases l <;> simp [Rows.uptoBulk]
  | nil => simp [Rows.uptoBulk]
  | ptr d => simp [Rows.uptoBulk]
  | slice elems spare => simp [Rows.uptoBulk]
  | agg parts => simp [Rows.uptoBulk]
  | iface t d => simp [Rows.uptoBulk]
  | map entries => simp [Rows.uptoBulk]
  | held h => simp [Rows.uptoBulk]
theorem bulk_length {H : Type} (l : List (DataW H)) : l.length ≤ Rows.uptoBulkAll l := by
  induction l with
  | nil => simp [Rows.uptoBulkAll]
  | cons x r ih => have := bulk_one_le x; simp only [Rows.uptoBulkAll, List.length_cons]; omega
theorem bulk_sum {H : Type} {α : Type} (g : α → Nat) : ∀ (E : List (DataW H)) (f : Nat → α), (∀ i d, E[i]? = some d → g (f i) ≤ Rows.uptoBulk d) → (((List.range E.length).map f).map g).sum ≤ Rows.uptoBulkAll E
  | [], _, _ => by simp [Rows.uptoBulkAll]
  | d :: E, f, h => by
    have h0 := h 0 d rfl
    have ih := bulk_sum g E (f ∘ Nat.succ) (fun i d' hi => h (i + 1) d' (by simpa using hi))
    simp only [List.length_cons, List.range_succ_eq_map, List.map_cons, List.sum_cons, Rows.uptoBulkAll, List.map_map] at ih ⊢
    omega
section
variable {H : Type} {enc : TypeId × Value → H} {P : Program} {w : World} {t e : TypeId} {fuel : Nat} {v : Value}
theorem open_nums {k : IntKind} {y : DataW H × List MemPlace} (ht : P.underlying t = some (.slice e)) (he : P.underlying e = some (.int k)) (hc : P.cellsOf e = 1)
    (h : DataW.trod enc P w 0 (fun _ => true) true fuel t [v] = some y) :
    ∃ (A : Option Addr) (c : Nat) (l : List Int), v = .slice A l.length c ∧ l.length ≤ c ∧ ReadsInt w k A l.length l ∧ (∀ x ∈ l, (Lit.int k x).wf = true) ∧ l.length + 1 ≤ Rows.uptoBulk y.1 := by
  rcases open_ints ht he hc h with ⟨hcs, hy⟩ | ⟨a, len, cap, zs, hcs, _, hl, hm, hz, hy, hcell, hwz⟩
  · simp only [List.cons.injEq, and_true] at hcs
    subst hcs
    obtain ⟨l, hll, hr, _, _, hcl⟩ := ReadsInt.ofRowC (k := k) (w := w) (a := none) (len := 0) (cap := 0) (zs := []) (.inl ⟨rfl, rfl, rfl, rfl⟩)
    obtain rfl : l = [] := List.eq_nil_of_length_eq_zero hll.symm
    exact ⟨none, 0, [], rfl, Nat.le_refl _, hr, (fun x hx => by cases hx), by rw [hy]; simp [Rows.uptoBulk]⟩
  · simp only [List.cons.injEq, and_true] at hcs
    subst hcs
    have hz' : zs.length = cap := by simpa using hz
    obtain ⟨l, hll, hr, _, hw, hcl⟩ := ReadsInt.ofRowC (k := k) (w := w) (a := some a) (len := len) (cap := cap) (zs := zs) (.inr ⟨a, rfl, hl, hm, hz', hcell, hwz⟩)
    subst hll
    refine ⟨some a, cap, l, rfl, hcl, hr, hw, ?_⟩
    rw [hy]
    simp only [Rows.uptoBulk]
    have h1 := bulk_length (lits (H := H) k (zs.take l.length))
    have h2 : (lits (H := H) k (zs.take l.length)).length = l.length := by simp [lits]; omega
    omega
theorem bytes_of_ints (l : List Int) (h : ∀ x ∈ l, (Lit.int .u8 x).wf = true) : ∃ xs : List UInt8, l = ints xs := by
  refine ⟨l.map fun z => UInt8.ofNat z.toNat, ?_⟩
  rw [ints, List.map_map]
  conv => lhs; rw [← List.map_id l]
  refine List.map_congr_left (fun z hz => ?_)
  have := u8_of_wf (h z hz)
  simp only [Function.comp_apply, n8, id]
  rw [UInt8.toNat_ofNat', show z.toNat % 2 ^ 8 = z.toNat by omega]
  exact (Int.toNat_of_nonneg this.1).symm
theorem open_u8s {y : DataW H × List MemPlace} (ht : P.underlying t = some (.slice e)) (he : P.underlying e = some (.int .u8)) (hc : P.cellsOf e = 1)
    (h : DataW.trod enc P w 0 (fun _ => true) true fuel t [v] = some y) :
    ∃ (A : Option Addr) (c : Nat) (xs : List UInt8), v = .slice A xs.length c ∧ xs.length ≤ c ∧ Bs w A xs.length xs ∧ xs.length + 1 ≤ Rows.uptoBulk y.1 := by
  obtain ⟨A, c, l, rfl, hl, hr, hw, hb⟩ := open_nums ht he hc h
  obtain ⟨xs, rfl⟩ := bytes_of_ints l hw
  rw [ints_length] at hl hr hb ⊢
  exact ⟨A, c, xs, rfl, hl, Kd.C_of_reads (d := (0 : Int)) (h1 := fun _ => rfl) hr, hb⟩
end
section
variable {H : Type} {enc : TypeId × Value → H} {w : World} {r : Reach} {b0 : Nat} {v : Value} {d : DataW H} {p : List MemPlace}
theorem cells5 : Tryd.prog.cellsOf 5 = 1 := by kernel_rfl
theorem cells3 : Tryd.prog.cellsOf 3 = 1 := by kernel_rfl
theorem cells24 : Tryd.prog.cellsOf 24 = 1 := by kernel_rfl
/-- an argument []byte -/
theorem open_arg_bs (hv : Value.okWide Tryd.prog w r b0 24 v) (h : DataW.Trod enc Tryd.prog w 0 (fun _ => true) true 24 v d p) :
    ∃ (A : Option Addr) (c : Nat) (xs : List UInt8), v = .slice A xs.length c ∧ xs.length ≤ c ∧ Bs w A xs.length xs ∧ xs.length + 1 ≤ Rows.uptoBulk d := by
  obtain ⟨a, n, c, rfl⟩ := okWide_slice Tryd.underlying24 hv
  obtain ⟨fuel, hf⟩ := h
  exact open_u8s Tryd.underlying24 Tryd.underlying5 cells5 hf
/-- an argument []int -/
theorem open_arg_is (hv : Value.okWide Tryd.prog w r b0 34 v) (h : DataW.Trod enc Tryd.prog w 0 (fun _ => true) true 34 v d p) :
    ∃ (A : Option Addr) (c : Nat) (l : List Int), v = .slice A l.length c ∧ l.length ≤ c ∧ ReadsInt w .i64 A l.length l ∧ (∀ x ∈ l, (Lit.int .i64 x).wf = true) ∧ l.length + 1 ≤ Rows.uptoBulk d := by
  obtain ⟨a, n, c, rfl⟩ := okWide_slice Tryd.underlying34 hv
  obtain ⟨fuel, hf⟩ := h
  exact open_nums Tryd.underlying34 Tryd.underlying3 cells3 hf
/-- an argument [][]byte -/
theorem open_arg_bss (hv : Value.okWide Tryd.prog w r b0 22 v) (h : DataW.Trod enc Tryd.prog w 0 (fun _ => true) true 22 v d p) :
    ∃ (A : Option Addr) (c : Nat) (ps : List (List UInt8)), v = .slice A ps.length c ∧ ps.length ≤ c ∧ Bss w A ps.length ps ∧ (ps.map fun x => x.length + 1).sum ≤ Rows.uptoBulk d := by
  obtain ⟨a, n, c, rfl⟩ := okWide_slice Tryd.underlying22 hv
  obtain ⟨fuel, hf⟩ := h
  rcases DataW.trod_slice Tryd.underlying22 hf with ⟨hcs, hy⟩ | ⟨a', len, cap, elems, rest, m, _, hcs, hx, hb, hl, hm, hlen, hel, hsp, hns⟩
  · have e : (Value.slice a n c) = .slice none 0 0 := by simpa [Value.cells] using hcs
    injection e with e1 e2 e3
    subst e1 e2 e3
    refine ⟨none, 0, [], rfl, Nat.le_refl _, ⟨rfl, by simp, fun hp => by simp at hp⟩, Nat.zero_le _⟩
  · have e : (Value.slice a n c) = .slice (some a') len cap := by simpa [Value.cells] using hcs
    injection e with e1 e2 e3
    subst e1 e2 e3
    have key : ∀ i, ∃ q : List UInt8, ∀ y, elems[i]? = some y → (∃ A' c', w.cell? (a'.add i) = some (.slice A' q.length c') ∧ q.length ≤ c' ∧ Bs w A' q.length q) ∧ q.length + 1 ≤ Rows.uptoBulk y.1 := by
      intro i
      by_cases hi : i < elems.length
      · have h1 := hel i (by omega)
        rw [List.getElem?_eq_getElem hi, cells24, Nat.mul_one, Option.bind_eq_some_iff] at h1
        obtain ⟨cs', hcs', hy⟩ := h1
        obtain ⟨cv, rfl⟩ : ∃ cv, cs' = [cv] := by
          cases cs' with
          | nil => cases m <;> simp [DataW.trod, Tryd.underlying24] at hy
          | cons x l =>
            cases l with
            | nil => exact ⟨x, rfl⟩
            | cons z l => cases m <;> simp [DataW.trod, Tryd.underlying24] at hy
        obtain ⟨A', c', q, rfl, h2, h3, h4⟩ := open_u8s Tryd.underlying24 Tryd.underlying5 cells5 hy
        refine ⟨q, fun y hy' => ?_⟩
        rw [List.getElem?_eq_getElem hi] at hy'
        cases hy'
        exact ⟨⟨A', c', cell_of_cells?_one hcs', h2, h3⟩, h4⟩
      · exact ⟨[], fun y hy => by rw [List.getElem?_eq_none (by omega)] at hy; cases hy⟩
    obtain ⟨f, hfq⟩ := Classical.axiomOfChoice key
    have hel' : ∀ i, i < elems.length → elems[i]? = some (elems[i]?.getD (.nil, [])) := fun i hi => by rw [List.getElem?_eq_getElem hi]; rfl
    refine ⟨some a', c, (List.range n).map f, by simp, by simpa using hl, ⟨by simp, by simp; unfold maxLen at hm; omega, fun hp => ⟨a', rfl, fun j q hj => ?_⟩⟩, ?_⟩
    · obtain ⟨hjl, hq⟩ := List.getElem?_eq_some_iff.1 hj
      have hjl' : j < n := by simpa using hjl
      have hq' : q = ints (f j) := by rw [← hq]; simp
      subst hq'
      obtain ⟨⟨A', c', h2, h3, h4⟩, _⟩ := hfq j _ (hel' j (by omega))
      refine ⟨[.slice A' (f j).length c'], rfl, ⟨A', c', by rw [ints_length], by rw [ints_length]; exact h3, by rw [ints_length]; exact h4⟩, fun i u hu => ?_⟩
      have hi : i = 0 := by
        have := (List.getElem?_eq_some_iff.1 hu).1
        simpa using this
      subst hi
      have hu' : u = .slice A' (f j).length c' := by simpa using hu.symm
      rw [hu', show a'.add (j * (Kd.slice 5 (Kd.int .u8)).sz + 0) = a'.add j by show a'.add (j * 1 + 0) = _; rw [Nat.mul_one, Nat.add_zero]]
      exact h2
    · have hd : d = .slice (elems.map (·.1)) (rest.map (·.1)) := congrArg Prod.fst hx
      have h1 := bulk_sum (fun x : List UInt8 => x.length + 1) (elems.map (·.1)) f (fun i y hi => by
        rw [List.getElem?_map, Option.map_eq_some_iff] at hi
        obtain ⟨z, hz, rfl⟩ := hi
        exact (hfq i z hz).2)
      rw [List.length_map, hlen] at h1
      rw [hd]
      simp only [Rows.uptoBulk]
      omega
end
end Go.Proofs.YtnkhhnfmijljbaaDoor
