/- Parts of the proof: cairnlaw03's table.plays: one step of a script over three codes, as the document has it. -/
import Derived.Test.YtnkhhnfmijljbaaDoorZExactg
import Derived.Deep.CutBlock
import Derived.Deep.CutRange
set_option linter.unusedVariables false
set_option linter.unusedSimpArgs false
namespace Go.Proofs.YtnkhhnfmijljbaaDoor
open Go.RowKit Go.Proofs.YtnkhhnfmijljbaaDoorW.PrintWords Go.Proofs.YtnkhhnfmijljbaaDoorW.PrintLast Go.Proofs.YtnkhhnfmijljbaaDoorW.PrintMore
open Extern.Stop (cell)

set_option maxHeartbeats 60000000 in
set_option maxRecDepth 100000 in
theorem plays_calls (w : World) (T : Nat) (kind which : Int) (A : Option Addr) (c : Nat) (b : List UInt8) (live : Nat → Bool) (gs ss : Nat → Nat) (ks kb : Nat → List UInt8) (S B : Nat → Pt) (L : Nat) (hK : KTab w) (hF : FTab w) (hR : RTab w) (h4 : 4 < T)
    (hT : T3 w T live gs ss ks kb S B (A, c, b)) (heq : ∀ i, i < 3 → live i = true → ks i = (S i).2.2 ∧ kb i = (B i).2.2) (hlen : ∀ i, i < 3 → (S i).2.2.length ≤ 400 ∧ (B i).2.2.length ≤ L) (hL : L ≤ 1000000)
    (hi1 : i64ok kind) (hi2 : i64ok which) (hlive : kind = 1 ∨ ∀ i, i < 3 → live i = true) :
    Calls Tryd.prog 28 #[.pointer (some ⟨T, 0, none⟩), .agg #[.int .i64 kind, .int .i64 which, .slice A b.length c]] w (fun e w' => e = .returned (.bool true) ∧ Below T w w' ∧ ∃ (live' : Nat → Bool) (gs' ss' : Nat → Nat) (ks' kb' : Nat → List UInt8) (S' B' : Nat → Pt),
      T3 w' T live' gs' ss' ks' kb' S' B' (none, 0, []) ∧ (∀ i, i < 3 → live' i = true → ks' i = (S' i).2.2 ∧ kb' i = (B' i).2.2) ∧ (∀ i, i < 3 → (S' i).2.2.length ≤ 400 ∧ (B' i).2.2.length ≤ L + 400) ∧ (∀ i, i < 3 → live i = true → live' i = true) ∧ ∀ i : Nat, i < 3 → (i : Int) = which → kind = 1 → live' i = true) := by
  have HK := Aside0.mk hK
  have HF := Aside0.mk hF
  have HR := Aside0.mk hR
  have HEQ := Aside0.mk heq
  have HLN := Aside0.mk hlen
  have HLV := Aside0.mk hlive
  have HT := Aside0.mk hT
  have hmx := hT.okX.2.1.max
  have hcap : b.length ≤ c := hT.okX.1
  have hIW : ∃ iw : Nat, iw < 3 ∧ (RowKit.wrap64 (which.tmod 3 + 3)).tmod 3 = iw ∧ (0 ≤ which → which < 3 → (iw : Int) = which) := by
    refine ⟨((which.tmod 3 + 3).tmod 3).toNat, ?_, ?_, ?_⟩
    all_goals have h1 := Int.tmod_lt_of_pos which (show (0 : Int) < 3 by omega)
    all_goals have h2 := Int.lt_tmod_of_pos which (show (0 : Int) < 3 by omega)
    all_goals have h3 : RowKit.wrap64 (which.tmod 3 + 3) = which.tmod 3 + 3 := by unfold RowKit.wrap64; omega
    all_goals try rw [h3]
    all_goals rw [Int.tmod_eq_emod_of_nonneg (show (0 : Int) ≤ which.tmod 3 + 3 by omega)]
    · omega
    · omega
    · intro h0 h3; rw [Int.tmod_eq_emod_of_nonneg h0]; omega
  clear hK hF hR heq hlen hlive hT
  obtain ⟨O, hO⟩ : ∃ O, O = w.heap.size := ⟨_, rfl⟩
  go_enter Tryd.func28, Tryd.ntmps28
  go_upto_region 2 with fail
  obtain ⟨iw, hi3, hiw, hiww⟩ := hIW
  rw [hiw]
  refine wp_world (fun w1 => Ext w w1 ∧ Row w1 O [.int .i64 kind, .int .i64 which, .slice A b.length c] 65) ⟨(Ext.refl w).alloc _, by rw [hO]; exact Row.alloc _ _ _⟩ ?_
  rintro w1 ⟨hE1, hR1⟩
  rw [← hO]
  have HIWW := Aside0.mk hiww
  have HE1 := Aside0.mk hE1
  have HO1 := Aside0.mk hR1
  have HTO := Aside0.mk (show T < O by rw [hO]; exact HT.out.row.lt)
  have o2 := hR1.cell (show ([.int .i64 kind, .int .i64 which, .slice A b.length c] : List Value)[2]? = some (.slice A b.length c) from rfl)
  obtain ⟨x, hx⟩ : ∃ x, x = b.take 400 := ⟨_, rfl⟩
  have hxl : x.length ≤ 400 := by rw [hx]; simp; omega
  have HXL := Aside0.mk hxl
  have HTX := Aside0.mk (show T3 w T live gs ss ks kb S B (A, c, x) from HT.out.putX ⟨by have := hcap; rw [hx]; simp; omega, by rw [hx]; exact HT.out.okX.2.1.take' 400, fun ad ha hn => HT.out.okX.2.2 ad ha (by
    have h9 : 0 < (b.take 400).length := by rw [← hx]; exact hn
    rw [List.length_take] at h9
    show 0 < b.length
    omega)⟩)
  have HX := Aside0.mk hx
  clear hE1 hR1 hO hiw hiww hx hxl
  go_upto_if 20 with fail
  go_cut [6] from 20 to 22 (fun (s6 : Value) wx => wx = w1 ∧ s6 = .slice A x.length c)
  case first =>
    obtain ⟨i5, hi5, _, hsz, _⟩ := i5
    by_cases h400 : 400 < b.length
    · have h4' : (400 : Int) < b.length := by omega
      have hcut := cut_to (P := Tryd.prog) 24 5 .i64 Tryd.underlying24 hi5 A b.length c (400 : Int) (by omega) (by omega) hcap
      rw [show (400 : Int).toNat = 400 from rfl] at hcut
      have HL := Aside0.mk (show x.length = 400 by rw [HX.out]; simp; omega)
      clear hi5 hsz
      go_wp2_with fail
      go_meet
      case rel => exact ⟨rfl, by rw [HL.out]⟩
    · have h4' : ¬ ((400 : Int) < b.length) := by omega
      have HL := Aside0.mk (show x.length = b.length by rw [HX.out]; simp; omega)
      clear hi5 hsz
      go_wp2_with fail
      go_meet
      case rel => exact ⟨rfl, by rw [HL.out]⟩
  case rest =>
    obtain ⟨rfl, rfl⟩ := hcut
    clear o2
    go_wp2_with fail
    refine (roomy_calls wc A c x (HTX.out.okX.2.1.ext HE1.out) HTX.out.okX.1 (by have := HXL.out; omega)).mono ?_
    rintro e w2 ⟨g, c2, rfl, hg, hE2, hRm⟩
    have hEw2 := HE1.out.trans hE2
    have HM2 := Aside0.mk (show Mid w w2 T g c2 (A, c, x) live gs ss ks kb S B L from ⟨HTX.out.ext hEw2, HTX.out.av (Nat.le_trans HE1.out.size hg), hRm, Below.mono (show Below w.heap.size w w2 from hEw2) (Nat.le_of_lt HTX.out.row.lt), HEQ.out, HLN.out⟩)
    have o0 := (HO1.out.ext hE2).cell (show ([.int .i64 kind, .int .i64 which, .slice A b.length c] : List Value)[0]? = some (.int .i64 kind) from rfl)
    have HG := Aside0.mk (show T < g by have := HTX.out.row.lt; have := HE1.out.size; omega)
    clear hE2 hRm hg hEw2 hmx
    go_upto_block 0 with fail
    go_cut [8, 9, 10] from 27 to 182 (fun (s8 s9 s10 : Value) wx => s8 = .bool true ∧ ∃ (live' : Nat → Bool) (gs' ss' : Nat → Nat) (ks' kb' : Nat → List UInt8) (S' B' : Nat → Pt), Mid w wx T g c2 (A, c, x) live' gs' ss' ks' kb' S' B' (L + 400) ∧ (∀ i, i < 3 → live i = true → live' i = true) ∧ ∀ i : Nat, i < 3 → (i : Int) = which → kind = 1 → live' i = true)
    case first =>
      have b5 : (0 : Int) ≤ iw ∧ (iw : Int) < 3 := by omega
      by_cases hk1 : kind = 1
      · subst hk1
        obtain ⟨N, hN⟩ : ∃ N, N = w2.heap.size := ⟨_, rfl⟩
        have HN := Aside0.mk hN
        have HKw := Aside0.mk (HK.out.below HM2.out.be h4)
        have HFw := Aside0.mk (HF.out.below HM2.out.be (by omega))
        have HXC := Aside0.mk (show x.length ≤ c2 by have h := HM2.out.rm.cap; exact Nat.le_trans (Nat.le_add_right _ _) h)
        clear hN
        go_wp2_with fail
        refine ext_tail 8 [(0, 29), (1, 30), (2, 31), (3, 32), (4, 33), (5, 34), (6, 35)] [0, 1, 2, 3, 4, 5, 6] (fun i w v => match i with | 0 => v = .pointer (some ⟨T, 0, none⟩) | 1 => v = .int .i64 iw | 2 => v = .slice (some ⟨g, 0, none⟩) x.length c2 | 3 => ∃ G s, v = .pointer (some ⟨G, 0, none⟩) ∧ N ≤ G ∧ N ≤ s ∧ Ky w G s x [] | 4 => v = .pointer (some ⟨T, 0, none⟩) | 5 => v = .pointer (some ⟨T, 0, none⟩) | 6 => v = .pointer (some ⟨T, iw, none⟩) | _ => True) (by kernel_rfl) (by kernel_rfl) (by rfl) rfl ?mono9 ?steps9 ?fin9
        case mono9 =>
          intro i w w' v h hE
          match i with
          | 0 => exact h
          | 1 => exact h
          | 2 => exact h
          | 3 => exact h.elim fun G h => h.elim fun s h => ⟨G, s, h.1, h.2.1, h.2.2.1, h.2.2.2.ext hE⟩
          | 4 => exact h
          | 5 => exact h
          | 6 => exact h
          | _ + 7 => trivial
        case steps9 =>
          refine stepE_cons ⟨_, rfl, fun a w hE hH => ?_⟩ ?_
          ·
            have e0 : a.tmps[0]? = some (.pointer (some ⟨T, 0, none⟩)) := hH.old 0 rfl
            exact Or.inl ⟨rfl, goodE_move _ rfl (eval_of e0) rfl⟩
          refine stepE_cons ⟨_, rfl, fun a w hE hH => ?_⟩ ?_
          ·
            have e5 : a.tmps[5]? = some (.int .i64 iw) := hH.old 5 rfl
            exact Or.inl ⟨rfl, goodE_move _ rfl (eval_of e5) rfl⟩
          refine stepE_cons ⟨_, rfl, fun a w hE hH => ?_⟩ ?_
          ·
            have e7 : a.tmps[7]? = some (.slice (some ⟨g, 0, none⟩) x.length c2) := hH.old 7 rfl
            exact Or.inl ⟨rfl, goodE_move _ rfl (eval_of e7) rfl⟩
          refine stepE_cons ⟨_, rfl, fun a w hE hH => ?_⟩ ?_
          ·
            obtain ⟨v31, e31, g31⟩ := hH.dep 2 31 rfl (by kernel_rfl)
            have q31 : v31 = .slice (some ⟨g, 0, none⟩) x.length c2 := g31
            subst q31
            refine Or.inl ⟨(rfl), goodE_call rfl #[.slice (some ⟨g, 0, none⟩) x.length c2] (by simp [Act.eval, e31]) _ Tryd.func29 (by kernel_rfl) (by kernel_rfl) ?_⟩
            refine (mnew_calls w (some ⟨g, 0, none⟩) c2 x (HKw.out.ext ((Ext.to_drew _).trans hE)) (HFw.out.ext ((Ext.to_drew _).trans hE)) (HM2.out.rm.bs.ext ((Ext.to_drew _).trans hE)) HXC.out (by have := HXL.out; omega)).mono ?_
            rintro e w' ⟨G, s, rfl, hG, hs, hB, hY⟩
            exact ⟨_, rfl, hB, G, s, rfl, by rw [HN.out]; exact Nat.le_trans (((Ext.to_drew _).trans hE)).size hG, by rw [HN.out]; exact Nat.le_trans (((Ext.to_drew _).trans hE)).size hs, hY⟩
          refine stepE_cons ⟨_, rfl, fun a w hE hH => ?_⟩ ?_
          ·
            obtain ⟨v29, e29, g29⟩ := hH.dep 0 29 rfl (by kernel_rfl)
            have q29 : v29 = .pointer (some ⟨T, 0, none⟩) := g29
            subst q29
            exact Or.inl ⟨rfl, goodE_val (.pointer (some ⟨T, 0, none⟩)) (by simp [execOp, Act.eval, e29, go_sem]) rfl⟩
          refine stepE_cons ⟨_, rfl, fun a w hE hH => ?_⟩ ?_
          ·
            obtain ⟨v33, e33, g33⟩ := hH.dep 4 33 rfl (by kernel_rfl)
            have q33 : v33 = .pointer (some ⟨T, 0, none⟩) := g33
            subst q33
            exact Or.inl ⟨rfl, goodE_val (.pointer (some ⟨T, 0, none⟩)) (by simp [execOp, Act.eval, e33, go_sem]) rfl⟩
          refine stepE_cons ⟨_, rfl, fun a w hE hH => ?_⟩ ?_
          ·
            obtain ⟨v34, e34, g34⟩ := hH.dep 5 34 rfl (by kernel_rfl)
            have q34 : v34 = .pointer (some ⟨T, 0, none⟩) := g34
            subst q34
            obtain ⟨v30, e30, g30⟩ := hH.dep 1 30 rfl (by kernel_rfl)
            have q30 : v30 = .int .i64 iw := g30
            subst q30
            exact Or.inl ⟨(rfl), goodE_val (.pointer (some ⟨T, iw, none⟩)) (by simp [execOp, Act.eval, e34, e30, go_sem, b5]) rfl⟩
          exact stepE_nil
        refine ⟨⟨none, .store 56 (.tmp 35) (.tmp 32), _, _, _, none⟩, rfl, ?_⟩
        rintro vals wz hE hV
        have k32 : ∃ G s, (vals 3) = .pointer (some ⟨G, 0, none⟩) ∧ N ≤ G ∧ N ≤ s ∧ Ky wz G s x [] := hV 3 (by simp) rfl
        have k35 : vals 6 = .pointer (some ⟨T, iw, none⟩) := hV 6 (by simp) rfl
        refine ⟨wantedFree rfl _, ?_⟩
        intro KK hKK
        simp only [List.map_cons, List.map_nil, putAll, Act.put, List.setIfInBounds_toArray, List.set_cons_zero, List.set_cons_succ, k35]
        obtain ⟨G, s, e32, hG, hs, hY⟩ := k32
        rw [e32]
        have hEz : Ext w2 wz := (Ext.to_drew _).trans hE
        have hRz := HM2.out.t.row.ext hEz
        have cy := hRz.cell (tabL_p iw hi3)
        have cf := hRz.free iw
        refine finE_skip (w1 := wz.setCell ⟨T, iw, none⟩ (.pointer (some ⟨G, 0, none⟩))) (by simp [execOp, Act.eval, go_sem, cy, cf]) (hKK _ _ ?_)
        obtain ⟨w3, hw3⟩ : ∃ w3, w3 = wz.setCell ⟨T, iw, none⟩ (.pointer (some ⟨G, 0, none⟩)) := ⟨_, rfl⟩
        rw [← hw3]
        rw [HN.out] at hG hs
        have hgl := HM2.out.rm.lt
        have hO3 : Only wz T w3 := by rw [hw3]; exact (Only.refl _ T).set iw _
        have HT3 := Aside0.mk (show T3 w3 T (upd live iw true) (upd gs iw G) (upd ss iw s) (upd ks iw x) (upd kb iw []) S B (A, c, x) by rw [hw3]; exact T3.setP HM2.out.t hEz hi3 hG hs hY)
        have HA3 := Aside0.mk (HM2.out.av.setP (i := iw) (g' := G) (s' := s) (by omega) (by omega))
        have HRm3 := Aside0.mk ((HM2.out.rm.ext hEz).only hO3 (HM2.out.av.nT.symm))
        have HB3 := Aside0.mk (below_only (HM2.out.ext hEz).be hO3 (Nat.le_refl _) (Nat.le_of_lt (HM2.out.t.ext hEz).row.lt))
        obtain ⟨B8, hB8⟩ : ∃ B8, B8 = w3.heap.size := ⟨_, rfl⟩
        have HB8 := Aside0.mk hB8
        clear hE hV k35 e32 hG hs hY hEz hRz cy cf hw3 hO3 hgl hB8
        go_wp2_with fail
        refine ext_tail 10 [(0, 36), (1, 37), (2, 38), (3, 39), (4, 40), (5, 41), (6, 42), (7, 43), (8, 44)] [0, 1, 2, 3, 4, 5, 6, 7, 8] (fun i w v => match i with | 0 => v = .pointer (some ⟨T, 0, none⟩) | 1 => v = .int .i64 iw | 2 => ∃ b, v = .slice (some ⟨b, 0, none⟩) 0 0 ∧ Ob B8 w v [] | 3 => v = .slice A x.length c | 4 => Ob B8 w v x | 5 => ∃ A9 c9, v = .agg #[.slice A9 x.length c9, .slice none 0 0] ∧ Ob B8 w (.slice A9 x.length c9) x | 6 => v = .pointer (some ⟨T, 0, none⟩) | 7 => v = .pointer (some ⟨T, 3, none⟩) | 8 => v = .pointer (some ⟨T, 3 + iw * 2, none⟩) | _ => True) (by kernel_rfl) (by kernel_rfl) (by rfl) rfl ?mono10 ?steps10 ?fin10
        case mono10 =>
          intro i w w' v h hE
          match i with
          | 0 => exact h
          | 1 => exact h
          | 2 => exact h.elim fun b h => ⟨b, h.1, h.2.ext hE⟩
          | 3 => exact h
          | 4 => exact h.ext hE
          | 5 => exact h.elim fun A9 h => h.elim fun c9 h => ⟨A9, c9, h.1, h.2.ext hE⟩
          | 6 => exact h
          | 7 => exact h
          | 8 => exact h
          | _ + 9 => trivial
        case steps10 =>
          refine stepE_cons ⟨_, rfl, fun a w hE hH => ?_⟩ ?_
          ·
            have e0 : a.tmps[0]? = some (.pointer (some ⟨T, 0, none⟩)) := hH.old 0 rfl
            exact Or.inl ⟨rfl, goodE_move _ rfl (eval_of e0) rfl⟩
          refine stepE_cons ⟨_, rfl, fun a w hE hH => ?_⟩ ?_
          ·
            have e5 : a.tmps[5]? = some (.int .i64 iw) := hH.old 5 rfl
            exact Or.inl ⟨rfl, goodE_move _ rfl (eval_of e5) rfl⟩
          refine stepE_cons ⟨_, rfl, fun a w hE hH => ?_⟩ ?_
          ·
            exact Or.inl ⟨(rfl), goodE_new (.slice (some ⟨w.heap.size, 0, none⟩) 0 0) (w.alloc (.cells #[] 5)) (by simp [execOp, go_sem]) ((Ext.refl w).alloc _) ⟨_, rfl, (Ob.made w).lower (by rw [HB8.out]; exact hE.size)⟩⟩
          refine stepE_cons ⟨_, rfl, fun a w hE hH => ?_⟩ ?_
          ·
            have e6 : a.tmps[6]? = some (.slice A x.length c) := hH.old 6 rfl
            exact Or.inl ⟨rfl, goodE_move _ rfl (eval_of e6) rfl⟩
          refine stepE_cons ⟨_, rfl, fun a w hE hH => ?_⟩ ?_
          ·
            obtain ⟨v38, e38, g38⟩ := hH.dep 2 38 rfl (by kernel_rfl)
            obtain ⟨v39, e39, g39⟩ := hH.dep 3 39 rfl (by kernel_rfl)
            have q39 : v39 = .slice A x.length c := g39
            subst q39
            obtain ⟨b0, rfl, hO38⟩ := g38
            obtain ⟨v1, w1, hr, h1, h2⟩ := run_copyOb 24 (c := c) hO38 (HT3.out.okX.2.1.ext ((Ext.to_drew _).trans hE)) (by rw [HB8.out]; exact hE.size) (by have := HXL.out; show x.length ≤ _; omega)
            exact Or.inl ⟨(rfl), goodE_new v1 w1 (exec_append (s := .tmp 38) (x := .tmp 39) (t := 24) (u := 24) rfl (by rw [eval_of e38, eval_of e39]; exact hr)) h1 h2⟩
          refine stepE_cons ⟨_, rfl, fun a w hE hH => ?_⟩ ?_
          ·
            obtain ⟨v40, e40, g40⟩ := hH.dep 4 40 rfl (by kernel_rfl)
            obtain ⟨A9, c9, rfl, _, _⟩ := g40.open
            exact Or.inl ⟨(rfl), goodE_build #[.slice A9 x.length c9, .slice none 0 0] rfl (by simp only [List.map_toArray, List.map_cons, List.map_nil, eval_of e40]; exact built59 A9 x.length c9) ⟨A9, c9, rfl, g40⟩⟩
          refine stepE_cons ⟨_, rfl, fun a w hE hH => ?_⟩ ?_
          ·
            obtain ⟨v36, e36, g36⟩ := hH.dep 0 36 rfl (by kernel_rfl)
            have q36 : v36 = .pointer (some ⟨T, 0, none⟩) := g36
            subst q36
            exact Or.inl ⟨rfl, goodE_val (.pointer (some ⟨T, 0, none⟩)) (by simp [execOp, Act.eval, e36, go_sem]) rfl⟩
          refine stepE_cons ⟨_, rfl, fun a w hE hH => ?_⟩ ?_
          ·
            obtain ⟨v42, e42, g42⟩ := hH.dep 6 42 rfl (by kernel_rfl)
            have q42 : v42 = .pointer (some ⟨T, 0, none⟩) := g42
            subst q42
            exact Or.inl ⟨rfl, goodE_val (.pointer (some ⟨T, 3, none⟩)) (by simp [execOp, Act.eval, e42, go_sem]) rfl⟩
          refine stepE_cons ⟨_, rfl, fun a w hE hH => ?_⟩ ?_
          ·
            obtain ⟨v43, e43, g43⟩ := hH.dep 7 43 rfl (by kernel_rfl)
            have q43 : v43 = .pointer (some ⟨T, 3, none⟩) := g43
            subst q43
            obtain ⟨v37, e37, g37⟩ := hH.dep 1 37 rfl (by kernel_rfl)
            have q37 : v37 = .int .i64 iw := g37
            subst q37
            exact Or.inl ⟨(rfl), goodE_val (.pointer (some ⟨T, 3 + iw * 2, none⟩)) (by simp [execOp, Act.eval, e43, e37, go_sem, b5]) rfl⟩
          exact stepE_nil
        refine ⟨⟨none, .store 59 (.tmp 44) (.tmp 41), _, _, _, none⟩, rfl, ?_⟩
        rintro vals wz hE hV
        have k41 : ∃ A9 c9, (vals 5) = .agg #[.slice A9 x.length c9, .slice none 0 0] ∧ Ob B8 wz (.slice A9 x.length c9) x := hV 5 (by simp) rfl
        have k44 : vals 8 = .pointer (some ⟨T, 3 + iw * 2, none⟩) := hV 8 (by simp) rfl
        refine ⟨wantedFree rfl _, ?_⟩
        intro KK hKK
        simp only [List.map_cons, List.map_nil, putAll, Act.put, List.setIfInBounds_toArray, List.set_cons_zero, List.set_cons_succ, k44]
        obtain ⟨A9, c9, e41, hO41⟩ := k41
        rw [e41]
        obtain ⟨A9', c9', e9, hc9, hb9, hbs9⟩ := Ob.shape hO41
        injection e9 with e91 e92 e93
        subst e91 e93
        have hEz : Ext w3 wz := (Ext.to_drew _).trans hE
        have hTz := HT3.out.ext hEz
        refine finE_skip (w1 := (wz.setCell ⟨T, 3 + iw * 2, none⟩ (.slice A9 x.length c9)).setCell ⟨T, 3 + iw * 2 + 1, none⟩ (.slice none 0 0)) (exec_store rfl (run_store2 hTz.row (show 3 + iw * 2 + 1 < 9 by omega) (A9, c9, x) (none, 0, []))) (hKK _ _ ?_)
        obtain ⟨w4, hw4⟩ : ∃ w4, w4 = (wz.setCell ⟨T, 3 + iw * 2, none⟩ (.slice A9 x.length c9)).setCell ⟨T, 3 + iw * 2 + 1, none⟩ (.slice none 0 0) := ⟨_, rfl⟩
        rw [← hw4]
        have hO4 : Only wz T w4 := by rw [hw4]; exact ((Only.refl _ T).set _ _).set _ _
        have hB8' := HB8.out
        have HT4 := Aside0.mk (show T3 w4 T (upd live iw true) (upd gs iw G) (upd ss iw s) (upd ks iw x) (upd kb iw []) (upd S iw (A9, c9, x)) (upd B iw (none, 0, [])) (A, c, x) by
          rw [hw4]
          exact T3.setR (p := (A9, c9, x)) (q := (none, 0, [])) hTz hi3 (OkP.made hc9 hb9 hbs9 (by rw [hB8']; exact HT3.out.row.lt) (fun i hi hl => by rw [hB8']; exact HT3.out.ssLt i hi hl)) OkP.none)
        have HA4 := Aside0.mk (HA3.out.setR (i := iw) (p := (A9, c9, x)) (q := (none, 0, [])) (fun ad ha hn => by have h1 := hbs9 ad ha; have h2 := HRm3.out.lt; omega) AvP.none)
        have HRm4 := Aside0.mk ((HRm3.out.ext hEz).only hO4 (HA3.out.nT.symm))
        have HB4 := Aside0.mk (below_only (Ext.below HB3.out (Nat.le_of_lt HT3.out.row.lt) hEz) hO4 (Nat.le_refl _) (Nat.le_of_lt hTz.row.lt))
        have cy := HT4.out.row.cell (tabL_p iw hi3)
        rw [show ptrV (upd live iw true) (upd gs iw G) iw = .pointer (some ⟨G, 0, none⟩) by unfold ptrV; rw [upd_self, upd_self]; rfl] at cy
        clear hE hV k44 e41 hO41 hc9 hb9 hbs9 e92 hEz hTz hw4 hO4 hB8'
        go_wp2_with fail
        go_meet
        case rel => exact ⟨rfl, _, _, _, _, _, _, _, ⟨HT4.out, HA4.out, HRm4.out, HB4.out, eq_put HM2.out.eq iw (A9, c9, x) (none, 0, []), len_put HM2.out.len iw (A9, c9, x) (none, 0, []) HXL.out (Nat.zero_le _)⟩, live_put iw, fun i hi hie _ => by rw [show i = iw by have := HIWW.out (by omega) (by omega); omega]; exact upd_self _ _ _⟩
      · have hl3 : ∀ i, i < 3 → live i = true := HLV.out.resolve_left hk1
        have HL3 := Aside0.mk hl3
        clear hl3
        by_cases hk2 : kind = 2
        · subst hk2
          have hlw := HL3.out iw hi3
          have HKw := Aside0.mk (HK.out.below HM2.out.be h4)
          have cy := HM2.out.t.row.cell (tabL_p iw hi3)
          rw [ptrV_live hlw] at cy
          have HLW := Aside0.mk hlw
          clear hlw
          go_wp2_with fail
          refine (kwrite_calls w2 (gs iw) (ss iw) (ks iw) (kb iw) (some ⟨g, 0, none⟩) c2 x HKw.out (HM2.out.t.ky iw hi3 HLW.out) HM2.out.rm.bs (by have h := HM2.out.rm.cap; exact Nat.le_trans (Nat.le_add_right _ _) h) (fun ad ha _ => by cases ha; exact (HM2.out.av.nK iw hi3 HLW.out).2.symm) (by rw [(HM2.out.eq iw hi3 HLW.out).2]; have := (HLN.out iw hi3).2; have := HXL.out; omega)).mono ?_
          rintro e w3 ⟨rfl, hO3, hY3⟩
          have hgs := (HM2.out.av.nK iw hi3 HLW.out).2
          have HT3 := Aside0.mk (HM2.out.t.write hi3 HLW.out hO3 hY3)
          have HRm3 := Aside0.mk (HM2.out.rm.only hO3 (fun e => hgs e.symm))
          have HB3 := Aside0.mk (below_only HM2.out.be hO3 (Nat.le_of_lt (HM2.out.t.nT iw hi3 HLW.out).2) (Nat.le_of_lt HM2.out.t.row.lt))
          have HCB := Aside0.mk (show w3.cell? ⟨T, 3 + iw * 2 + 1, none⟩ = some (.slice (B iw).1 (B iw).2.2.length (B iw).2.1) from HT3.out.row.cell (tabL_b iw hi3))
          obtain ⟨B8, hB8⟩ : ∃ B8, B8 = w3.heap.size := ⟨_, rfl⟩
          have HB8 := Aside0.mk hB8
          clear hO3 hY3 hgs cy hB8
          go_wp2_with fail
          refine exr_tail (Rel3 12 B8 (B iw).2.2) 18 [(0, 62), (1, 63), (2, 64), (3, 65), (4, 66), (5, 67), (6, 68), (7, 69), (8, 70), (9, 71), (10, 72), (11, 73), (12, 74), (13, 75), (14, 76), (15, 77), (16, 78)] [0, 1, 2, 3, 4, 5, 6, 7, 8, 9, 10, 11, 12, 13, 14, 15, 16] (fun i w v => match i with | 0 => v = .pointer (some ⟨T, 0, none⟩) | 1 => v = .int .i64 iw | 2 => ∃ b, v = .slice (some ⟨b, 0, none⟩) 0 0 ∧ Ob B8 w v [] | 3 => v = .pointer (some ⟨T, 0, none⟩) | 4 => v = .int .i64 iw | 5 => v = .pointer (some ⟨T, 0, none⟩) | 6 => v = .pointer (some ⟨T, 3, none⟩) | 7 => v = .pointer (some ⟨T, 3 + iw * 2, none⟩) | 8 => v = .pointer (some ⟨T, 3 + iw * 2 + 1, none⟩) | 9 => v = .slice (B iw).1 (B iw).2.2.length (B iw).2.1 | 10 => Ob B8 w v (B iw).2.2 | 11 => v = .slice A x.length c | 12 => Ob B8 w v ((B iw).2.2 ++ x) | 13 => v = .pointer (some ⟨T, 0, none⟩) | 14 => v = .pointer (some ⟨T, 3, none⟩) | 15 => v = .pointer (some ⟨T, 3 + iw * 2, none⟩) | 16 => v = .pointer (some ⟨T, 3 + iw * 2 + 1, none⟩) | _ => True) (by kernel_rfl) (by kernel_rfl) (by rfl) rfl ?re14 ?r014 ?mono14 ?steps14 ?fin14
          case re14 => exact fun i w w' h k => rel3_ext HB8.out h k
          case r014 => exact fun i w => rel3_refl i w
          case mono14 =>
            intro i j w w' v hne h hE
            match j with
            | 0 => exact h
            | 1 => exact h
            | 2 =>
              obtain ⟨b, h1, h2⟩ := h
              exact ⟨b, h1, rel3_ob hE (Nat.zero_le _) h2⟩
            | 3 => exact h
            | 4 => exact h
            | 5 => exact h
            | 6 => exact h
            | 7 => exact h
            | 8 => exact h
            | 9 => exact h
            | 10 => exact rel3_ob hE (Nat.le_refl _) h
            | 11 => exact h
            | 12 =>
              have hi8 : i ≠ 12 := fun e => hne e.symm
              rw [rel3_ne hi8] at hE
              exact Ob.ext h hE
            | 13 => exact h
            | 14 => exact h
            | 15 => exact h
            | 16 => exact h
            | _ + 17 => trivial
          case steps14 =>
            refine stepR_cons ⟨_, rfl, fun a w hE hH => ?_⟩ ?_
            ·
              have e0 : a.tmps[0]? = some (.pointer (some ⟨T, 0, none⟩)) := hH.old 0 rfl
              exact Or.inl ⟨rfl, goodR_of (rel3_ne (by decide)) <| goodE_move _ rfl (eval_of e0) rfl⟩
            refine stepR_cons ⟨_, rfl, fun a w hE hH => ?_⟩ ?_
            ·
              have e5 : a.tmps[5]? = some (.int .i64 iw) := hH.old 5 rfl
              exact Or.inl ⟨rfl, goodR_of (rel3_ne (by decide)) <| goodE_move _ rfl (eval_of e5) rfl⟩
            refine stepR_cons ⟨_, rfl, fun a w hE hH => ?_⟩ ?_
            ·
              exact Or.inl ⟨(rfl), goodR_of (rel3_ne (by decide)) <| goodE_new (.slice (some ⟨w.heap.size, 0, none⟩) 0 0) (w.alloc (.cells #[] 5)) (by simp [execOp, go_sem]) ((Ext.refl w).alloc _) ⟨_, rfl, (Ob.made w).lower (by rw [HB8.out]; exact hE.size)⟩⟩
            refine stepR_cons ⟨_, rfl, fun a w hE hH => ?_⟩ ?_
            ·
              have e0 : a.tmps[0]? = some (.pointer (some ⟨T, 0, none⟩)) := hH.old 0 rfl
              exact Or.inl ⟨rfl, goodR_of (rel3_ne (by decide)) <| goodE_move _ rfl (eval_of e0) rfl⟩
            refine stepR_cons ⟨_, rfl, fun a w hE hH => ?_⟩ ?_
            ·
              have e5 : a.tmps[5]? = some (.int .i64 iw) := hH.old 5 rfl
              exact Or.inl ⟨rfl, goodR_of (rel3_ne (by decide)) <| goodE_move _ rfl (eval_of e5) rfl⟩
            refine stepR_cons ⟨_, rfl, fun a w hE hH => ?_⟩ ?_
            ·
              obtain ⟨v65, e65, g65⟩ := hH.dep 3 65 rfl (by kernel_rfl)
              have q65 : v65 = .pointer (some ⟨T, 0, none⟩) := g65
              subst q65
              exact Or.inl ⟨rfl, goodR_of (rel3_ne (by decide)) <| goodE_val (.pointer (some ⟨T, 0, none⟩)) (by simp [execOp, Act.eval, e65, go_sem]) rfl⟩
            refine stepR_cons ⟨_, rfl, fun a w hE hH => ?_⟩ ?_
            ·
              obtain ⟨v67, e67, g67⟩ := hH.dep 5 67 rfl (by kernel_rfl)
              have q67 : v67 = .pointer (some ⟨T, 0, none⟩) := g67
              subst q67
              exact Or.inl ⟨rfl, goodR_of (rel3_ne (by decide)) <| goodE_val (.pointer (some ⟨T, 3, none⟩)) (by simp [execOp, Act.eval, e67, go_sem]) rfl⟩
            refine stepR_cons ⟨_, rfl, fun a w hE hH => ?_⟩ ?_
            ·
              obtain ⟨v68, e68, g68⟩ := hH.dep 6 68 rfl (by kernel_rfl)
              have q68 : v68 = .pointer (some ⟨T, 3, none⟩) := g68
              subst q68
              obtain ⟨v66, e66, g66⟩ := hH.dep 4 66 rfl (by kernel_rfl)
              have q66 : v66 = .int .i64 iw := g66
              subst q66
              exact Or.inl ⟨(rfl), goodR_of (rel3_ne (by decide)) <| goodE_val (.pointer (some ⟨T, 3 + iw * 2, none⟩)) (by simp [execOp, Act.eval, e68, e66, go_sem, b5]) rfl⟩
            refine stepR_cons ⟨_, rfl, fun a w hE hH => ?_⟩ ?_
            ·
              obtain ⟨v69, e69, g69⟩ := hH.dep 7 69 rfl (by kernel_rfl)
              have q69 : v69 = .pointer (some ⟨T, 3 + iw * 2, none⟩) := g69
              subst q69
              exact Or.inl ⟨rfl, goodR_of (rel3_ne (by decide)) <| goodE_val (.pointer (some ⟨T, 3 + iw * 2 + 1, none⟩)) (by simp [execOp, Act.eval, e69, go_sem]) rfl⟩
            refine stepR_cons ⟨_, rfl, fun a w hE hH => ?_⟩ ?_
            ·
              obtain ⟨v70, e70, g70⟩ := hH.dep 8 70 rfl (by kernel_rfl)
              have q70 : v70 = .pointer (some ⟨T, 3 + iw * 2 + 1, none⟩) := g70
              subst q70
              exact Or.inl ⟨(rfl), goodR_of (rel3_ne (by decide)) <| goodE_val (.slice (B iw).1 (B iw).2.2.length (B iw).2.1) (by simp [execOp, Act.eval, e70, go_sem, cell_ext ((Ext.to_drew _).trans hE) HCB.out]) rfl⟩
            refine stepR_cons ⟨_, rfl, fun a w hE hH => ?_⟩ ?_
            ·
              obtain ⟨v64, e64, g64⟩ := hH.dep 2 64 rfl (by kernel_rfl)
              obtain ⟨v71, e71, g71⟩ := hH.dep 9 71 rfl (by kernel_rfl)
              have q71 : v71 = .slice (B iw).1 (B iw).2.2.length (B iw).2.1 := g71
              subst q71
              obtain ⟨b0, rfl, hO64⟩ := g64
              obtain ⟨v1, w1, hr, h1, h2⟩ := run_copyOb 24 (c := (B iw).2.1) hO64 ((HT3.out.okB iw hi3).2.1.ext ((Ext.to_drew _).trans hE)) (by rw [HB8.out]; exact hE.size) (by have := (HLN.out iw hi3).2; omega)
              exact Or.inl ⟨(rfl), goodR_of (rel3_ne (by decide)) <| goodE_new v1 w1 (exec_append (s := .tmp 64) (x := .tmp 71) (t := 24) (u := 24) rfl (by rw [eval_of e64, eval_of e71]; exact hr)) h1 h2⟩
            refine stepR_cons ⟨_, rfl, fun a w hE hH => ?_⟩ ?_
            ·
              have e6 : a.tmps[6]? = some (.slice A x.length c) := hH.old 6 rfl
              exact Or.inl ⟨rfl, goodR_of (rel3_ne (by decide)) <| goodE_move _ rfl (eval_of e6) rfl⟩
            refine stepR_cons ⟨_, rfl, fun a w hE hH => ?_⟩ ?_
            ·
              obtain ⟨v72, e72, g72⟩ := hH.dep 10 72 rfl (by kernel_rfl)
              obtain ⟨v73, e73, g73⟩ := hH.dep 11 73 rfl (by kernel_rfl)
              have q73 : v73 = .slice A x.length c := g73
              subst q73
              obtain ⟨v1, w1, hr, h1, h2, h3⟩ := run_app2 24 (c := c) g72 (HT3.out.okX.2.1.ext ((Ext.to_drew _).trans hE)) (by rw [HB8.out]; exact hE.size) (by have := (HLN.out iw hi3).2; have := HXL.out; show _ + x.length ≤ _; omega)
              exact Or.inl ⟨(rfl), goodR_new v1 w1 (exec_append (s := .tmp 72) (x := .tmp 73) (t := 24) (u := 24) rfl (by rw [eval_of e72, eval_of e73]; exact hr)) (by rw [rel3_self]; exact ⟨h2, h3⟩) h1⟩
            refine stepR_cons ⟨_, rfl, fun a w hE hH => ?_⟩ ?_
            ·
              obtain ⟨v62, e62, g62⟩ := hH.dep 0 62 rfl (by kernel_rfl)
              have q62 : v62 = .pointer (some ⟨T, 0, none⟩) := g62
              subst q62
              exact Or.inl ⟨rfl, goodR_of (rel3_ne (by decide)) <| goodE_val (.pointer (some ⟨T, 0, none⟩)) (by simp [execOp, Act.eval, e62, go_sem]) rfl⟩
            refine stepR_cons ⟨_, rfl, fun a w hE hH => ?_⟩ ?_
            ·
              obtain ⟨v75, e75, g75⟩ := hH.dep 13 75 rfl (by kernel_rfl)
              have q75 : v75 = .pointer (some ⟨T, 0, none⟩) := g75
              subst q75
              exact Or.inl ⟨rfl, goodR_of (rel3_ne (by decide)) <| goodE_val (.pointer (some ⟨T, 3, none⟩)) (by simp [execOp, Act.eval, e75, go_sem]) rfl⟩
            refine stepR_cons ⟨_, rfl, fun a w hE hH => ?_⟩ ?_
            ·
              obtain ⟨v76, e76, g76⟩ := hH.dep 14 76 rfl (by kernel_rfl)
              have q76 : v76 = .pointer (some ⟨T, 3, none⟩) := g76
              subst q76
              obtain ⟨v63, e63, g63⟩ := hH.dep 1 63 rfl (by kernel_rfl)
              have q63 : v63 = .int .i64 iw := g63
              subst q63
              exact Or.inl ⟨(rfl), goodR_of (rel3_ne (by decide)) <| goodE_val (.pointer (some ⟨T, 3 + iw * 2, none⟩)) (by simp [execOp, Act.eval, e76, e63, go_sem, b5]) rfl⟩
            refine stepR_cons ⟨_, rfl, fun a w hE hH => ?_⟩ ?_
            ·
              obtain ⟨v77, e77, g77⟩ := hH.dep 15 77 rfl (by kernel_rfl)
              have q77 : v77 = .pointer (some ⟨T, 3 + iw * 2, none⟩) := g77
              subst q77
              exact Or.inl ⟨rfl, goodR_of (rel3_ne (by decide)) <| goodE_val (.pointer (some ⟨T, 3 + iw * 2 + 1, none⟩)) (by simp [execOp, Act.eval, e77, go_sem]) rfl⟩
            exact stepR_nil
          refine ⟨⟨none, .store 24 (.tmp 78) (.tmp 74), _, _, _, none⟩, rfl, ?_⟩
          rintro vals wz hE hV
          have k74 : Ob B8 wz (vals 12) ((B iw).2.2 ++ x) := hV 12 (by simp) rfl
          have k78 : vals 16 = .pointer (some ⟨T, 3 + iw * 2 + 1, none⟩) := hV 16 (by simp) rfl
          refine ⟨wantedFree rfl _, ?_⟩
          intro KK hKK
          simp only [List.map_cons, List.map_nil, putAll, Act.put, List.setIfInBounds_toArray, List.set_cons_zero, List.set_cons_succ, k78]
          obtain ⟨A9, c9, e74, hc9, hb9, hbs9⟩ := Ob.shape k74
          rw [e74]
          have hEz : Ext w3 wz := (Ext.to_drew _).trans hE
          have hTz := HT3.out.ext hEz
          have cy := hTz.row.cell (tabL_b iw hi3)
          have cf := hTz.row.free (3 + iw * 2 + 1)
          refine finE_skip (w1 := wz.setCell ⟨T, 3 + iw * 2 + 1, none⟩ (.slice A9 ((B iw).2.2 ++ x).length c9)) (by simp [execOp, Act.eval, go_sem, cy, cf]) (hKK _ _ ?_)
          obtain ⟨w4, hw4⟩ : ∃ w4, w4 = wz.setCell ⟨T, 3 + iw * 2 + 1, none⟩ (.slice A9 ((B iw).2.2 ++ x).length c9) := ⟨_, rfl⟩
          rw [← hw4]
          have hO4 : Only wz T w4 := by rw [hw4]; exact (Only.refl _ T).set _ _
          have hB8' := HB8.out
          have HT4 := Aside0.mk (show T3 w4 T live gs ss ks (upd kb iw ((B iw).2.2 ++ x)) S (upd B iw (A9, c9, (B iw).2.2 ++ x)) (A, c, x) by
            rw [hw4, ← (HM2.out.eq iw hi3 HLW.out).2]
            rw [← (HM2.out.eq iw hi3 HLW.out).2] at hb9 hc9
            exact T3.setB (q := (A9, c9, kb iw ++ x)) hTz hi3 (OkP.made hc9 hb9 hbs9 (by rw [hB8']; exact HT3.out.row.lt) (fun i hi hl => by rw [hB8']; exact HT3.out.ssLt i hi hl)))
          have HA4 := Aside0.mk (HM2.out.av.setB (i := iw) (q := (A9, c9, (B iw).2.2 ++ x)) (fun ad ha hn => by have h1 := hbs9 ad ha; have h2 := HRm3.out.lt; omega))
          have HRm4 := Aside0.mk ((HRm3.out.ext hEz).only hO4 (HM2.out.av.nT.symm))
          have HB4 := Aside0.mk (below_only (Ext.below HB3.out (Nat.le_of_lt HT3.out.row.lt) hEz) hO4 (Nat.le_refl _) (Nat.le_of_lt hTz.row.lt))
          have HQ4 := Aside0.mk (show ((B iw).2.2 ++ x).length ≤ L + 400 by rw [List.length_append]; have := (HLN.out iw hi3).2; have := HXL.out; omega)
          clear hE hV k74 k78 e74 hc9 hb9 hbs9 hEz hTz hw4 hO4 hB8' cy cf
          go_wp2_with fail
          go_meet
          case rel => exact ⟨rfl, _, _, _, _, _, _, _, ⟨HT4.out, HA4.out, HRm4.out, HB4.out, eq_putB HM2.out.eq iw (A9, c9, (B iw).2.2 ++ x), len_putB HM2.out.len iw (A9, c9, (B iw).2.2 ++ x) HQ4.out⟩, fun _ _ h => h, fun i hi _ _ => HL3.out i hi⟩
        · by_cases hk3 : kind = 3
          · subst hk3
            have hlw := HL3.out iw hi3
            have HKw := Aside0.mk (HK.out.below HM2.out.be h4)
            have HFw := Aside0.mk (HF.out.below HM2.out.be (by omega))
            have HRw := Aside0.mk (show RTab w2 from HR.out.below3 HM2.out.be (by omega))
            have HCP := Aside0.mk (show w2.cell? ⟨T, iw, none⟩ = some (.pointer (some ⟨gs iw, 0, none⟩)) by rw [← ptrV_live hlw]; exact HM2.out.t.row.cell (tabL_p iw hi3))
            have HCS := Aside0.mk (show w2.cell? ⟨T, 3 + iw * 2, none⟩ = some (.slice (S iw).1 (S iw).2.2.length (S iw).2.1) from HM2.out.t.row.cell (tabL_s iw hi3))
            have HCB := Aside0.mk (show w2.cell? ⟨T, 3 + iw * 2 + 1, none⟩ = some (.slice (B iw).1 (B iw).2.2.length (B iw).2.1) from HM2.out.t.row.cell (tabL_b iw hi3))
            have HY := Aside0.mk (show Ky w2 (gs iw) (ss iw) (S iw).2.2 (B iw).2.2 by rw [← (HM2.out.eq iw hi3 hlw).1, ← (HM2.out.eq iw hi3 hlw).2]; exact HM2.out.t.ky iw hi3 hlw)
            clear hlw
            go_wp2_with fail
            refine ext_region 24 [(0, 81), (1, 82), (2, 83), (3, 84), (4, 85), (5, 86), (6, 87), (7, 88), (8, 89), (9, 90), (10, 91), (11, 92), (12, 93), (13, 94), (14, 95), (15, 96), (16, 97), (17, 98), (18, 99), (19, 100), (20, 101), (21, 102), (22, 103), (23, 8)] [0, 1, 2, 3, 4, 5, 6, 7, 8, 9, 10, 11, 12, 13, 14, 15, 16, 17, 18, 19, 20, 21, 22, 23] (fun i w v => match i with | 0 => v = .pointer (some ⟨T, 0, none⟩) | 1 => v = .int .i64 iw | 2 => v = .pointer (some ⟨T, 0, none⟩) | 3 => v = .pointer (some ⟨T, 0, none⟩) | 4 => v = .pointer (some ⟨T, iw, none⟩) | 5 => v = .pointer (some ⟨gs iw, 0, none⟩) | 6 => v = hashV (Spec.code (S iw).2.2 (B iw).2.2) | 7 => v = .pointer (some ⟨T, 0, none⟩) | 8 => v = .int .i64 iw | 9 => v = .pointer (some ⟨T, 0, none⟩) | 10 => v = .pointer (some ⟨T, 3, none⟩) | 11 => v = .pointer (some ⟨T, 3 + iw * 2, none⟩) | 12 => v = .pointer (some ⟨T, 3 + iw * 2, none⟩) | 13 => v = .slice (S iw).1 (S iw).2.2.length (S iw).2.1 | 14 => v = .pointer (some ⟨T, 0, none⟩) | 15 => v = .int .i64 iw | 16 => v = .pointer (some ⟨T, 0, none⟩) | 17 => v = .pointer (some ⟨T, 3, none⟩) | 18 => v = .pointer (some ⟨T, 3 + iw * 2, none⟩) | 19 => v = .pointer (some ⟨T, 3 + iw * 2 + 1, none⟩) | 20 => v = .slice (B iw).1 (B iw).2.2.length (B iw).2.1 | 21 => v = hashV (Spec.code (S iw).2.2 (B iw).2.2) | 22 => v = .bool true | 23 => v = .bool true | _ => True) (by kernel_rfl) (by kernel_rfl) (by rfl) rfl ?mono16 ?steps16 ?fin16
            case mono16 =>
              intro i w w' v h hE
              match i with
              | 0 => exact h
              | 1 => exact h
              | 2 => exact h
              | 3 => exact h
              | 4 => exact h
              | 5 => exact h
              | 6 => exact h
              | 7 => exact h
              | 8 => exact h
              | 9 => exact h
              | 10 => exact h
              | 11 => exact h
              | 12 => exact h
              | 13 => exact h
              | 14 => exact h
              | 15 => exact h
              | 16 => exact h
              | 17 => exact h
              | 18 => exact h
              | 19 => exact h
              | 20 => exact h
              | 21 => exact h
              | 22 => exact h
              | 23 => exact h
              | _ + 24 => trivial
            case steps16 =>
              refine stepE_cons ⟨_, rfl, fun a w hE hH => ?_⟩ ?_
              ·
                have e0 : a.tmps[0]? = some (.pointer (some ⟨T, 0, none⟩)) := hH.old 0 rfl
                exact Or.inl ⟨rfl, goodE_move _ rfl (eval_of e0) rfl⟩
              refine stepE_cons ⟨_, rfl, fun a w hE hH => ?_⟩ ?_
              ·
                have e5 : a.tmps[5]? = some (.int .i64 iw) := hH.old 5 rfl
                exact Or.inl ⟨rfl, goodE_move _ rfl (eval_of e5) rfl⟩
              refine stepE_cons ⟨_, rfl, fun a w hE hH => ?_⟩ ?_
              ·
                obtain ⟨v81, e81, g81⟩ := hH.dep 0 81 rfl (by kernel_rfl)
                have q81 : v81 = .pointer (some ⟨T, 0, none⟩) := g81
                subst q81
                exact Or.inl ⟨rfl, goodE_val (.pointer (some ⟨T, 0, none⟩)) (by simp [execOp, Act.eval, e81, go_sem]) rfl⟩
              refine stepE_cons ⟨_, rfl, fun a w hE hH => ?_⟩ ?_
              ·
                obtain ⟨v83, e83, g83⟩ := hH.dep 2 83 rfl (by kernel_rfl)
                have q83 : v83 = .pointer (some ⟨T, 0, none⟩) := g83
                subst q83
                exact Or.inl ⟨rfl, goodE_val (.pointer (some ⟨T, 0, none⟩)) (by simp [execOp, Act.eval, e83, go_sem]) rfl⟩
              refine stepE_cons ⟨_, rfl, fun a w hE hH => ?_⟩ ?_
              ·
                obtain ⟨v84, e84, g84⟩ := hH.dep 3 84 rfl (by kernel_rfl)
                have q84 : v84 = .pointer (some ⟨T, 0, none⟩) := g84
                subst q84
                obtain ⟨v82, e82, g82⟩ := hH.dep 1 82 rfl (by kernel_rfl)
                have q82 : v82 = .int .i64 iw := g82
                subst q82
                exact Or.inl ⟨(rfl), goodE_val (.pointer (some ⟨T, iw, none⟩)) (by simp [execOp, Act.eval, e84, e82, go_sem, b5]) rfl⟩
              refine stepE_cons ⟨_, rfl, fun a w hE hH => ?_⟩ ?_
              ·
                obtain ⟨v85, e85, g85⟩ := hH.dep 4 85 rfl (by kernel_rfl)
                have q85 : v85 = .pointer (some ⟨T, iw, none⟩) := g85
                subst q85
                exact Or.inl ⟨(rfl), goodE_val (.pointer (some ⟨gs iw, 0, none⟩)) (by simp [execOp, Act.eval, e85, go_sem, cell_ext ((Ext.to_drew _).trans hE) HCP.out]) rfl⟩
              refine stepE_cons ⟨_, rfl, fun a w hE hH => ?_⟩ ?_
              ·
                obtain ⟨v86, e86, g86⟩ := hH.dep 5 86 rfl (by kernel_rfl)
                have q86 : v86 = .pointer (some ⟨gs iw, 0, none⟩) := g86
                subst q86
                exact Or.inl ⟨(rfl), goodE_call rfl #[.pointer (some ⟨gs iw, 0, none⟩)] (by simp [Act.eval, e86]) _ Tryd.func31 (by kernel_rfl) (by kernel_rfl) ((kcode_calls w (gs iw) (ss iw) (S iw).2.2 (B iw).2.2 (HKw.out.ext ((Ext.to_drew _).trans hE)) (HFw.out.ext ((Ext.to_drew _).trans hE)) (HY.out.ext ((Ext.to_drew _).trans hE)) (by have := (HLN.out iw hi3).2; omega)).mono (fun e w' h => ⟨_, h.1, h.2, rfl⟩))⟩
              refine stepE_cons ⟨_, rfl, fun a w hE hH => ?_⟩ ?_
              ·
                have e0 : a.tmps[0]? = some (.pointer (some ⟨T, 0, none⟩)) := hH.old 0 rfl
                exact Or.inl ⟨rfl, goodE_move _ rfl (eval_of e0) rfl⟩
              refine stepE_cons ⟨_, rfl, fun a w hE hH => ?_⟩ ?_
              ·
                have e5 : a.tmps[5]? = some (.int .i64 iw) := hH.old 5 rfl
                exact Or.inl ⟨rfl, goodE_move _ rfl (eval_of e5) rfl⟩
              refine stepE_cons ⟨_, rfl, fun a w hE hH => ?_⟩ ?_
              ·
                obtain ⟨v88, e88, g88⟩ := hH.dep 7 88 rfl (by kernel_rfl)
                have q88 : v88 = .pointer (some ⟨T, 0, none⟩) := g88
                subst q88
                exact Or.inl ⟨rfl, goodE_val (.pointer (some ⟨T, 0, none⟩)) (by simp [execOp, Act.eval, e88, go_sem]) rfl⟩
              refine stepE_cons ⟨_, rfl, fun a w hE hH => ?_⟩ ?_
              ·
                obtain ⟨v90, e90, g90⟩ := hH.dep 9 90 rfl (by kernel_rfl)
                have q90 : v90 = .pointer (some ⟨T, 0, none⟩) := g90
                subst q90
                exact Or.inl ⟨rfl, goodE_val (.pointer (some ⟨T, 3, none⟩)) (by simp [execOp, Act.eval, e90, go_sem]) rfl⟩
              refine stepE_cons ⟨_, rfl, fun a w hE hH => ?_⟩ ?_
              ·
                obtain ⟨v91, e91, g91⟩ := hH.dep 10 91 rfl (by kernel_rfl)
                have q91 : v91 = .pointer (some ⟨T, 3, none⟩) := g91
                subst q91
                obtain ⟨v89, e89, g89⟩ := hH.dep 8 89 rfl (by kernel_rfl)
                have q89 : v89 = .int .i64 iw := g89
                subst q89
                exact Or.inl ⟨(rfl), goodE_val (.pointer (some ⟨T, 3 + iw * 2, none⟩)) (by simp [execOp, Act.eval, e91, e89, go_sem, b5]) rfl⟩
              refine stepE_cons ⟨_, rfl, fun a w hE hH => ?_⟩ ?_
              ·
                obtain ⟨v92, e92, g92⟩ := hH.dep 11 92 rfl (by kernel_rfl)
                have q92 : v92 = .pointer (some ⟨T, 3 + iw * 2, none⟩) := g92
                subst q92
                exact Or.inl ⟨rfl, goodE_val (.pointer (some ⟨T, 3 + iw * 2, none⟩)) (by simp [execOp, Act.eval, e92, go_sem]) rfl⟩
              refine stepE_cons ⟨_, rfl, fun a w hE hH => ?_⟩ ?_
              ·
                obtain ⟨v93, e93, g93⟩ := hH.dep 12 93 rfl (by kernel_rfl)
                have q93 : v93 = .pointer (some ⟨T, 3 + iw * 2, none⟩) := g93
                subst q93
                exact Or.inl ⟨(rfl), goodE_val (.slice (S iw).1 (S iw).2.2.length (S iw).2.1) (by simp [execOp, Act.eval, e93, go_sem, cell_ext ((Ext.to_drew _).trans hE) HCS.out]) rfl⟩
              refine stepE_cons ⟨_, rfl, fun a w hE hH => ?_⟩ ?_
              ·
                have e0 : a.tmps[0]? = some (.pointer (some ⟨T, 0, none⟩)) := hH.old 0 rfl
                exact Or.inl ⟨rfl, goodE_move _ rfl (eval_of e0) rfl⟩
              refine stepE_cons ⟨_, rfl, fun a w hE hH => ?_⟩ ?_
              ·
                have e5 : a.tmps[5]? = some (.int .i64 iw) := hH.old 5 rfl
                exact Or.inl ⟨rfl, goodE_move _ rfl (eval_of e5) rfl⟩
              refine stepE_cons ⟨_, rfl, fun a w hE hH => ?_⟩ ?_
              ·
                obtain ⟨v95, e95, g95⟩ := hH.dep 14 95 rfl (by kernel_rfl)
                have q95 : v95 = .pointer (some ⟨T, 0, none⟩) := g95
                subst q95
                exact Or.inl ⟨rfl, goodE_val (.pointer (some ⟨T, 0, none⟩)) (by simp [execOp, Act.eval, e95, go_sem]) rfl⟩
              refine stepE_cons ⟨_, rfl, fun a w hE hH => ?_⟩ ?_
              ·
                obtain ⟨v97, e97, g97⟩ := hH.dep 16 97 rfl (by kernel_rfl)
                have q97 : v97 = .pointer (some ⟨T, 0, none⟩) := g97
                subst q97
                exact Or.inl ⟨rfl, goodE_val (.pointer (some ⟨T, 3, none⟩)) (by simp [execOp, Act.eval, e97, go_sem]) rfl⟩
              refine stepE_cons ⟨_, rfl, fun a w hE hH => ?_⟩ ?_
              ·
                obtain ⟨v98, e98, g98⟩ := hH.dep 17 98 rfl (by kernel_rfl)
                have q98 : v98 = .pointer (some ⟨T, 3, none⟩) := g98
                subst q98
                obtain ⟨v96, e96, g96⟩ := hH.dep 15 96 rfl (by kernel_rfl)
                have q96 : v96 = .int .i64 iw := g96
                subst q96
                exact Or.inl ⟨(rfl), goodE_val (.pointer (some ⟨T, 3 + iw * 2, none⟩)) (by simp [execOp, Act.eval, e98, e96, go_sem, b5]) rfl⟩
              refine stepE_cons ⟨_, rfl, fun a w hE hH => ?_⟩ ?_
              ·
                obtain ⟨v99, e99, g99⟩ := hH.dep 18 99 rfl (by kernel_rfl)
                have q99 : v99 = .pointer (some ⟨T, 3 + iw * 2, none⟩) := g99
                subst q99
                exact Or.inl ⟨rfl, goodE_val (.pointer (some ⟨T, 3 + iw * 2 + 1, none⟩)) (by simp [execOp, Act.eval, e99, go_sem]) rfl⟩
              refine stepE_cons ⟨_, rfl, fun a w hE hH => ?_⟩ ?_
              ·
                obtain ⟨v100, e100, g100⟩ := hH.dep 19 100 rfl (by kernel_rfl)
                have q100 : v100 = .pointer (some ⟨T, 3 + iw * 2 + 1, none⟩) := g100
                subst q100
                exact Or.inl ⟨(rfl), goodE_val (.slice (B iw).1 (B iw).2.2.length (B iw).2.1) (by simp [execOp, Act.eval, e100, go_sem, cell_ext ((Ext.to_drew _).trans hE) HCB.out]) rfl⟩
              refine stepE_cons ⟨_, rfl, fun a w hE hH => ?_⟩ ?_
              ·
                obtain ⟨v94, e94, g94⟩ := hH.dep 13 94 rfl (by kernel_rfl)
                have q94 : v94 = .slice (S iw).1 (S iw).2.2.length (S iw).2.1 := g94
                subst q94
                obtain ⟨v101, e101, g101⟩ := hH.dep 20 101 rfl (by kernel_rfl)
                have q101 : v101 = .slice (B iw).1 (B iw).2.2.length (B iw).2.1 := g101
                subst q101
                exact Or.inl ⟨(rfl), goodE_call rfl #[.slice (S iw).1 (S iw).2.2.length (S iw).2.1, .slice (B iw).1 (B iw).2.2.length (B iw).2.1] (by simp [Act.eval, e94, e101]) _ Tryd.func37 (by kernel_rfl) (by kernel_rfl) ((refCode_calls w (S iw).1 (S iw).2.1 (S iw).2.2 (B iw).1 (B iw).2.1 (B iw).2.2 (HRw.out.ext ((Ext.to_drew _).trans hE)) ((HM2.out.t.okS iw hi3).2.1.ext ((Ext.to_drew _).trans hE)) (HM2.out.t.okS iw hi3).1 (by have := (HLN.out iw hi3).1; omega) ((HM2.out.t.okB iw hi3).2.1.ext ((Ext.to_drew _).trans hE)) (HM2.out.t.okB iw hi3).1 (by have := (HLN.out iw hi3).2; omega)).mono (fun e w' h => ⟨_, h.1, h.2, rfl⟩))⟩
              refine stepE_cons ⟨_, rfl, fun a w hE hH => ?_⟩ ?_
              ·
                obtain ⟨v87, e87, g87⟩ := hH.dep 6 87 rfl (by kernel_rfl)
                have q87 : v87 = hashV (Spec.code (S iw).2.2 (B iw).2.2) := g87
                subst q87
                obtain ⟨v102, e102, g102⟩ := hH.dep 21 102 rfl (by kernel_rfl)
                have q102 : v102 = hashV (Spec.code (S iw).2.2 (B iw).2.2) := g102
                subst q102
                exact Or.inl ⟨(rfl), goodE_val (.bool true) (by simp [execOp, Act.eval, e87, e102, eq28 w _ _ (Spec.code_length (S iw).2.2 (B iw).2.2) (Spec.code_length (S iw).2.2 (B iw).2.2), hashV, go_sem]) rfl⟩
              refine stepE_cons ⟨_, rfl, fun a w hE hH => ?_⟩ ?_
              ·
                obtain ⟨v103, e103, g103⟩ := hH.dep 22 103 rfl (by kernel_rfl)
                exact Or.inl ⟨rfl, goodE_assign v103 rfl (eval_of e103) g103⟩
              exact stepE_nil
            rintro vals wz hE hV
            have k8 : vals 23 = .bool true := hV 23 (by simp) rfl
            simp only [List.map_cons, List.map_nil, putAll, Act.put, List.setIfInBounds_toArray, List.set_cons_zero, List.set_cons_succ, k8]
            have HM3 := Aside0.mk (HM2.out.ext ((Ext.to_drew _).trans hE))
            clear hE hV k8
            go_wp2_with fail
            go_meet
            case rel => exact ⟨rfl, live, gs, ss, ks, kb, S, B, HM3.out.more (by omega), fun _ _ h => h, fun i hi _ _ => HL3.out i hi⟩
          · by_cases hk4 : kind = 4
            · subst hk4
              obtain ⟨jw, hj3, hjw⟩ : ∃ jw : Nat, jw < 3 ∧ ((iw : Int) + 1) % 3 = jw := ⟨(iw + 1) % 3, by omega, by omega⟩
              have b6 : (0 : Int) ≤ jw ∧ (jw : Int) < 3 := by omega
              have HW1 := Aside0.mk (IntWalk.i64_in ((iw : Int) + 1) (by omega))
              have HJ := Aside0.mk (show ((iw : Int) + 1) % 3 = jw ∧ ((iw : Int) + 1).tmod 3 = jw from ⟨hjw, by rw [Int.tmod_eq_emod_of_nonneg (by omega)]; exact hjw⟩)
              have hlj := HL3.out jw hj3
              have HCP := Aside0.mk (show w2.cell? ⟨T, jw, none⟩ = some (.pointer (some ⟨gs jw, 0, none⟩)) by rw [← ptrV_live hlj]; exact HM2.out.t.row.cell (tabL_p jw hj3))
              have HY := Aside0.mk (show Ky w2 (gs jw) (ss jw) (S jw).2.2 (B jw).2.2 by rw [← (HM2.out.eq jw hj3 hlj).1, ← (HM2.out.eq jw hj3 hlj).2]; exact HM2.out.t.ky jw hj3 hlj)
              obtain ⟨N, hN⟩ : ∃ N, N = w2.heap.size := ⟨_, rfl⟩
              have HN := Aside0.mk hN
              clear hN hlj hjw
              go_wp2_with fail
              refine ext_tail 15 [(0, 106), (1, 107), (2, 108), (3, 109), (4, 110), (5, 111), (6, 112), (7, 113), (8, 114), (9, 115), (10, 116), (11, 117), (12, 118), (13, 119)] [0, 1, 2, 3, 4, 5, 6, 7, 8, 9, 10, 11, 12, 13] (fun i w v => match i with | 0 => v = .pointer (some ⟨T, 0, none⟩) | 1 => v = .int .i64 iw | 2 => v = .pointer (some ⟨T, 0, none⟩) | 3 => v = .int .i64 iw | 4 => v = .int .i64 (iw + 1) | 5 => v = .int .i64 jw | 6 => v = .pointer (some ⟨T, 0, none⟩) | 7 => v = .pointer (some ⟨T, 0, none⟩) | 8 => v = .pointer (some ⟨T, jw, none⟩) | 9 => v = .pointer (some ⟨gs jw, 0, none⟩) | 10 => ∃ G s, v = .pointer (some ⟨G, 0, none⟩) ∧ N ≤ G ∧ N ≤ s ∧ Ky w G s (S jw).2.2 (B jw).2.2 | 11 => v = .pointer (some ⟨T, 0, none⟩) | 12 => v = .pointer (some ⟨T, 0, none⟩) | 13 => v = .pointer (some ⟨T, iw, none⟩) | _ => True) (by kernel_rfl) (by kernel_rfl) (by rfl) rfl ?mono18 ?steps18 ?fin18
              case mono18 =>
                intro i w w' v h hE
                match i with
                | 0 => exact h
                | 1 => exact h
                | 2 => exact h
                | 3 => exact h
                | 4 => exact h
                | 5 => exact h
                | 6 => exact h
                | 7 => exact h
                | 8 => exact h
                | 9 => exact h
                | 10 => exact h.elim fun G h => h.elim fun s h => ⟨G, s, h.1, h.2.1, h.2.2.1, h.2.2.2.ext hE⟩
                | 11 => exact h
                | 12 => exact h
                | 13 => exact h
                | _ + 14 => trivial
              case steps18 =>
                refine stepE_cons ⟨_, rfl, fun a w hE hH => ?_⟩ ?_
                ·
                  have e0 : a.tmps[0]? = some (.pointer (some ⟨T, 0, none⟩)) := hH.old 0 rfl
                  exact Or.inl ⟨rfl, goodE_move _ rfl (eval_of e0) rfl⟩
                refine stepE_cons ⟨_, rfl, fun a w hE hH => ?_⟩ ?_
                ·
                  have e5 : a.tmps[5]? = some (.int .i64 iw) := hH.old 5 rfl
                  exact Or.inl ⟨rfl, goodE_move _ rfl (eval_of e5) rfl⟩
                refine stepE_cons ⟨_, rfl, fun a w hE hH => ?_⟩ ?_
                ·
                  have e0 : a.tmps[0]? = some (.pointer (some ⟨T, 0, none⟩)) := hH.old 0 rfl
                  exact Or.inl ⟨rfl, goodE_move _ rfl (eval_of e0) rfl⟩
                refine stepE_cons ⟨_, rfl, fun a w hE hH => ?_⟩ ?_
                ·
                  have e5 : a.tmps[5]? = some (.int .i64 iw) := hH.old 5 rfl
                  exact Or.inl ⟨rfl, goodE_move _ rfl (eval_of e5) rfl⟩
                refine stepE_cons ⟨_, rfl, fun a w hE hH => ?_⟩ ?_
                ·
                  obtain ⟨v109, e109, g109⟩ := hH.dep 3 109 rfl (by kernel_rfl)
                  have q109 : v109 = .int .i64 iw := g109
                  subst q109
                  exact Or.inl ⟨(rfl), goodE_val (.int .i64 (iw + 1)) (by simp [execOp, Act.eval, e109, go_sem, b5, HW1.out]) rfl⟩
                refine stepE_cons ⟨_, rfl, fun a w hE hH => ?_⟩ ?_
                ·
                  obtain ⟨v110, e110, g110⟩ := hH.dep 4 110 rfl (by kernel_rfl)
                  have q110 : v110 = .int .i64 (iw + 1) := g110
                  subst q110
                  exact Or.inl ⟨(rfl), goodE_val (.int .i64 jw) (by simp [execOp, Act.eval, e110, go_sem, b5, HJ.out]) rfl⟩
                refine stepE_cons ⟨_, rfl, fun a w hE hH => ?_⟩ ?_
                ·
                  obtain ⟨v108, e108, g108⟩ := hH.dep 2 108 rfl (by kernel_rfl)
                  have q108 : v108 = .pointer (some ⟨T, 0, none⟩) := g108
                  subst q108
                  exact Or.inl ⟨rfl, goodE_val (.pointer (some ⟨T, 0, none⟩)) (by simp [execOp, Act.eval, e108, go_sem]) rfl⟩
                refine stepE_cons ⟨_, rfl, fun a w hE hH => ?_⟩ ?_
                ·
                  obtain ⟨v112, e112, g112⟩ := hH.dep 6 112 rfl (by kernel_rfl)
                  have q112 : v112 = .pointer (some ⟨T, 0, none⟩) := g112
                  subst q112
                  exact Or.inl ⟨rfl, goodE_val (.pointer (some ⟨T, 0, none⟩)) (by simp [execOp, Act.eval, e112, go_sem]) rfl⟩
                refine stepE_cons ⟨_, rfl, fun a w hE hH => ?_⟩ ?_
                ·
                  obtain ⟨v113, e113, g113⟩ := hH.dep 7 113 rfl (by kernel_rfl)
                  have q113 : v113 = .pointer (some ⟨T, 0, none⟩) := g113
                  subst q113
                  obtain ⟨v111, e111, g111⟩ := hH.dep 5 111 rfl (by kernel_rfl)
                  have q111 : v111 = .int .i64 jw := g111
                  subst q111
                  exact Or.inl ⟨(rfl), goodE_val (.pointer (some ⟨T, jw, none⟩)) (by simp [execOp, Act.eval, e113, e111, go_sem, b6]) rfl⟩
                refine stepE_cons ⟨_, rfl, fun a w hE hH => ?_⟩ ?_
                ·
                  obtain ⟨v114, e114, g114⟩ := hH.dep 8 114 rfl (by kernel_rfl)
                  have q114 : v114 = .pointer (some ⟨T, jw, none⟩) := g114
                  subst q114
                  exact Or.inl ⟨(rfl), goodE_val (.pointer (some ⟨gs jw, 0, none⟩)) (by simp [execOp, Act.eval, e114, go_sem, cell_ext ((Ext.to_drew _).trans hE) HCP.out]) rfl⟩
                refine stepE_cons ⟨_, rfl, fun a w hE hH => ?_⟩ ?_
                ·
                  obtain ⟨v115, e115, g115⟩ := hH.dep 9 115 rfl (by kernel_rfl)
                  have q115 : v115 = .pointer (some ⟨gs jw, 0, none⟩) := g115
                  subst q115
                  refine Or.inl ⟨(rfl), goodE_call rfl #[.pointer (some ⟨gs jw, 0, none⟩)] (by simp [Act.eval, e115]) _ Tryd.func30 (by kernel_rfl) (by kernel_rfl) ?_⟩
                  refine (kcopy_calls w (gs jw) (ss jw) (S jw).2.2 (B jw).2.2 (HY.out.ext ((Ext.to_drew _).trans hE))).mono ?_
                  rintro e w' ⟨G, s, rfl, hG, hs, hB, hY⟩
                  exact ⟨_, rfl, hB, G, s, rfl, by rw [HN.out]; exact Nat.le_trans (((Ext.to_drew _).trans hE)).size hG, by rw [HN.out]; exact Nat.le_trans (((Ext.to_drew _).trans hE)).size hs, hY⟩
                refine stepE_cons ⟨_, rfl, fun a w hE hH => ?_⟩ ?_
                ·
                  obtain ⟨v106, e106, g106⟩ := hH.dep 0 106 rfl (by kernel_rfl)
                  have q106 : v106 = .pointer (some ⟨T, 0, none⟩) := g106
                  subst q106
                  exact Or.inl ⟨rfl, goodE_val (.pointer (some ⟨T, 0, none⟩)) (by simp [execOp, Act.eval, e106, go_sem]) rfl⟩
                refine stepE_cons ⟨_, rfl, fun a w hE hH => ?_⟩ ?_
                ·
                  obtain ⟨v117, e117, g117⟩ := hH.dep 11 117 rfl (by kernel_rfl)
                  have q117 : v117 = .pointer (some ⟨T, 0, none⟩) := g117
                  subst q117
                  exact Or.inl ⟨rfl, goodE_val (.pointer (some ⟨T, 0, none⟩)) (by simp [execOp, Act.eval, e117, go_sem]) rfl⟩
                refine stepE_cons ⟨_, rfl, fun a w hE hH => ?_⟩ ?_
                ·
                  obtain ⟨v118, e118, g118⟩ := hH.dep 12 118 rfl (by kernel_rfl)
                  have q118 : v118 = .pointer (some ⟨T, 0, none⟩) := g118
                  subst q118
                  obtain ⟨v107, e107, g107⟩ := hH.dep 1 107 rfl (by kernel_rfl)
                  have q107 : v107 = .int .i64 iw := g107
                  subst q107
                  exact Or.inl ⟨(rfl), goodE_val (.pointer (some ⟨T, iw, none⟩)) (by simp [execOp, Act.eval, e118, e107, go_sem, b5]) rfl⟩
                exact stepE_nil
              refine ⟨⟨none, .store 56 (.tmp 119) (.tmp 116), _, _, _, none⟩, rfl, ?_⟩
              rintro vals wz hE hV
              have k116 : ∃ G s, (vals 10) = .pointer (some ⟨G, 0, none⟩) ∧ N ≤ G ∧ N ≤ s ∧ Ky wz G s (S jw).2.2 (B jw).2.2 := hV 10 (by simp) rfl
              have k119 : vals 13 = .pointer (some ⟨T, iw, none⟩) := hV 13 (by simp) rfl
              refine ⟨wantedFree rfl _, ?_⟩
              intro KK hKK
              simp only [List.map_cons, List.map_nil, putAll, Act.put, List.setIfInBounds_toArray, List.set_cons_zero, List.set_cons_succ, k119]
              obtain ⟨G, s, e116, hG, hs, hY⟩ := k116
              rw [e116]
              have hEz : Ext w2 wz := (Ext.to_drew _).trans hE
              have hRz := HM2.out.t.row.ext hEz
              have cy := hRz.cell (tabL_p iw hi3)
              have cf := hRz.free iw
              refine finE_skip (w1 := wz.setCell ⟨T, iw, none⟩ (.pointer (some ⟨G, 0, none⟩))) (by simp [execOp, Act.eval, go_sem, cy, cf]) (hKK _ _ ?_)
              obtain ⟨w3, hw3⟩ : ∃ w3, w3 = wz.setCell ⟨T, iw, none⟩ (.pointer (some ⟨G, 0, none⟩)) := ⟨_, rfl⟩
              rw [← hw3]
              rw [HN.out] at hG hs
              have hgl := HM2.out.rm.lt
              have hO3 : Only wz T w3 := by rw [hw3]; exact (Only.refl _ T).set iw _
              have HT3 := Aside0.mk (show T3 w3 T (upd live iw true) (upd gs iw G) (upd ss iw s) (upd ks iw (S jw).2.2) (upd kb iw (B jw).2.2) S B (A, c, x) by rw [hw3]; exact T3.setP HM2.out.t hEz hi3 hG hs hY)
              have HA3 := Aside0.mk (HM2.out.av.setP (i := iw) (g' := G) (s' := s) (by omega) (by omega))
              have HRm3 := Aside0.mk ((HM2.out.rm.ext hEz).only hO3 (HM2.out.av.nT.symm))
              have HB3 := Aside0.mk (below_only (HM2.out.ext hEz).be hO3 (Nat.le_refl _) (Nat.le_of_lt (HM2.out.t.ext hEz).row.lt))
              have HRG := Aside0.mk (show ∀ w', Ext w3 w' → w'.rangeAt T (3 + jw * 2) [.slice (S jw).1 (S jw).2.2.length (S jw).2.1, .slice (B jw).1 (B jw).2.2.length (B jw).2.1] from fun w' hE' k v hv => by
                match k, hv with
                | 0, hv => simp only [List.getElem?_cons_zero, Option.some.injEq] at hv; rw [← hv]; exact (HT3.out.row.ext hE').cell (tabL_s jw hj3)
                | 1, hv => simp only [List.getElem?_cons_succ, List.getElem?_cons_zero, Option.some.injEq] at hv; rw [← hv]; exact (HT3.out.row.ext hE').cell (tabL_b jw hj3)
                | k + 2, hv => simp at hv)
              clear hE hV k119 e116 hG hs hY hEz hRz cy cf hw3 hO3 hgl
              go_wp2_with fail
              refine ext_tail 14 [(0, 120), (1, 121), (2, 122), (3, 123), (4, 124), (5, 125), (6, 126), (7, 127), (8, 128), (9, 129), (10, 130), (11, 131), (12, 132)] [0, 1, 2, 3, 4, 5, 6, 7, 8, 9, 10, 11, 12] (fun i w v => match i with | 0 => v = .pointer (some ⟨T, 0, none⟩) | 1 => v = .int .i64 iw | 2 => v = .pointer (some ⟨T, 0, none⟩) | 3 => v = .int .i64 iw | 4 => v = .int .i64 (iw + 1) | 5 => v = .int .i64 jw | 6 => v = .pointer (some ⟨T, 0, none⟩) | 7 => v = .pointer (some ⟨T, 3, none⟩) | 8 => v = .pointer (some ⟨T, 3 + jw * 2, none⟩) | 9 => v = .agg #[.slice (S jw).1 (S jw).2.2.length (S jw).2.1, .slice (B jw).1 (B jw).2.2.length (B jw).2.1] | 10 => v = .pointer (some ⟨T, 0, none⟩) | 11 => v = .pointer (some ⟨T, 3, none⟩) | 12 => v = .pointer (some ⟨T, 3 + iw * 2, none⟩) | _ => True) (by kernel_rfl) (by kernel_rfl) (by rfl) rfl ?mono19 ?steps19 ?fin19
              case mono19 =>
                intro i w w' v h hE
                match i with
                | 0 => exact h
                | 1 => exact h
                | 2 => exact h
                | 3 => exact h
                | 4 => exact h
                | 5 => exact h
                | 6 => exact h
                | 7 => exact h
                | 8 => exact h
                | 9 => exact h
                | 10 => exact h
                | 11 => exact h
                | 12 => exact h
                | _ + 13 => trivial
              case steps19 =>
                refine stepE_cons ⟨_, rfl, fun a w hE hH => ?_⟩ ?_
                ·
                  have e0 : a.tmps[0]? = some (.pointer (some ⟨T, 0, none⟩)) := hH.old 0 rfl
                  exact Or.inl ⟨rfl, goodE_move _ rfl (eval_of e0) rfl⟩
                refine stepE_cons ⟨_, rfl, fun a w hE hH => ?_⟩ ?_
                ·
                  have e5 : a.tmps[5]? = some (.int .i64 iw) := hH.old 5 rfl
                  exact Or.inl ⟨rfl, goodE_move _ rfl (eval_of e5) rfl⟩
                refine stepE_cons ⟨_, rfl, fun a w hE hH => ?_⟩ ?_
                ·
                  have e0 : a.tmps[0]? = some (.pointer (some ⟨T, 0, none⟩)) := hH.old 0 rfl
                  exact Or.inl ⟨rfl, goodE_move _ rfl (eval_of e0) rfl⟩
                refine stepE_cons ⟨_, rfl, fun a w hE hH => ?_⟩ ?_
                ·
                  have e5 : a.tmps[5]? = some (.int .i64 iw) := hH.old 5 rfl
                  exact Or.inl ⟨rfl, goodE_move _ rfl (eval_of e5) rfl⟩
                refine stepE_cons ⟨_, rfl, fun a w hE hH => ?_⟩ ?_
                ·
                  obtain ⟨v123, e123, g123⟩ := hH.dep 3 123 rfl (by kernel_rfl)
                  have q123 : v123 = .int .i64 iw := g123
                  subst q123
                  exact Or.inl ⟨(rfl), goodE_val (.int .i64 (iw + 1)) (by simp [execOp, Act.eval, e123, go_sem, b5, HW1.out]) rfl⟩
                refine stepE_cons ⟨_, rfl, fun a w hE hH => ?_⟩ ?_
                ·
                  obtain ⟨v124, e124, g124⟩ := hH.dep 4 124 rfl (by kernel_rfl)
                  have q124 : v124 = .int .i64 (iw + 1) := g124
                  subst q124
                  exact Or.inl ⟨(rfl), goodE_val (.int .i64 jw) (by simp [execOp, Act.eval, e124, go_sem, b5, HJ.out]) rfl⟩
                refine stepE_cons ⟨_, rfl, fun a w hE hH => ?_⟩ ?_
                ·
                  obtain ⟨v122, e122, g122⟩ := hH.dep 2 122 rfl (by kernel_rfl)
                  have q122 : v122 = .pointer (some ⟨T, 0, none⟩) := g122
                  subst q122
                  exact Or.inl ⟨rfl, goodE_val (.pointer (some ⟨T, 0, none⟩)) (by simp [execOp, Act.eval, e122, go_sem]) rfl⟩
                refine stepE_cons ⟨_, rfl, fun a w hE hH => ?_⟩ ?_
                ·
                  obtain ⟨v126, e126, g126⟩ := hH.dep 6 126 rfl (by kernel_rfl)
                  have q126 : v126 = .pointer (some ⟨T, 0, none⟩) := g126
                  subst q126
                  exact Or.inl ⟨rfl, goodE_val (.pointer (some ⟨T, 3, none⟩)) (by simp [execOp, Act.eval, e126, go_sem]) rfl⟩
                refine stepE_cons ⟨_, rfl, fun a w hE hH => ?_⟩ ?_
                ·
                  obtain ⟨v127, e127, g127⟩ := hH.dep 7 127 rfl (by kernel_rfl)
                  have q127 : v127 = .pointer (some ⟨T, 3, none⟩) := g127
                  subst q127
                  obtain ⟨v125, e125, g125⟩ := hH.dep 5 125 rfl (by kernel_rfl)
                  have q125 : v125 = .int .i64 jw := g125
                  subst q125
                  exact Or.inl ⟨(rfl), goodE_val (.pointer (some ⟨T, 3 + jw * 2, none⟩)) (by simp [execOp, Act.eval, e127, e125, go_sem, b6]) rfl⟩
                refine stepE_cons ⟨_, rfl, fun a w hE hH => ?_⟩ ?_
                ·
                  obtain ⟨v128, e128, g128⟩ := hH.dep 8 128 rfl (by kernel_rfl)
                  have q128 : v128 = .pointer (some ⟨T, 3 + jw * 2, none⟩) := g128
                  subst q128
                  exact Or.inl ⟨(rfl), goodE_row T (3 + jw * 2) [.slice (S jw).1 (S jw).2.2.length (S jw).2.1, .slice (B jw).1 (B jw).2.2.length (B jw).2.1] _ rfl (eval_of e128) (HRG.out w ((Ext.to_drew _).trans hE)) Tryd.underlying59 rfl (by kernel_rfl) rfl⟩
                refine stepE_cons ⟨_, rfl, fun a w hE hH => ?_⟩ ?_
                ·
                  obtain ⟨v120, e120, g120⟩ := hH.dep 0 120 rfl (by kernel_rfl)
                  have q120 : v120 = .pointer (some ⟨T, 0, none⟩) := g120
                  subst q120
                  exact Or.inl ⟨rfl, goodE_val (.pointer (some ⟨T, 0, none⟩)) (by simp [execOp, Act.eval, e120, go_sem]) rfl⟩
                refine stepE_cons ⟨_, rfl, fun a w hE hH => ?_⟩ ?_
                ·
                  obtain ⟨v130, e130, g130⟩ := hH.dep 10 130 rfl (by kernel_rfl)
                  have q130 : v130 = .pointer (some ⟨T, 0, none⟩) := g130
                  subst q130
                  exact Or.inl ⟨rfl, goodE_val (.pointer (some ⟨T, 3, none⟩)) (by simp [execOp, Act.eval, e130, go_sem]) rfl⟩
                refine stepE_cons ⟨_, rfl, fun a w hE hH => ?_⟩ ?_
                ·
                  obtain ⟨v131, e131, g131⟩ := hH.dep 11 131 rfl (by kernel_rfl)
                  have q131 : v131 = .pointer (some ⟨T, 3, none⟩) := g131
                  subst q131
                  obtain ⟨v121, e121, g121⟩ := hH.dep 1 121 rfl (by kernel_rfl)
                  have q121 : v121 = .int .i64 iw := g121
                  subst q121
                  exact Or.inl ⟨(rfl), goodE_val (.pointer (some ⟨T, 3 + iw * 2, none⟩)) (by simp [execOp, Act.eval, e131, e121, go_sem, b5]) rfl⟩
                exact stepE_nil
              refine ⟨⟨none, .store 59 (.tmp 132) (.tmp 129), _, _, _, none⟩, rfl, ?_⟩
              rintro vals wz hE hV
              have k129 : vals 9 = .agg #[.slice (S jw).1 (S jw).2.2.length (S jw).2.1, .slice (B jw).1 (B jw).2.2.length (B jw).2.1] := hV 9 (by simp) rfl
              have k132 : vals 12 = .pointer (some ⟨T, 3 + iw * 2, none⟩) := hV 12 (by simp) rfl
              refine ⟨wantedFree rfl _, ?_⟩
              intro KK hKK
              simp only [List.map_cons, List.map_nil, putAll, Act.put, List.setIfInBounds_toArray, List.set_cons_zero, List.set_cons_succ, k129, k132]
              have hEz : Ext w3 wz := (Ext.to_drew _).trans hE
              have hTz := HT3.out.ext hEz
              refine finE_skip (w1 := (wz.setCell ⟨T, 3 + iw * 2, none⟩ (.slice (S jw).1 (S jw).2.2.length (S jw).2.1)).setCell ⟨T, 3 + iw * 2 + 1, none⟩ (.slice (B jw).1 (B jw).2.2.length (B jw).2.1)) (exec_store rfl (run_store2 hTz.row (show 3 + iw * 2 + 1 < 9 by omega) (S jw) (B jw))) (hKK _ _ ?_)
              obtain ⟨w4, hw4⟩ : ∃ w4, w4 = (wz.setCell ⟨T, 3 + iw * 2, none⟩ (.slice (S jw).1 (S jw).2.2.length (S jw).2.1)).setCell ⟨T, 3 + iw * 2 + 1, none⟩ (.slice (B jw).1 (B jw).2.2.length (B jw).2.1) := ⟨_, rfl⟩
              rw [← hw4]
              have hO4 : Only wz T w4 := by rw [hw4]; exact ((Only.refl _ T).set _ _).set _ _
              have HT4 := Aside0.mk (show T3 w4 T (upd live iw true) (upd gs iw G) (upd ss iw s) (upd ks iw (S jw).2.2) (upd kb iw (B jw).2.2) (upd S iw (S jw)) (upd B iw (B jw)) (A, c, x) by
                rw [hw4]
                exact T3.setR (p := S jw) (q := B jw) hTz hi3 (hTz.okS jw hj3) (hTz.okB jw hj3))
              have HA4 := Aside0.mk (HA3.out.setR (i := iw) (p := S jw) (q := B jw) (HA3.out.nS jw hj3) (HA3.out.nB jw hj3))
              have HRm4 := Aside0.mk ((HRm3.out.ext hEz).only hO4 (HA3.out.nT.symm))
              have HB4 := Aside0.mk (below_only (Ext.below HB3.out (Nat.le_of_lt HT3.out.row.lt) hEz) hO4 (Nat.le_refl _) (Nat.le_of_lt hTz.row.lt))
              have cy := HT4.out.row.cell (tabL_p iw hi3)
              rw [show ptrV (upd live iw true) (upd gs iw G) iw = .pointer (some ⟨G, 0, none⟩) by unfold ptrV; rw [upd_self, upd_self]; rfl] at cy
              clear hE hV k129 k132 hEz hTz hw4 hO4
              go_wp2_with fail
              go_meet
              case rel => exact ⟨rfl, _, _, _, _, _, _, _, ⟨HT4.out, HA4.out, HRm4.out, HB4.out, eq_put HM2.out.eq iw (S jw) (B jw), len_put HM2.out.len iw (S jw) (B jw) (HLN.out jw hj3).1 (by have := (HLN.out jw hj3).2; omega)⟩, live_put iw, fun i hi _ _ => live_put iw i hi (HL3.out i hi)⟩
            · by_cases hk5 : kind = 5
              · subst hk5
                obtain ⟨q, hq⟩ : ∃ q, q = (B iw).2.2 := ⟨_, rfl⟩
                have HQ := Aside0.mk hq
                have HQL := Aside0.mk (show q.length ≤ 1000000 by rw [hq]; have := (HLN.out iw hi3).2; omega)
                have HBC := Aside0.mk (show q.length ≤ (B iw).2.1 by rw [hq]; exact (HM2.out.t.okB iw hi3).1)
                have cb : w2.cell? ⟨T, 3 + iw * 2 + 1, none⟩ = some (.slice (B iw).1 q.length (B iw).2.1) := by rw [hq]; exact HM2.out.t.row.cell (tabL_b iw hi3)
                have hbb : Bs w2 (B iw).1 q.length q := by rw [hq]; exact (HM2.out.t.okB iw hi3).2.1
                have HB2 := Aside0.mk hbb
                clear hbb hq
                go_wp2_with fail
                refine (roomy_calls w2 (B iw).1 (B iw).2.1 q HB2.out HBC.out (by have := HQL.out; omega)).mono ?_
                rintro e w3 ⟨g5, c5, rfl, hg5, hE3, hR5⟩
                have HM3 := Aside0.mk (HM2.out.ext hE3)
                have HKw := Aside0.mk (HK.out.below HM3.out.be h4)
                have HFw := Aside0.mk (HF.out.below HM3.out.be (by omega))
                have HRw := Aside0.mk (show RTab w3 from HR.out.below3 HM3.out.be (by omega))
                have HXC := Aside0.mk (show x.length ≤ c2 by have h := HM2.out.rm.cap; exact Nat.le_trans (Nat.le_add_right _ _) h)
                have HCB := Aside0.mk (cell_ext hE3 cb)
                have HBB := Aside0.mk (HB2.out.ext hE3)
                have HR5 := Aside0.mk hR5
                obtain ⟨kk, hkk⟩ : ∃ kk : Nat, ((q.length : Int) / 3) = kk := ⟨q.length / 3, by omega⟩
                have hkl : kk ≤ q.length := by omega
                have b7 : (0 : Int) ≤ kk ∧ (kk : Int) ≤ 1000000 := by have := HQL.out; omega
                have hcap5 := hR5.cap
                obtain ⟨i5, hi5, _, hsz5, _⟩ := i5
                have hc1 := cut_to (P := Tryd.prog) 24 5 .i64 Tryd.underlying24 hi5 (some ⟨g5, 0, none⟩) q.length c5 (kk : Int) (by omega) (by omega) (by omega)
                rw [Int.toNat_natCast] at hc1
                have hc2 := cut_from (P := Tryd.prog) 24 5 .i64 Tryd.underlying24 hi5 1 hsz5 (some ⟨g5, 0, none⟩) q.length c5 (kk : Int) (by omega) (by omega)
                rw [Int.toNat_natCast, if_neg (by omega), Nat.mul_one, Option.map_some, addr_add, Nat.zero_add] at hc2
                have HC1 := Aside0.mk hc1
                have HC2 := Aside0.mk hc2
                have HFL := Aside0.mk (show [q.take kk, [], q.drop kk].flatten = q by simp)
                have hq4 : Bs w3 (some ⟨g5, 0, none⟩) (q ++ marks4).length (q ++ marks4) := by rw [show (q ++ marks4).length = q.length + 4 by simp [marks4]]; exact hR5.rd
                have hqq := hR5.bs
                have HBS := Aside0.mk (show ∀ w', Ext w3 w' → Bss (w'.alloc (.cells #[.slice (some ⟨g5, 0, none⟩) kk c5, .slice none 0 0, .slice (some ⟨g5, kk, none⟩) (q.length - kk) (c5 - kk)] 24)) (some ⟨w'.heap.size, 0, none⟩) 3 [q.take kk, [], q.drop kk] from fun w' hE' => by
                  have t1 := (hqq.ext hE').take kk hkl
                  have t2 := (hqq.ext hE').drop (c := c5) kk hkl (by omega)
                  rw [if_neg (by omega), Option.map_some, addr_add, Nat.zero_add] at t2
                  have h1 : (q.take kk).length = kk := by simp; omega
                  have h2 : (q.drop kk).length = q.length - kk := by simp
                  rw [h1] at t1
                  rw [h2] at t2
                  have := Bss.of_row (t := 24) (ls := [(some ⟨g5, 0, none⟩, c5, q.take kk), (none, 0, []), (some ⟨g5, kk, none⟩, c5 - kk, q.drop kk)]) (Row.alloc w' [.slice (some ⟨g5, 0, none⟩) kk c5, .slice none 0 0, .slice (some ⟨g5, kk, none⟩) (q.length - kk) (c5 - kk)] 24 |> fun h => by simpa [pv, h1, h2] using h) (fun l hl => by
                    have hEn : Ext w' (w'.alloc (.cells #[.slice (some ⟨g5, 0, none⟩) kk c5, .slice none 0 0, .slice (some ⟨g5, kk, none⟩) (q.length - kk) (c5 - kk)] 24)) := (Ext.refl w').alloc _
                    simp only [List.mem_cons, List.not_mem_nil, or_false] at hl
                    rcases hl with rfl | rfl | rfl
                    · exact ⟨by show (q.take kk).length ≤ c5; rw [h1]; omega, by show Bs _ _ (q.take kk).length _; rw [h1]; exact t1.ext hEn⟩
                    · exact ⟨Nat.le_refl _, Bs.none_ _ _⟩
                    · exact ⟨by show (q.drop kk).length ≤ c5 - kk; rw [h2]; omega, by show Bs _ _ (q.drop kk).length _; rw [h2]; exact t2.ext hEn⟩) (by simp)
                  exact this)
                clear hg5 hE3 hR5 hcap5 hi5 hsz5 hc1 hc2 hq4 hqq cb
                go_wp2_with fail
                refine ext_region 31 [(0, 153), (1, 154), (2, 155), (3, 156), (4, 157), (5, 158), (6, 159), (7, 160), (8, 161), (9, 162), (10, 163), (11, 164), (12, 165), (13, 166), (14, 167), (15, 168), (16, 169), (17, 170), (18, 171), (19, 172), (20, 173), (21, 174), (22, 175), (23, 176), (24, 177), (25, 178), (26, 179), (27, 180), (28, 181), (29, 182), (30, 8)] [0, 1, 2, 3, 4, 5, 6, 7, 8, 9, 10, 11, 12, 13, 14, 15, 16, 17, 18, 19, 20, 21, 22, 23, 24, 25, 26, 27, 28, 29, 30] (fun i w v => match i with | 0 => v = .slice (some ⟨g, 0, none⟩) x.length c2 | 1 => v = .slice (some ⟨g5, 0, none⟩) q.length c5 | 2 => v = .int .i64 kk | 3 => v = .slice (some ⟨g5, 0, none⟩) kk c5 | 4 => v = .slice (some ⟨g5, 0, none⟩) q.length c5 | 5 => v = .int .i64 kk | 6 => v = .slice (some ⟨g5, kk, none⟩) (q.length - kk) (c5 - kk) | 7 => ∃ b, v = .slice (some ⟨b, 0, none⟩) 3 3 ∧ Bss w (some ⟨b, 0, none⟩) 3 [q.take kk, [], q.drop kk] | 8 => v = hashV (Spec.code x q) | 9 => v = .slice A x.length c | 10 => v = .pointer (some ⟨T, 0, none⟩) | 11 => v = .int .i64 iw | 12 => v = .pointer (some ⟨T, 0, none⟩) | 13 => v = .pointer (some ⟨T, 3, none⟩) | 14 => v = .pointer (some ⟨T, 3 + iw * 2, none⟩) | 15 => v = .pointer (some ⟨T, 3 + iw * 2 + 1, none⟩) | 16 => v = .slice (B iw).1 q.length (B iw).2.1 | 17 => v = hashV (Spec.code x q) | 18 => v = .bool true | 19 => v = .bool true | 20 => v = .slice (some ⟨g5, 0, none⟩) q.length c5 | 21 => v = .pointer (some ⟨T, 0, none⟩) | 22 => v = .int .i64 iw | 23 => v = .pointer (some ⟨T, 0, none⟩) | 24 => v = .pointer (some ⟨T, 3, none⟩) | 25 => v = .pointer (some ⟨T, 3 + iw * 2, none⟩) | 26 => v = .pointer (some ⟨T, 3 + iw * 2 + 1, none⟩) | 27 => v = .slice (B iw).1 q.length (B iw).2.1 | 28 => v = .bool true | 29 => v = .bool true | 30 => v = .bool true | _ => True) (by kernel_rfl) (by kernel_rfl) (by rfl) rfl ?mono24 ?steps24 ?fin24
                case mono24 =>
                  intro i w w' v h hE
                  match i with
                  | 0 => exact h
                  | 1 => exact h
                  | 2 => exact h
                  | 3 => exact h
                  | 4 => exact h
                  | 5 => exact h
                  | 6 => exact h
                  | 7 => exact h.elim fun b h => ⟨b, h.1, h.2.ext hE⟩
                  | 8 => exact h
                  | 9 => exact h
                  | 10 => exact h
                  | 11 => exact h
                  | 12 => exact h
                  | 13 => exact h
                  | 14 => exact h
                  | 15 => exact h
                  | 16 => exact h
                  | 17 => exact h
                  | 18 => exact h
                  | 19 => exact h
                  | 20 => exact h
                  | 21 => exact h
                  | 22 => exact h
                  | 23 => exact h
                  | 24 => exact h
                  | 25 => exact h
                  | 26 => exact h
                  | 27 => exact h
                  | 28 => exact h
                  | 29 => exact h
                  | 30 => exact h
                  | _ + 31 => trivial
                case steps24 =>
                  refine stepE_cons ⟨_, rfl, fun a w hE hH => ?_⟩ ?_
                  ·
                    have e7 : a.tmps[7]? = some (.slice (some ⟨g, 0, none⟩) x.length c2) := hH.old 7 rfl
                    exact Or.inl ⟨rfl, goodE_move _ rfl (eval_of e7) rfl⟩
                  refine stepE_cons ⟨_, rfl, fun a w hE hH => ?_⟩ ?_
                  ·
                    have e9 : a.tmps[9]? = some (.slice (some ⟨g5, 0, none⟩) q.length c5) := hH.old 9 rfl
                    exact Or.inl ⟨rfl, goodE_move _ rfl (eval_of e9) rfl⟩
                  refine stepE_cons ⟨_, rfl, fun a w hE hH => ?_⟩ ?_
                  ·
                    have e10 : a.tmps[10]? = some (.int .i64 kk) := hH.old 10 rfl
                    exact Or.inl ⟨rfl, goodE_move _ rfl (eval_of e10) rfl⟩
                  refine stepE_cons ⟨_, rfl, fun a w hE hH => ?_⟩ ?_
                  ·
                    obtain ⟨v154, e154, g154⟩ := hH.dep 1 154 rfl (by kernel_rfl)
                    have q154 : v154 = .slice (some ⟨g5, 0, none⟩) q.length c5 := g154
                    subst q154
                    obtain ⟨v155, e155, g155⟩ := hH.dep 2 155 rfl (by kernel_rfl)
                    have q155 : v155 = .int .i64 kk := g155
                    subst q155
                    exact Or.inl ⟨(rfl), goodE_val (.slice (some ⟨g5, 0, none⟩) kk c5) (exec_slice rfl (by simp only [Option.map_some, Option.map_none, eval_of e154, eval_of e155]; exact HC1.out w)) rfl⟩
                  refine stepE_cons ⟨_, rfl, fun a w hE hH => ?_⟩ ?_
                  ·
                    have e9 : a.tmps[9]? = some (.slice (some ⟨g5, 0, none⟩) q.length c5) := hH.old 9 rfl
                    exact Or.inl ⟨rfl, goodE_move _ rfl (eval_of e9) rfl⟩
                  refine stepE_cons ⟨_, rfl, fun a w hE hH => ?_⟩ ?_
                  ·
                    have e10 : a.tmps[10]? = some (.int .i64 kk) := hH.old 10 rfl
                    exact Or.inl ⟨rfl, goodE_move _ rfl (eval_of e10) rfl⟩
                  refine stepE_cons ⟨_, rfl, fun a w hE hH => ?_⟩ ?_
                  ·
                    obtain ⟨v157, e157, g157⟩ := hH.dep 4 157 rfl (by kernel_rfl)
                    have q157 : v157 = .slice (some ⟨g5, 0, none⟩) q.length c5 := g157
                    subst q157
                    obtain ⟨v158, e158, g158⟩ := hH.dep 5 158 rfl (by kernel_rfl)
                    have q158 : v158 = .int .i64 kk := g158
                    subst q158
                    exact Or.inl ⟨(rfl), goodE_val (.slice (some ⟨g5, kk, none⟩) (q.length - kk) (c5 - kk)) (exec_slice rfl (by simp only [Option.map_some, Option.map_none, eval_of e157, eval_of e158]; exact HC2.out w)) rfl⟩
                  refine stepE_cons ⟨_, rfl, fun a w hE hH => ?_⟩ ?_
                  ·
                    obtain ⟨v156, e156, g156⟩ := hH.dep 3 156 rfl (by kernel_rfl)
                    have q156 : v156 = .slice (some ⟨g5, 0, none⟩) kk c5 := g156
                    subst q156
                    obtain ⟨v159, e159, g159⟩ := hH.dep 6 159 rfl (by kernel_rfl)
                    have q159 : v159 = .slice (some ⟨g5, kk, none⟩) (q.length - kk) (c5 - kk) := g159
                    subst q159
                    refine Or.inl ⟨(rfl), goodE_new (.slice (some ⟨w.heap.size, 0, none⟩) 3 3) (w.alloc (.cells #[.slice (some ⟨g5, 0, none⟩) kk c5, .slice none 0 0, .slice (some ⟨g5, kk, none⟩) (q.length - kk) (c5 - kk)] 24)) (by simp [execOp, Act.eval, e156, e159, go_sem]) ((Ext.refl w).alloc _) ⟨w.heap.size, rfl, ?_⟩⟩
                    exact HBS.out w ((Ext.to_drew _).trans hE)
                  refine stepE_cons ⟨_, rfl, fun a w hE hH => ?_⟩ ?_
                  ·
                    obtain ⟨v153, e153, g153⟩ := hH.dep 0 153 rfl (by kernel_rfl)
                    have q153 : v153 = .slice (some ⟨g, 0, none⟩) x.length c2 := g153
                    subst q153
                    obtain ⟨v160, e160, g160⟩ := hH.dep 7 160 rfl (by kernel_rfl)
                    obtain ⟨b0, rfl, hb0⟩ := g160
                    refine Or.inl ⟨(rfl), goodE_call rfl #[.slice (some ⟨g, 0, none⟩) x.length c2, .slice (some ⟨b0, 0, none⟩) 3 3] (by simp [Act.eval, e153, e160]) _ Tryd.func26 (by kernel_rfl) (by kernel_rfl) ?_⟩
                    refine (mcode_calls w (some ⟨g, 0, none⟩) c2 x (some ⟨b0, 0, none⟩) 3 [q.take kk, [], q.drop kk] (HKw.out.ext ((Ext.to_drew _).trans hE)) (HFw.out.ext ((Ext.to_drew _).trans hE)) (HM3.out.rm.bs.ext ((Ext.to_drew _).trans hE)) HXC.out (by have := HXL.out; omega) hb0 (by rw [HFL.out]; have := HQL.out; omega)).mono ?_
                    rintro e w' ⟨rfl, hB⟩
                    exact ⟨_, rfl, hB, by rw [HFL.out]; rfl⟩
                  refine stepE_cons ⟨_, rfl, fun a w hE hH => ?_⟩ ?_
                  ·
                    have e6 : a.tmps[6]? = some (.slice A x.length c) := hH.old 6 rfl
                    exact Or.inl ⟨rfl, goodE_move _ rfl (eval_of e6) rfl⟩
                  refine stepE_cons ⟨_, rfl, fun a w hE hH => ?_⟩ ?_
                  ·
                    have e0 : a.tmps[0]? = some (.pointer (some ⟨T, 0, none⟩)) := hH.old 0 rfl
                    exact Or.inl ⟨rfl, goodE_move _ rfl (eval_of e0) rfl⟩
                  refine stepE_cons ⟨_, rfl, fun a w hE hH => ?_⟩ ?_
                  ·
                    have e5 : a.tmps[5]? = some (.int .i64 iw) := hH.old 5 rfl
                    exact Or.inl ⟨rfl, goodE_move _ rfl (eval_of e5) rfl⟩
                  refine stepE_cons ⟨_, rfl, fun a w hE hH => ?_⟩ ?_
                  ·
                    obtain ⟨v163, e163, g163⟩ := hH.dep 10 163 rfl (by kernel_rfl)
                    have q163 : v163 = .pointer (some ⟨T, 0, none⟩) := g163
                    subst q163
                    exact Or.inl ⟨rfl, goodE_val (.pointer (some ⟨T, 0, none⟩)) (by simp [execOp, Act.eval, e163, go_sem]) rfl⟩
                  refine stepE_cons ⟨_, rfl, fun a w hE hH => ?_⟩ ?_
                  ·
                    obtain ⟨v165, e165, g165⟩ := hH.dep 12 165 rfl (by kernel_rfl)
                    have q165 : v165 = .pointer (some ⟨T, 0, none⟩) := g165
                    subst q165
                    exact Or.inl ⟨rfl, goodE_val (.pointer (some ⟨T, 3, none⟩)) (by simp [execOp, Act.eval, e165, go_sem]) rfl⟩
                  refine stepE_cons ⟨_, rfl, fun a w hE hH => ?_⟩ ?_
                  ·
                    obtain ⟨v166, e166, g166⟩ := hH.dep 13 166 rfl (by kernel_rfl)
                    have q166 : v166 = .pointer (some ⟨T, 3, none⟩) := g166
                    subst q166
                    obtain ⟨v164, e164, g164⟩ := hH.dep 11 164 rfl (by kernel_rfl)
                    have q164 : v164 = .int .i64 iw := g164
                    subst q164
                    exact Or.inl ⟨(rfl), goodE_val (.pointer (some ⟨T, 3 + iw * 2, none⟩)) (by simp [execOp, Act.eval, e166, e164, go_sem, b5]) rfl⟩
                  refine stepE_cons ⟨_, rfl, fun a w hE hH => ?_⟩ ?_
                  ·
                    obtain ⟨v167, e167, g167⟩ := hH.dep 14 167 rfl (by kernel_rfl)
                    have q167 : v167 = .pointer (some ⟨T, 3 + iw * 2, none⟩) := g167
                    subst q167
                    exact Or.inl ⟨rfl, goodE_val (.pointer (some ⟨T, 3 + iw * 2 + 1, none⟩)) (by simp [execOp, Act.eval, e167, go_sem]) rfl⟩
                  refine stepE_cons ⟨_, rfl, fun a w hE hH => ?_⟩ ?_
                  ·
                    obtain ⟨v168, e168, g168⟩ := hH.dep 15 168 rfl (by kernel_rfl)
                    have q168 : v168 = .pointer (some ⟨T, 3 + iw * 2 + 1, none⟩) := g168
                    subst q168
                    exact Or.inl ⟨(rfl), goodE_val (.slice (B iw).1 q.length (B iw).2.1) (by simp [execOp, Act.eval, e168, go_sem, cell_ext ((Ext.to_drew _).trans hE) HCB.out]) rfl⟩
                  refine stepE_cons ⟨_, rfl, fun a w hE hH => ?_⟩ ?_
                  ·
                    obtain ⟨v162, e162, g162⟩ := hH.dep 9 162 rfl (by kernel_rfl)
                    have q162 : v162 = .slice A x.length c := g162
                    subst q162
                    obtain ⟨v169, e169, g169⟩ := hH.dep 16 169 rfl (by kernel_rfl)
                    have q169 : v169 = .slice (B iw).1 q.length (B iw).2.1 := g169
                    subst q169
                    exact Or.inl ⟨(rfl), goodE_call rfl #[.slice A x.length c, .slice (B iw).1 q.length (B iw).2.1] (by simp [Act.eval, e162, e169]) _ Tryd.func37 (by kernel_rfl) (by kernel_rfl) ((refCode_calls w A c x (B iw).1 (B iw).2.1 q (HRw.out.ext ((Ext.to_drew _).trans hE)) (HM3.out.t.okX.2.1.ext ((Ext.to_drew _).trans hE)) HM3.out.t.okX.1 (by have := HXL.out; omega) (HBB.out.ext ((Ext.to_drew _).trans hE)) HBC.out (by have := HQL.out; omega)).mono (fun e w' h => ⟨_, h.1, h.2, rfl⟩))⟩
                  refine stepE_cons ⟨_, rfl, fun a w hE hH => ?_⟩ ?_
                  ·
                    obtain ⟨v161, e161, g161⟩ := hH.dep 8 161 rfl (by kernel_rfl)
                    have q161 : v161 = hashV (Spec.code x q) := g161
                    subst q161
                    obtain ⟨v170, e170, g170⟩ := hH.dep 17 170 rfl (by kernel_rfl)
                    have q170 : v170 = hashV (Spec.code x q) := g170
                    subst q170
                    exact Or.inl ⟨(rfl), goodE_val (.bool true) (by simp [execOp, Act.eval, e161, e170, eq28 w _ _ (Spec.code_length x q) (Spec.code_length x q), hashV, go_sem]) rfl⟩
                  refine stepE_cons ⟨_, rfl, fun a w hE hH => ?_⟩ ?_
                  ·
                    obtain ⟨v171, e171, g171⟩ := hH.dep 18 171 rfl (by kernel_rfl)
                    exact Or.inl ⟨rfl, goodE_move v171 rfl (eval_of e171) g171⟩
                  refine stepE_cons ⟨_, rfl, fun a w hE hH => ?_⟩ ?_
                  ·
                    have e9 : a.tmps[9]? = some (.slice (some ⟨g5, 0, none⟩) q.length c5) := hH.old 9 rfl
                    obtain ⟨v172, e172, g172⟩ := hH.dep 19 172 rfl (by kernel_rfl)
                    have q172 : v172 = .bool true := g172
                    subst q172
                    exact Or.inl ⟨wanted_on rfl rfl rfl e172, goodE_move _ rfl (eval_of e9) rfl⟩
                  refine stepE_cons ⟨_, rfl, fun a w hE hH => ?_⟩ ?_
                  ·
                    have e0 : a.tmps[0]? = some (.pointer (some ⟨T, 0, none⟩)) := hH.old 0 rfl
                    obtain ⟨v172, e172, g172⟩ := hH.dep 19 172 rfl (by kernel_rfl)
                    have q172 : v172 = .bool true := g172
                    subst q172
                    exact Or.inl ⟨wanted_on rfl rfl rfl e172, goodE_move _ rfl (eval_of e0) rfl⟩
                  refine stepE_cons ⟨_, rfl, fun a w hE hH => ?_⟩ ?_
                  ·
                    have e5 : a.tmps[5]? = some (.int .i64 iw) := hH.old 5 rfl
                    obtain ⟨v172, e172, g172⟩ := hH.dep 19 172 rfl (by kernel_rfl)
                    have q172 : v172 = .bool true := g172
                    subst q172
                    exact Or.inl ⟨wanted_on rfl rfl rfl e172, goodE_move _ rfl (eval_of e5) rfl⟩
                  refine stepE_cons ⟨_, rfl, fun a w hE hH => ?_⟩ ?_
                  ·
                    obtain ⟨v174, e174, g174⟩ := hH.dep 21 174 rfl (by kernel_rfl)
                    have q174 : v174 = .pointer (some ⟨T, 0, none⟩) := g174
                    subst q174
                    obtain ⟨v172, e172, g172⟩ := hH.dep 19 172 rfl (by kernel_rfl)
                    have q172 : v172 = .bool true := g172
                    subst q172
                    exact Or.inl ⟨wanted_on rfl rfl rfl e172, goodE_val (.pointer (some ⟨T, 0, none⟩)) (by simp [execOp, Act.eval, e172, e174, go_sem]) rfl⟩
                  refine stepE_cons ⟨_, rfl, fun a w hE hH => ?_⟩ ?_
                  ·
                    obtain ⟨v176, e176, g176⟩ := hH.dep 23 176 rfl (by kernel_rfl)
                    have q176 : v176 = .pointer (some ⟨T, 0, none⟩) := g176
                    subst q176
                    obtain ⟨v172, e172, g172⟩ := hH.dep 19 172 rfl (by kernel_rfl)
                    have q172 : v172 = .bool true := g172
                    subst q172
                    exact Or.inl ⟨wanted_on rfl rfl rfl e172, goodE_val (.pointer (some ⟨T, 3, none⟩)) (by simp [execOp, Act.eval, e176, e172, go_sem]) rfl⟩
                  refine stepE_cons ⟨_, rfl, fun a w hE hH => ?_⟩ ?_
                  ·
                    obtain ⟨v177, e177, g177⟩ := hH.dep 24 177 rfl (by kernel_rfl)
                    have q177 : v177 = .pointer (some ⟨T, 3, none⟩) := g177
                    subst q177
                    obtain ⟨v175, e175, g175⟩ := hH.dep 22 175 rfl (by kernel_rfl)
                    have q175 : v175 = .int .i64 iw := g175
                    subst q175
                    obtain ⟨v172, e172, g172⟩ := hH.dep 19 172 rfl (by kernel_rfl)
                    have q172 : v172 = .bool true := g172
                    subst q172
                    exact Or.inl ⟨(wanted_on rfl rfl rfl e172), goodE_val (.pointer (some ⟨T, 3 + iw * 2, none⟩)) (by simp [execOp, Act.eval, e177, e175, go_sem, b5]) rfl⟩
                  refine stepE_cons ⟨_, rfl, fun a w hE hH => ?_⟩ ?_
                  ·
                    obtain ⟨v178, e178, g178⟩ := hH.dep 25 178 rfl (by kernel_rfl)
                    have q178 : v178 = .pointer (some ⟨T, 3 + iw * 2, none⟩) := g178
                    subst q178
                    obtain ⟨v172, e172, g172⟩ := hH.dep 19 172 rfl (by kernel_rfl)
                    have q172 : v172 = .bool true := g172
                    subst q172
                    exact Or.inl ⟨wanted_on rfl rfl rfl e172, goodE_val (.pointer (some ⟨T, 3 + iw * 2 + 1, none⟩)) (by simp [execOp, Act.eval, e178, e172, go_sem]) rfl⟩
                  refine stepE_cons ⟨_, rfl, fun a w hE hH => ?_⟩ ?_
                  ·
                    obtain ⟨v179, e179, g179⟩ := hH.dep 26 179 rfl (by kernel_rfl)
                    have q179 : v179 = .pointer (some ⟨T, 3 + iw * 2 + 1, none⟩) := g179
                    subst q179
                    obtain ⟨v172, e172, g172⟩ := hH.dep 19 172 rfl (by kernel_rfl)
                    have q172 : v172 = .bool true := g172
                    subst q172
                    exact Or.inl ⟨(wanted_on rfl rfl rfl e172), goodE_val (.slice (B iw).1 q.length (B iw).2.1) (by simp [execOp, Act.eval, e179, go_sem, cell_ext ((Ext.to_drew _).trans hE) HCB.out]) rfl⟩
                  refine stepE_cons ⟨_, rfl, fun a w hE hH => ?_⟩ ?_
                  ·
                    obtain ⟨v173, e173, g173⟩ := hH.dep 20 173 rfl (by kernel_rfl)
                    have q173 : v173 = .slice (some ⟨g5, 0, none⟩) q.length c5 := g173
                    subst q173
                    obtain ⟨v180, e180, g180⟩ := hH.dep 27 180 rfl (by kernel_rfl)
                    have q180 : v180 = .slice (B iw).1 q.length (B iw).2.1 := g180
                    subst q180
                    obtain ⟨v172, e172, g172⟩ := hH.dep 19 172 rfl (by kernel_rfl)
                    have q172 : v172 = .bool true := g172
                    subst q172
                    exact Or.inl ⟨(wanted_on rfl rfl rfl e172), goodE_call rfl #[.slice (some ⟨g5, 0, none⟩) q.length c5, .slice (B iw).1 q.length (B iw).2.1] (by simp [Act.eval, e173, e180]) _ Tryd.func38 (by kernel_rfl) (by kernel_rfl) ((aswas_calls w g5 q.length c5 q (B iw).1 (B iw).2.1 (HR5.out.ext ((Ext.to_drew _).trans hE)) (HBB.out.ext ((Ext.to_drew _).trans hE)) (by have := HQL.out; omega)).mono (fun e w' h => ⟨_, h.1, h.2, rfl⟩))⟩
                  refine stepE_cons ⟨_, rfl, fun a w hE hH => ?_⟩ ?_
                  ·
                    obtain ⟨v172, e172, g172⟩ := hH.dep 19 172 rfl (by kernel_rfl)
                    have q172 : v172 = .bool true := g172
                    subst q172
                    obtain ⟨v181, e181, g181⟩ := hH.dep 28 181 rfl (by kernel_rfl)
                    have q181 : v181 = .bool true := g181
                    subst q181
                    exact Or.inl ⟨(rfl), goodE_pick _ (.bool true) rfl (eval_of e172) (by simp [Act.eval, e181]) rfl⟩
                  refine stepE_cons ⟨_, rfl, fun a w hE hH => ?_⟩ ?_
                  ·
                    obtain ⟨v182, e182, g182⟩ := hH.dep 29 182 rfl (by kernel_rfl)
                    exact Or.inl ⟨rfl, goodE_assign v182 rfl (eval_of e182) g182⟩
                  exact stepE_nil
                rintro vals wz hE hV
                have k8 : vals 30 = .bool true := hV 30 (by simp) rfl
                simp only [List.map_cons, List.map_nil, putAll, Act.put, List.setIfInBounds_toArray, List.set_cons_zero, List.set_cons_succ, k8]
                have HM4 := Aside0.mk (HM3.out.ext ((Ext.to_drew _).trans hE))
                clear hE hV k8
                go_wp2_with fail
                go_meet
                case rel => exact ⟨rfl, live, gs, ss, ks, kb, S, B, HM4.out.more (by omega), fun _ _ h => h, fun i hi _ _ => HL3.out i hi⟩
              · go_wp2_with fail
                go_meet
                case rel => exact ⟨rfl, live, gs, ss, ks, kb, S, B, HM2.out.more (by omega), fun _ _ h => h, fun i hi _ _ => HL3.out i hi⟩
    case rest =>
      obtain ⟨rfl, live', gs', ss', ks', kb', S', B', hM, hl1, hl2⟩ := hcut
      have HM := Aside0.mk hM
      have HL1 := Aside0.mk hl1
      have HL2 := Aside0.mk hl2
      clear hM hl1 hl2 o0
      go_wp2_with fail
      refine (aswas_calls _ g x.length c2 x A c HM.out.rm HM.out.t.okX.2.1 (by have := HXL.out; omega)).mono ?_
      rintro e w8 ⟨rfl, hE8⟩
      have HM8 := Aside0.mk (HM.out.ext hE8)
      clear hE8
      go_wp2_with fail
      refine (over_calls w8 g x.length c2 x HM8.out.rm).mono ?_
      rintro e w9 ⟨rfl, hO9⟩
      have HT9 := Aside0.mk (HM8.out.t.only HM8.out.av hO9)
      have HB9 := Aside0.mk (below_only HM8.out.be hO9 (Nat.le_of_lt HG.out) (Nat.le_of_lt HM8.out.t.row.lt))
      clear hO9
      go_wp2_with fail
      go_ret
      exact ⟨rfl, HB9.out, live', gs', ss', ks', kb', S', B', HT9.out.putX OkP.none, HM8.out.eq, HM8.out.len, HL1.out, HL2.out⟩
end Go.Proofs.YtnkhhnfmijljbaaDoor
