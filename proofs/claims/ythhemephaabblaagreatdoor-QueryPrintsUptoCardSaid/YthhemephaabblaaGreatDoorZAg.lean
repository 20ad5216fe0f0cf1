/- Parts of the proof:  -/
import Derived.Test.YthhemephaabblaaGreatDoorZAc
import Derived.Test.YthhemephaabblaaGreatDoorZAe
namespace Go.Proofs.YthhemephaabblaaGreatDoor.Q
open Go.RowKit  Go.Proofs.YthhemephaabblaaGreatDoorW.PrintWords Go.Proofs.YthhemephaabblaaGreatDoorW.PrintLast Go.Proofs.YthhemephaabblaaGreatDoorW.PrintMore
attribute [local go_sem] max2_int min2_int max_two min_two max_three min_three max_four min_four   -- for this text's walks alone
set_option linter.unusedVariables false
set_option linter.unusedSimpArgs false

/-! ### cairnref32_may: function 32 -/
mutual
def cairnref32_may.j0 : Nat → Bool → List ByteArray → ByteArray → List (S70) → ByteArray → Bool → Int → Option (Bool)
 | 0, _, _, _, _, _, _, _ => none
 | k + 1, x3, x177000, x177001, x177002, x177003, x177004, x177005 => cairnref32_may.l0 k x3 0 x177000 x177001 x177002 x177003 x177004 x177005
def cairnref32_may.l0 : Nat → Bool → Int → List ByteArray → ByteArray → List (S70) → ByteArray → Bool → Int → Option (Bool)
 | 0, _, _, _, _, _, _, _, _ => none
 | k + 1, x3, x4, x177000, x177001, x177002, x177003, x177004, x177005 => if x4 < (x177000.length : Int) then (if x3 = true then (if 0 ≤ x4 then ((cairnref32_Name.f k (rdOf ByteArray.empty x177000 x4)).bind fun t179 => (cairnref32_may.l0 k t179 (wrap64 (x4 + 1)) x177000 x177001 x177002 x177003 x177004 x177005)) else (none)) else (cairnref32_may.l0 k false (wrap64 (x4 + 1)) x177000 x177001 x177002 x177003 x177004 x177005)) else (cairnref32_may.l1 k x3 0 x177000 x177001 x177002 x177003 x177004 x177005)
def cairnref32_may.l1 : Nat → Bool → Int → List ByteArray → ByteArray → List (S70) → ByteArray → Bool → Int → Option (Bool)
 | 0, _, _, _, _, _, _, _, _ => none
 | k + 1, x3, x5, x177000, x177001, x177002, x177003, x177004, x177005 => if x5 < (x177002.length : Int) then (if x3 = true then (if 0 ≤ x5 then ((cairnref32_Name.f k ((rd_T70 x177002 x5).f0)).bind fun t181 => (if t181 = true then (if ((rd_T70 x177002 x5).f1) ≥ 1 then (if ((rd_T70 x177002 x5).f1) ≤ 6 then (cairnref32_may.l1 k (decide ((((rd_T70 x177002 x5).f2).size : Int) ≤ 1024)) (wrap64 (x5 + 1)) x177000 x177001 x177002 x177003 x177004 x177005) else (cairnref32_may.l1 k false (wrap64 (x5 + 1)) x177000 x177001 x177002 x177003 x177004 x177005)) else (cairnref32_may.l1 k false (wrap64 (x5 + 1)) x177000 x177001 x177002 x177003 x177004 x177005)) else (cairnref32_may.l1 k false (wrap64 (x5 + 1)) x177000 x177001 x177002 x177003 x177004 x177005))) else (none)) else (cairnref32_may.l1 k false (wrap64 (x5 + 1)) x177000 x177001 x177002 x177003 x177004 x177005)) else (if x177003.toList = ([] : List UInt8) then (if x3 = true then (some (!x177004)) else (some false)) else (if x3 = true then ((cairnref32_Name.f k x177003).bind fun t185 => (some t185)) else (some false)))
end
def cairnref32_may.f (k : Nat) (l0_0 : List ByteArray) (a0_1 : ByteArray) (l0_2 : List (S70)) (a0_3 : ByteArray) (a0_4 : Bool) (a0_5 : Int) : Option (Bool) := (cairnref32_Name.f k a0_1).bind fun t177 => (if t177 = true then (if (l0_0.length : Int) ≤ 8 then (if (l0_2.length : Int) ≤ 8 then (if a0_5 ≥ 0 then (cairnref32_may.j0 k (decide (a0_5 ≤ 999999999)) l0_0 a0_1 l0_2 a0_3 a0_4 a0_5) else (cairnref32_may.j0 k false l0_0 a0_1 l0_2 a0_3 a0_4 a0_5)) else (cairnref32_may.j0 k false l0_0 a0_1 l0_2 a0_3 a0_4 a0_5)) else (cairnref32_may.j0 k false l0_0 a0_1 l0_2 a0_3 a0_4 a0_5)) else (cairnref32_may.j0 k false l0_0 a0_1 l0_2 a0_3 a0_4 a0_5))
theorem cairnref32_may.mono_l : ∀ k, (∀ y0 y1 y2 y3 y4 y5 y6, LeO (cairnref32_may.j0 k y0 y1 y2 y3 y4 y5 y6) (cairnref32_may.j0 (k + 1) y0 y1 y2 y3 y4 y5 y6)) ∧ (∀ y0 y1 y2 y3 y4 y5 y6 y7, LeO (cairnref32_may.l0 k y0 y1 y2 y3 y4 y5 y6 y7) (cairnref32_may.l0 (k + 1) y0 y1 y2 y3 y4 y5 y6 y7)) ∧ (∀ y0 y1 y2 y3 y4 y5 y6 y7, LeO (cairnref32_may.l1 k y0 y1 y2 y3 y4 y5 y6 y7) (cairnref32_may.l1 (k + 1) y0 y1 y2 y3 y4 y5 y6 y7))
 | 0 => ⟨fun _ _ _ _ _ _ _ r h => by simp [cairnref32_may.j0] at h, fun _ _ _ _ _ _ _ _ r h => by simp [cairnref32_may.l0] at h, fun _ _ _ _ _ _ _ _ r h => by simp [cairnref32_may.l1] at h⟩
 | k + 1 => by
  obtain ⟨ih0, ih1, ih2⟩ := cairnref32_may.mono_l k
  refine ⟨?_, ?_, ?_⟩
  ·
   intro y0 y1 y2 y3 y4 y5 y6
   unfold cairnref32_may.j0
   repeat' first
   | (with_reducible exact ih0 _ _ _ _ _ _ _)
   | (with_reducible exact ih1 _ _ _ _ _ _ _ _)
   | (with_reducible exact ih2 _ _ _ _ _ _ _ _)
   | (with_reducible exact cairnref32_Name.mono _ _)
   | (with_reducible exact LeO.refl _)
   | (with_reducible exact LeO.none _)
   | (with_reducible refine LeO.ite ?_ ?_)
   | (with_reducible refine LeO.bind ?_ (fun _ => ?_))
   | exact ih0 _ _ _ _ _ _ _
   | exact ih1 _ _ _ _ _ _ _ _
   | exact ih2 _ _ _ _ _ _ _ _
   | exact cairnref32_Name.mono _ _
   | exact LeO.none _
   | refine LeO.ite ?_ ?_
   | refine LeO.bind ?_ (fun _ => ?_)
  ·
   intro y0 y1 y2 y3 y4 y5 y6 y7
   unfold cairnref32_may.l0
   repeat' first
   | (with_reducible exact ih0 _ _ _ _ _ _ _)
   | (with_reducible exact ih1 _ _ _ _ _ _ _ _)
   | (with_reducible exact ih2 _ _ _ _ _ _ _ _)
   | (with_reducible exact cairnref32_Name.mono _ _)
   | (with_reducible exact LeO.refl _)
   | (with_reducible exact LeO.none _)
   | (with_reducible refine LeO.ite ?_ ?_)
   | (with_reducible refine LeO.bind ?_ (fun _ => ?_))
   | exact ih0 _ _ _ _ _ _ _
   | exact ih1 _ _ _ _ _ _ _ _
   | exact ih2 _ _ _ _ _ _ _ _
   | exact cairnref32_Name.mono _ _
   | exact LeO.none _
   | refine LeO.ite ?_ ?_
   | refine LeO.bind ?_ (fun _ => ?_)
  ·
   intro y0 y1 y2 y3 y4 y5 y6 y7
   unfold cairnref32_may.l1
   repeat' first
   | (with_reducible exact ih0 _ _ _ _ _ _ _)
   | (with_reducible exact ih1 _ _ _ _ _ _ _ _)
   | (with_reducible exact ih2 _ _ _ _ _ _ _ _)
   | (with_reducible exact cairnref32_Name.mono _ _)
   | (with_reducible exact LeO.refl _)
   | (with_reducible exact LeO.none _)
   | (with_reducible refine LeO.ite ?_ ?_)
   | (with_reducible refine LeO.bind ?_ (fun _ => ?_))
   | exact ih0 _ _ _ _ _ _ _
   | exact ih1 _ _ _ _ _ _ _ _
   | exact ih2 _ _ _ _ _ _ _ _
   | exact cairnref32_Name.mono _ _
   | exact LeO.none _
   | refine LeO.ite ?_ ?_
   | refine LeO.bind ?_ (fun _ => ?_)
theorem cairnref32_may.mono : ∀ a0 a1 a2 a3 a4 a5 k, LeO (cairnref32_may.f k a0 a1 a2 a3 a4 a5) (cairnref32_may.f (k + 1) a0 a1 a2 a3 a4 a5) := by
 intro a0 a1 a2 a3 a4 a5 k
 obtain ⟨ih0, ih1, ih2⟩ := cairnref32_may.mono_l k
 unfold cairnref32_may.f
 repeat' first
   | (with_reducible exact ih0 _ _ _ _ _ _ _)
   | (with_reducible exact ih1 _ _ _ _ _ _ _ _)
   | (with_reducible exact ih2 _ _ _ _ _ _ _ _)
   | (with_reducible exact cairnref32_Name.mono _ _)
   | (with_reducible exact LeO.refl _)
   | (with_reducible exact LeO.none _)
   | (with_reducible refine LeO.ite ?_ ?_)
   | (with_reducible refine LeO.bind ?_ (fun _ => ?_))
   | exact ih0 _ _ _ _ _ _ _
   | exact ih1 _ _ _ _ _ _ _ _
   | exact ih2 _ _ _ _ _ _ _ _
   | exact cairnref32_Name.mono _ _
   | exact LeO.none _
   | refine LeO.ite ?_ ?_
   | refine LeO.bind ?_ (fun _ => ?_)
set_option maxHeartbeats 8000000 in
set_option maxRecDepth 100000 in
theorem cairnref32_may.calls (k : Nat) (A0_0 : Option Addr) (c0_0 : Nat) (l0_0 : List ByteArray) (a0_1 : ByteArray) (A0_2 : Option Addr) (c0_2 : Nat) (l0_2 : List (S70)) (a0_3 : ByteArray) (a0_4 : Bool) (a0_5 : Int) (r : Bool) (w : World) (hr0_0 : Kd.C Kd.string w A0_0 l0_0.length l0_0) (hc0_0 : l0_0.length ≤ c0_0) (hr0_2 : Kd.C k70 w A0_2 l0_2.length l0_2) (hc0_2 : l0_2.length ≤ c0_2) (h : cairnref32_may.f k l0_0 a0_1 l0_2 a0_3 a0_4 a0_5 = some r) :
  Calls Tryz.prog 32 #[.agg #[.slice A0_0 l0_0.length c0_0, .string a0_1, .slice A0_2 l0_2.length c0_2, .string a0_3, .bool a0_4, .int .i64 a0_5]] w fun e w' => e = .returned (.bool r) ∧ Below w.heap.size w w' := by
 have hu31 := Tryz.underlying31
 have HR0_0 := Aside0.mk hr0_0
 have HC0_0 := Aside0.mk hc0_0
 clear hr0_0 hc0_0
 have HR0_2 := Aside0.mk hr0_2
 have HC0_2 := Aside0.mk hc0_2
 clear hr0_2 hc0_2
 have HB := Aside0.mk (Below.refl w.heap.size w)
 have H : ((cairnref32_Name.f k a0_1).bind fun t177 => (if t177 = true then (if (l0_0.length : Int) ≤ 8 then (if (l0_2.length : Int) ≤ 8 then (if a0_5 ≥ 0 then (cairnref32_may.j0 k (decide (a0_5 ≤ 999999999)) l0_0 a0_1 l0_2 a0_3 a0_4 a0_5) else (cairnref32_may.j0 k false l0_0 a0_1 l0_2 a0_3 a0_4 a0_5)) else (cairnref32_may.j0 k false l0_0 a0_1 l0_2 a0_3 a0_4 a0_5)) else (cairnref32_may.j0 k false l0_0 a0_1 l0_2 a0_3 a0_4 a0_5)) else (cairnref32_may.j0 k false l0_0 a0_1 l0_2 a0_3 a0_4 a0_5))) = some r := h
 clear h
 have HC2 := Aside0.mk H
 clear H
 go_enter Tryz.func32, Tryz.ntmps32
 go_upto_region 1 with (first | ((with_reducible refine gate_dst (N := 1) rfl ?_); (try (refine gate_guard (by rfl) ?_; dsimp only)); refine box_event ?hg (N := 1) ?hd (cs := #[.slice A0_0 l0_0.length c0_0, .string a0_1, .slice A0_2 l0_2.length c0_2, .string a0_3, .bool a0_4, .int .i64 a0_5]) (t := 31) ?hr ?_; (case hd => rfl); (case hg => rfl); (case hr => first | (go_simp; done) | (go_simp; rfl)); intro gb176 hg w3 hbox hb; have n0_ := Aside0.mk (below_step (by repeat (first | (with_reducible first | exact HB.out | apply below_alloc | apply pw_below_drewN | apply below_drew1) | exact HB.out)) hb); have n1_ := Aside0.mk (hbox); have n2_ := Aside0.mk ((by rw [hg]; exact (below_size (by repeat (first | (with_reducible first | exact HB.out | apply below_alloc | apply pw_below_drewN | apply below_drew1) | exact HB.out))) : w.heap.size ≤ gb176)); have n3_ := Aside0.mk ((by rw [hg]; exact (below_size (by repeat (first | (with_reducible first | exact HB.out | apply below_alloc | apply pw_below_drewN | apply below_drew1) | exact HB.out))) : w.heap.size ≤ gb176)); clear HB; have HB := n0_; have BK176 := n1_; have GW176 := n2_; have GE176 := n3_; clear n0_ n1_ n2_ n3_; clear hb hbox hg))
 (try simp only [Act.put, List.setIfInBounds_toArray, List.set_cons_zero, List.set_cons_succ])
 go_cut [3] (fun v3 wc => ∃ (kq : Nat) (x3_1 : Bool), v3 = .bool x3_1 ∧ Aside0 (cairnref32_may.j0 kq x3_1 l0_0 a0_1 l0_2 a0_3 a0_4 a0_5 = some r) ∧ Aside0 (kq ≤ k) ∧ Aside0 (wc.heap[gb176]? = some (.cells #[(.slice A0_0 l0_0.length c0_0), .string a0_1, (.slice A0_2 l0_2.length c0_2), .string a0_3, .bool a0_4, .int .i64 a0_5] 31 (0, 0))) ∧ Aside0 (Below w.heap.size w wc))
 case first =>
  have H := HC2.out
  clear HC2
  replace H := Option.bind_eq_some_iff.mp H
  obtain ⟨t177, A40, H⟩ := H
  replace H : (if t177 = true then (if (l0_0.length : Int) ≤ 8 then (if (l0_2.length : Int) ≤ 8 then (if a0_5 ≥ 0 then (cairnref32_may.j0 k (decide (a0_5 ≤ 999999999)) l0_0 a0_1 l0_2 a0_3 a0_4 a0_5) else (cairnref32_may.j0 k false l0_0 a0_1 l0_2 a0_3 a0_4 a0_5)) else (cairnref32_may.j0 k false l0_0 a0_1 l0_2 a0_3 a0_4 a0_5)) else (cairnref32_may.j0 k false l0_0 a0_1 l0_2 a0_3 a0_4 a0_5)) else (cairnref32_may.j0 k false l0_0 a0_1 l0_2 a0_3 a0_4 a0_5)) = some r := H
  have A4 := Aside0.mk A40
  clear A40
  by_cases c5 : t177 = true
  ·
   subst c5
   have H1 : (if (l0_0.length : Int) ≤ 8 then (if (l0_2.length : Int) ≤ 8 then (if a0_5 ≥ 0 then (cairnref32_may.j0 k (decide (a0_5 ≤ 999999999)) l0_0 a0_1 l0_2 a0_3 a0_4 a0_5) else (cairnref32_may.j0 k false l0_0 a0_1 l0_2 a0_3 a0_4 a0_5)) else (cairnref32_may.j0 k false l0_0 a0_1 l0_2 a0_3 a0_4 a0_5)) else (cairnref32_may.j0 k false l0_0 a0_1 l0_2 a0_3 a0_4 a0_5)) = some r := by rw [if_pos rfl] at H; exact H
   clear H
   have H := H1
   clear H1
   by_cases c6 : (l0_0.length : Int) ≤ 8
   ·
    rw [if_pos c6] at H
    have c6b0 : decide ((l0_0.length : Int) ≤ 8) = true := decide_eq_true c6
    have c6b1 : decide (l0_0.length ≤ 8) = true := decide_eq_true (by omega)
    clear c6
    (first | rw [c6b0] | (simp only [i64_w, i32_w]; rw [c6b0]) | skip)
    by_cases c7 : (l0_2.length : Int) ≤ 8
    ·
     rw [if_pos c7] at H
     have c7b0 : decide ((l0_2.length : Int) ≤ 8) = true := decide_eq_true c7
     have c7b1 : decide (l0_2.length ≤ 8) = true := decide_eq_true (by omega)
     clear c7
     by_cases c8 : a0_5 ≥ 0
     ·
      rw [if_pos c8] at H
      have c8b0 : decide (0 ≤ a0_5) = true := decide_eq_true c8
      clear c8
      have H' := Aside0.mk H
      clear H
      have hcz9_0 : w3.cell? ⟨gb176, 0, none⟩ = some (.slice A0_0 l0_0.length c0_0) := (blk_cell BK176.out 0).trans rfl
      have hcz9_1 : w3.cell? ⟨gb176, 1, none⟩ = some (.string a0_1) := (blk_cell BK176.out 1).trans rfl
      have hcz9_2 : w3.cell? ⟨gb176, 2, none⟩ = some (.slice A0_2 l0_2.length c0_2) := (blk_cell BK176.out 2).trans rfl
      have hcz9_3 : w3.cell? ⟨gb176, 3, none⟩ = some (.string a0_3) := (blk_cell BK176.out 3).trans rfl
      have hcz9_4 : w3.cell? ⟨gb176, 4, none⟩ = some (.bool a0_4) := (blk_cell BK176.out 4).trans rfl
      have hcz9_5 : w3.cell? ⟨gb176, 5, none⟩ = some (.int .i64 a0_5) := (blk_cell BK176.out 5).trans rfl
      have hfz9_0 := blk_frozen BK176.out 0
      have hfz9_1 := blk_frozen BK176.out 1
      have hfz9_2 := blk_frozen BK176.out 2
      have hfz9_3 := blk_frozen BK176.out 3
      have hfz9_4 := blk_frozen BK176.out 4
      have hfz9_5 := blk_frozen BK176.out 5
      go_wp2_with (first | ((with_reducible refine gate_callee (f := 47) rfl ?_); refine goesL_ (some 8) rfl rfl Tryz.func47 (by kernel_rfl) rfl #[.string a0_1] rfl (by (try simp only [List.map_toArray, List.map_cons, List.map_nil]); first | done | rfl | (simp only [List.length_drop, List.length_take]; rfl)) ?_; (with_reducible refine (cairnref32_Name.calls k a0_1 true _ A4.out).mono ?_); rintro e w' ⟨rfl, ⟨nd, rfl⟩⟩; refine ⟨_, rfl, ?_⟩))
      go_meet
      case rel => exact ⟨_, (decide (a0_5 ≤ 999999999)), (by first | rfl | (simp; done) | (simp [*]; done)), H', ⟨by first | omega | exact Nat.le_refl _⟩, ⟨by (with_reducible repeat (first | refine blk_drewN ?_ _ | refine blk_drew ?_ | refine blk_alloc ?_ _)); exact BK176.out⟩, ⟨by repeat (first | (with_reducible first | exact HB.out | apply below_alloc | apply pw_below_drewN | apply below_drew1 | refine below_set ?_ GE176.out) | exact HB.out)⟩⟩
     ·
      rw [if_neg c8] at H
      have c8b0 : decide (0 ≤ a0_5) = false := decide_eq_false c8
      clear c8
      have H' := Aside0.mk H
      clear H
      have hcz10_0 : w3.cell? ⟨gb176, 0, none⟩ = some (.slice A0_0 l0_0.length c0_0) := (blk_cell BK176.out 0).trans rfl
      have hcz10_1 : w3.cell? ⟨gb176, 1, none⟩ = some (.string a0_1) := (blk_cell BK176.out 1).trans rfl
      have hcz10_2 : w3.cell? ⟨gb176, 2, none⟩ = some (.slice A0_2 l0_2.length c0_2) := (blk_cell BK176.out 2).trans rfl
      have hcz10_3 : w3.cell? ⟨gb176, 3, none⟩ = some (.string a0_3) := (blk_cell BK176.out 3).trans rfl
      have hcz10_4 : w3.cell? ⟨gb176, 4, none⟩ = some (.bool a0_4) := (blk_cell BK176.out 4).trans rfl
      have hcz10_5 : w3.cell? ⟨gb176, 5, none⟩ = some (.int .i64 a0_5) := (blk_cell BK176.out 5).trans rfl
      have hfz10_0 := blk_frozen BK176.out 0
      have hfz10_1 := blk_frozen BK176.out 1
      have hfz10_2 := blk_frozen BK176.out 2
      have hfz10_3 := blk_frozen BK176.out 3
      have hfz10_4 := blk_frozen BK176.out 4
      have hfz10_5 := blk_frozen BK176.out 5
      go_wp2_with (first | ((with_reducible refine gate_callee (f := 47) rfl ?_); refine goesL_ (some 8) rfl rfl Tryz.func47 (by kernel_rfl) rfl #[.string a0_1] rfl (by (try simp only [List.map_toArray, List.map_cons, List.map_nil]); first | done | rfl | (simp only [List.length_drop, List.length_take]; rfl)) ?_; (with_reducible refine (cairnref32_Name.calls k a0_1 true _ A4.out).mono ?_); rintro e w' ⟨rfl, ⟨nd, rfl⟩⟩; refine ⟨_, rfl, ?_⟩))
      go_meet
      case rel => exact ⟨_, (false), (by first | rfl | (simp; done) | (simp [*]; done)), H', ⟨by first | omega | exact Nat.le_refl _⟩, ⟨by (with_reducible repeat (first | refine blk_drewN ?_ _ | refine blk_drew ?_ | refine blk_alloc ?_ _)); exact BK176.out⟩, ⟨by repeat (first | (with_reducible first | exact HB.out | apply below_alloc | apply pw_below_drewN | apply below_drew1 | refine below_set ?_ GE176.out) | exact HB.out)⟩⟩
    ·
     rw [if_neg c7] at H
     have c7b0 : decide ((l0_2.length : Int) ≤ 8) = false := decide_eq_false c7
     have c7b1 : decide (l0_2.length ≤ 8) = false := decide_eq_false (by omega)
     clear c7
     have H' := Aside0.mk H
     clear H
     have hcz11_0 : w3.cell? ⟨gb176, 0, none⟩ = some (.slice A0_0 l0_0.length c0_0) := (blk_cell BK176.out 0).trans rfl
     have hcz11_1 : w3.cell? ⟨gb176, 1, none⟩ = some (.string a0_1) := (blk_cell BK176.out 1).trans rfl
     have hcz11_2 : w3.cell? ⟨gb176, 2, none⟩ = some (.slice A0_2 l0_2.length c0_2) := (blk_cell BK176.out 2).trans rfl
     have hcz11_3 : w3.cell? ⟨gb176, 3, none⟩ = some (.string a0_3) := (blk_cell BK176.out 3).trans rfl
     have hcz11_4 : w3.cell? ⟨gb176, 4, none⟩ = some (.bool a0_4) := (blk_cell BK176.out 4).trans rfl
     have hcz11_5 : w3.cell? ⟨gb176, 5, none⟩ = some (.int .i64 a0_5) := (blk_cell BK176.out 5).trans rfl
     have hfz11_0 := blk_frozen BK176.out 0
     have hfz11_1 := blk_frozen BK176.out 1
     have hfz11_2 := blk_frozen BK176.out 2
     have hfz11_3 := blk_frozen BK176.out 3
     have hfz11_4 := blk_frozen BK176.out 4
     have hfz11_5 := blk_frozen BK176.out 5
     go_wp2_with (first | ((with_reducible refine gate_callee (f := 47) rfl ?_); refine goesL_ (some 8) rfl rfl Tryz.func47 (by kernel_rfl) rfl #[.string a0_1] rfl (by (try simp only [List.map_toArray, List.map_cons, List.map_nil]); first | done | rfl | (simp only [List.length_drop, List.length_take]; rfl)) ?_; (with_reducible refine (cairnref32_Name.calls k a0_1 true _ A4.out).mono ?_); rintro e w' ⟨rfl, ⟨nd, rfl⟩⟩; refine ⟨_, rfl, ?_⟩))
     go_meet
     case rel => exact ⟨_, (false), (by first | rfl | (simp; done) | (simp [*]; done)), H', ⟨by first | omega | exact Nat.le_refl _⟩, ⟨by (with_reducible repeat (first | refine blk_drewN ?_ _ | refine blk_drew ?_ | refine blk_alloc ?_ _)); exact BK176.out⟩, ⟨by repeat (first | (with_reducible first | exact HB.out | apply below_alloc | apply pw_below_drewN | apply below_drew1 | refine below_set ?_ GE176.out) | exact HB.out)⟩⟩
   ·
    rw [if_neg c6] at H
    have c6b0 : decide ((l0_0.length : Int) ≤ 8) = false := decide_eq_false c6
    have c6b1 : decide (l0_0.length ≤ 8) = false := decide_eq_false (by omega)
    clear c6
    (first | rw [c6b0] | (simp only [i64_w, i32_w]; rw [c6b0]) | skip)
    have H' := Aside0.mk H
    clear H
    have hcz12_0 : w3.cell? ⟨gb176, 0, none⟩ = some (.slice A0_0 l0_0.length c0_0) := (blk_cell BK176.out 0).trans rfl
    have hcz12_1 : w3.cell? ⟨gb176, 1, none⟩ = some (.string a0_1) := (blk_cell BK176.out 1).trans rfl
    have hcz12_2 : w3.cell? ⟨gb176, 2, none⟩ = some (.slice A0_2 l0_2.length c0_2) := (blk_cell BK176.out 2).trans rfl
    have hcz12_3 : w3.cell? ⟨gb176, 3, none⟩ = some (.string a0_3) := (blk_cell BK176.out 3).trans rfl
    have hcz12_4 : w3.cell? ⟨gb176, 4, none⟩ = some (.bool a0_4) := (blk_cell BK176.out 4).trans rfl
    have hcz12_5 : w3.cell? ⟨gb176, 5, none⟩ = some (.int .i64 a0_5) := (blk_cell BK176.out 5).trans rfl
    have hfz12_0 := blk_frozen BK176.out 0
    have hfz12_1 := blk_frozen BK176.out 1
    have hfz12_2 := blk_frozen BK176.out 2
    have hfz12_3 := blk_frozen BK176.out 3
    have hfz12_4 := blk_frozen BK176.out 4
    have hfz12_5 := blk_frozen BK176.out 5
    go_wp2_with (first | ((with_reducible refine gate_callee (f := 47) rfl ?_); refine goesL_ (some 8) rfl rfl Tryz.func47 (by kernel_rfl) rfl #[.string a0_1] rfl (by (try simp only [List.map_toArray, List.map_cons, List.map_nil]); first | done | rfl | (simp only [List.length_drop, List.length_take]; rfl)) ?_; (with_reducible refine (cairnref32_Name.calls k a0_1 true _ A4.out).mono ?_); rintro e w' ⟨rfl, ⟨nd, rfl⟩⟩; refine ⟨_, rfl, ?_⟩))
    go_meet
    case rel => exact ⟨_, (false), (by first | rfl | (simp; done) | (simp [*]; done)), H', ⟨by first | omega | exact Nat.le_refl _⟩, ⟨by (with_reducible repeat (first | refine blk_drewN ?_ _ | refine blk_drew ?_ | refine blk_alloc ?_ _)); exact BK176.out⟩, ⟨by repeat (first | (with_reducible first | exact HB.out | apply below_alloc | apply pw_below_drewN | apply below_drew1 | refine below_set ?_ GE176.out) | exact HB.out)⟩⟩
  ·
   replace c5 := Bool.eq_false_iff.mpr c5
   subst c5
   have H1 : (cairnref32_may.j0 k false l0_0 a0_1 l0_2 a0_3 a0_4 a0_5) = some r := by rw [if_neg (show ¬ (false = true) by decide)] at H; exact H
   clear H
   have H := H1
   clear H1
   have H' := Aside0.mk H
   clear H
   have hcz13_0 : w3.cell? ⟨gb176, 0, none⟩ = some (.slice A0_0 l0_0.length c0_0) := (blk_cell BK176.out 0).trans rfl
   have hcz13_1 : w3.cell? ⟨gb176, 1, none⟩ = some (.string a0_1) := (blk_cell BK176.out 1).trans rfl
   have hcz13_2 : w3.cell? ⟨gb176, 2, none⟩ = some (.slice A0_2 l0_2.length c0_2) := (blk_cell BK176.out 2).trans rfl
   have hcz13_3 : w3.cell? ⟨gb176, 3, none⟩ = some (.string a0_3) := (blk_cell BK176.out 3).trans rfl
   have hcz13_4 : w3.cell? ⟨gb176, 4, none⟩ = some (.bool a0_4) := (blk_cell BK176.out 4).trans rfl
   have hcz13_5 : w3.cell? ⟨gb176, 5, none⟩ = some (.int .i64 a0_5) := (blk_cell BK176.out 5).trans rfl
   have hfz13_0 := blk_frozen BK176.out 0
   have hfz13_1 := blk_frozen BK176.out 1
   have hfz13_2 := blk_frozen BK176.out 2
   have hfz13_3 := blk_frozen BK176.out 3
   have hfz13_4 := blk_frozen BK176.out 4
   have hfz13_5 := blk_frozen BK176.out 5
   go_wp2_with (first | ((with_reducible refine gate_callee (f := 47) rfl ?_); refine goesL_ (some 8) rfl rfl Tryz.func47 (by kernel_rfl) rfl #[.string a0_1] rfl (by (try simp only [List.map_toArray, List.map_cons, List.map_nil]); first | done | rfl | (simp only [List.length_drop, List.length_take]; rfl)) ?_; (with_reducible refine (cairnref32_Name.calls k a0_1 false _ A4.out).mono ?_); rintro e w' ⟨rfl, ⟨nd, rfl⟩⟩; refine ⟨_, rfl, ?_⟩))
   go_meet
   case rel => exact ⟨_, (false), (by first | rfl | (simp; done) | (simp [*]; done)), H', ⟨by first | omega | exact Nat.le_refl _⟩, ⟨by (with_reducible repeat (first | refine blk_drewN ?_ _ | refine blk_drew ?_ | refine blk_alloc ?_ _)); exact BK176.out⟩, ⟨by repeat (first | (with_reducible first | exact HB.out | apply below_alloc | apply pw_below_drewN | apply below_drew1 | refine below_set ?_ GE176.out) | exact HB.out)⟩⟩
 case rest =>
  clear HC2
  try clear p2
  try clear c3
  try clear c4
  try clear c5
  try clear c6
  try clear c6b0
  try clear c6b1
  try clear c7
  try clear c7b0
  try clear c7b1
  try clear c8
  try clear c8b0
  try clear hcz10_0
  try clear hcz10_1
  try clear hcz10_2
  try clear hcz10_3
  try clear hcz10_4
  try clear hcz10_5
  try clear hcz11_0
  try clear hcz11_1
  try clear hcz11_2
  try clear hcz11_3
  try clear hcz11_4
  try clear hcz11_5
  try clear hcz12_0
  try clear hcz12_1
  try clear hcz12_2
  try clear hcz12_3
  try clear hcz12_4
  try clear hcz12_5
  try clear hcz13_0
  try clear hcz13_1
  try clear hcz13_2
  try clear hcz13_3
  try clear hcz13_4
  try clear hcz13_5
  try clear hcz9_0
  try clear hcz9_1
  try clear hcz9_2
  try clear hcz9_3
  try clear hcz9_4
  try clear hcz9_5
  try clear hfz10_0
  try clear hfz10_1
  try clear hfz10_2
  try clear hfz10_3
  try clear hfz10_4
  try clear hfz10_5
  try clear hfz11_0
  try clear hfz11_1
  try clear hfz11_2
  try clear hfz11_3
  try clear hfz11_4
  try clear hfz11_5
  try clear hfz12_0
  try clear hfz12_1
  try clear hfz12_2
  try clear hfz12_3
  try clear hfz12_4
  try clear hfz12_5
  try clear hfz13_0
  try clear hfz13_1
  try clear hfz13_2
  try clear hfz13_3
  try clear hfz13_4
  try clear hfz13_5
  try clear hfz9_0
  try clear hfz9_1
  try clear hfz9_2
  try clear hfz9_3
  try clear hfz9_4
  try clear hfz9_5
  obtain ⟨kq, x3_1, rfl, HA, HJ1, BK176, HB⟩ := hcut
  cases kq with
  | zero => exact absurd HA.out (by simp [cairnref32_may.j0])
  | succ kj1 =>
   have H := HA.out
   clear HA
   simp only [cairnref32_may.j0] at H
   have H' := Aside0.mk H
   clear H
   go_wp2
   go_loopg [3, 4] kj1 (fun kq v3 v4 w' => ∃ (x3_2 : Bool) (x4_2 : Int), v3 = .bool x3_2 ∧ v4 = .int .i64 x4_2 ∧ Aside0 (cairnref32_may.l0 kq x3_2 x4_2 l0_0 a0_1 l0_2 a0_3 a0_4 a0_5 = some r) ∧ Aside0 (kq ≤ kj1) ∧ Aside0 (w'.heap[gb176]? = some (.cells #[(.slice A0_0 l0_0.length c0_0), .string a0_1, (.slice A0_2 l0_2.length c0_2), .string a0_3, .bool a0_4, .int .i64 a0_5] 31 (0, 0))) ∧ Aside0 (Below w.heap.size w w'))
   case atStart => exact ⟨(x3_1), (0), (by first | rfl | (simp; done) | (simp [*]; done)), (by first | rfl | (simp; done) | (simp [*]; done)), H', ⟨Nat.le_refl _⟩, ⟨by (with_reducible repeat (first | refine blk_drewN ?_ _ | refine blk_drew ?_ | refine blk_alloc ?_ _)); exact BK176.out⟩, ⟨by repeat (first | (with_reducible first | exact HB.out | apply below_alloc | apply pw_below_drewN | apply below_drew1 | refine below_set ?_ GE176.out) | exact HB.out)⟩⟩
   case round =>
    clear H'
    try clear p2
    try clear c3
    try clear c4
    try clear c5
    try clear c6
    try clear c6b0
    try clear c6b1
    try clear c7
    try clear c7b0
    try clear c7b1
    try clear c8
    try clear c8b0
    try clear hcz10_0
    try clear hcz10_1
    try clear hcz10_2
    try clear hcz10_3
    try clear hcz10_4
    try clear hcz10_5
    try clear hcz11_0
    try clear hcz11_1
    try clear hcz11_2
    try clear hcz11_3
    try clear hcz11_4
    try clear hcz11_5
    try clear hcz12_0
    try clear hcz12_1
    try clear hcz12_2
    try clear hcz12_3
    try clear hcz12_4
    try clear hcz12_5
    try clear hcz13_0
    try clear hcz13_1
    try clear hcz13_2
    try clear hcz13_3
    try clear hcz13_4
    try clear hcz13_5
    try clear hcz9_0
    try clear hcz9_1
    try clear hcz9_2
    try clear hcz9_3
    try clear hcz9_4
    try clear hcz9_5
    try clear hfz10_0
    try clear hfz10_1
    try clear hfz10_2
    try clear hfz10_3
    try clear hfz10_4
    try clear hfz10_5
    try clear hfz11_0
    try clear hfz11_1
    try clear hfz11_2
    try clear hfz11_3
    try clear hfz11_4
    try clear hfz11_5
    try clear hfz12_0
    try clear hfz12_1
    try clear hfz12_2
    try clear hfz12_3
    try clear hfz12_4
    try clear hfz12_5
    try clear hfz13_0
    try clear hfz13_1
    try clear hfz13_2
    try clear hfz13_3
    try clear hfz13_4
    try clear hfz13_5
    try clear hfz9_0
    try clear hfz9_1
    try clear hfz9_2
    try clear hfz9_3
    try clear hfz9_4
    try clear hfz9_5
    try clear p2
    obtain ⟨x3_2, x4_2, rfl, rfl, HA, HK2, BK176, HB⟩ := hrel
    cases gk with
    | zero => exact absurd HA.out (by simp [cairnref32_may.l0])
    | succ k2 =>
     have H := HA.out
     clear HA
     simp only [cairnref32_may.l0] at H
     by_cases c14 : x4_2 < (l0_0.length : Int)
     ·
      rw [if_pos c14] at H
      have c14b0 : decide (x4_2 < (l0_0.length : Int)) = true := decide_eq_true c14
      clear c14
      by_cases c15 : x3_2 = true
      ·
       subst c15
       have H1 : (if 0 ≤ x4_2 then ((cairnref32_Name.f k2 (rdOf ByteArray.empty l0_0 x4_2)).bind fun t179 => (cairnref32_may.l0 k2 t179 (wrap64 (x4_2 + 1)) l0_0 a0_1 l0_2 a0_3 a0_4 a0_5)) else (none)) = some r := by rw [if_pos rfl] at H; exact H
       clear H
       have H := H1
       clear H1
       by_cases c16 : 0 ≤ x4_2
       ·
        rw [if_pos c16] at H
        have c16b0 : decide (0 ≤ x4_2) = true := decide_eq_true c16
        clear c16
        replace H := Option.bind_eq_some_iff.mp H
        obtain ⟨t179, A170, H⟩ := H
        replace H : (cairnref32_may.l0 k2 t179 (wrap64 (x4_2 + 1)) l0_0 a0_1 l0_2 a0_3 a0_4 a0_5) = some r := H
        have A17 := Aside0.mk A170
        clear A170
        have H' := Aside0.mk H
        clear H
        have hcz18_0 : wr.cell? ⟨gb176, 0, none⟩ = some (.slice A0_0 l0_0.length c0_0) := (blk_cell BK176.out 0).trans rfl
        have hcz18_1 : wr.cell? ⟨gb176, 1, none⟩ = some (.string a0_1) := (blk_cell BK176.out 1).trans rfl
        have hcz18_2 : wr.cell? ⟨gb176, 2, none⟩ = some (.slice A0_2 l0_2.length c0_2) := (blk_cell BK176.out 2).trans rfl
        have hcz18_3 : wr.cell? ⟨gb176, 3, none⟩ = some (.string a0_3) := (blk_cell BK176.out 3).trans rfl
        have hcz18_4 : wr.cell? ⟨gb176, 4, none⟩ = some (.bool a0_4) := (blk_cell BK176.out 4).trans rfl
        have hcz18_5 : wr.cell? ⟨gb176, 5, none⟩ = some (.int .i64 a0_5) := (blk_cell BK176.out 5).trans rfl
        have hfz18_0 := blk_frozen BK176.out 0
        have hfz18_1 := blk_frozen BK176.out 1
        have hfz18_2 := blk_frozen BK176.out 2
        have hfz18_3 := blk_frozen BK176.out 3
        have hfz18_4 := blk_frozen BK176.out 4
        have hfz18_5 := blk_frozen BK176.out 5
        have p178 : 0 ≤ (x4_2 : Int) := of_decide_eq_true (by first | (with_reducible assumption) | assumption)
        have q178 : x4_2 < (l0_0.length : Int) := of_decide_eq_true (by first | (with_reducible assumption) | assumption)
        obtain ⟨ad178, e178, hx178_0⟩ := Kd.at_string HR0_0.out x4_2 p178 q178
        cases e178
        replace hx178_0 := (HB.out.cell (World.block_lt_of_cell? w _ hx178_0)).trans hx178_0
        replace p178 := eq_true p178
        replace q178 := eq_true q178
        go_wp2_with (first | (go_at_call 47; (with_reducible refine (cairnref32_Name.calls k2 (rdOf ByteArray.empty l0_0 x4_2) t179 _ A17.out).mono ?_); rintro e w' ⟨rfl, ⟨nd, rfl⟩⟩))
        go_roundg k2
        case measure => have := HJ1.out; have := HK2.out; omega
        case rel => exact ⟨(t179), (wrap64 (x4_2 + 1)), (by first | rfl | (simp; done) | (simp [*]; done)), (by first | rfl | (simp; done) | (simp [*]; done)), H', ⟨by have := HJ1.out; have := HK2.out; omega⟩, ⟨by (with_reducible repeat (first | refine blk_drewN ?_ _ | refine blk_drew ?_ | refine blk_alloc ?_ _)); exact BK176.out⟩, ⟨by repeat (first | (with_reducible first | exact HB.out | apply below_alloc | apply pw_below_drewN | apply below_drew1 | refine below_set ?_ GE176.out) | exact HB.out)⟩⟩
       ·
        rw [if_neg c16] at H
        exact absurd H (by simp)
      ·
       replace c15 := Bool.eq_false_iff.mpr c15
       subst c15
       have H1 : (cairnref32_may.l0 k2 false (wrap64 (x4_2 + 1)) l0_0 a0_1 l0_2 a0_3 a0_4 a0_5) = some r := by rw [if_neg (show ¬ (false = true) by decide)] at H; exact H
       clear H
       have H := H1
       clear H1
       have H' := Aside0.mk H
       clear H
       have hcz19_0 : wr.cell? ⟨gb176, 0, none⟩ = some (.slice A0_0 l0_0.length c0_0) := (blk_cell BK176.out 0).trans rfl
       have hcz19_1 : wr.cell? ⟨gb176, 1, none⟩ = some (.string a0_1) := (blk_cell BK176.out 1).trans rfl
       have hcz19_2 : wr.cell? ⟨gb176, 2, none⟩ = some (.slice A0_2 l0_2.length c0_2) := (blk_cell BK176.out 2).trans rfl
       have hcz19_3 : wr.cell? ⟨gb176, 3, none⟩ = some (.string a0_3) := (blk_cell BK176.out 3).trans rfl
       have hcz19_4 : wr.cell? ⟨gb176, 4, none⟩ = some (.bool a0_4) := (blk_cell BK176.out 4).trans rfl
       have hcz19_5 : wr.cell? ⟨gb176, 5, none⟩ = some (.int .i64 a0_5) := (blk_cell BK176.out 5).trans rfl
       have hfz19_0 := blk_frozen BK176.out 0
       have hfz19_1 := blk_frozen BK176.out 1
       have hfz19_2 := blk_frozen BK176.out 2
       have hfz19_3 := blk_frozen BK176.out 3
       have hfz19_4 := blk_frozen BK176.out 4
       have hfz19_5 := blk_frozen BK176.out 5
       go_wp2
       go_roundg k2
       case measure => have := HJ1.out; have := HK2.out; omega
       case rel => exact ⟨(false), (wrap64 (x4_2 + 1)), (by first | rfl | (simp; done) | (simp [*]; done)), (by first | rfl | (simp; done) | (simp [*]; done)), H', ⟨by have := HJ1.out; have := HK2.out; omega⟩, ⟨by (with_reducible repeat (first | refine blk_drewN ?_ _ | refine blk_drew ?_ | refine blk_alloc ?_ _)); exact BK176.out⟩, ⟨by repeat (first | (with_reducible first | exact HB.out | apply below_alloc | apply pw_below_drewN | apply below_drew1 | refine below_set ?_ GE176.out) | exact HB.out)⟩⟩
     ·
      rw [if_neg c14] at H
      have c14b0 : decide (x4_2 < (l0_0.length : Int)) = false := decide_eq_false c14
      clear c14
      have H' := Aside0.mk H
      clear H
      have hcz20_0 : wr.cell? ⟨gb176, 0, none⟩ = some (.slice A0_0 l0_0.length c0_0) := (blk_cell BK176.out 0).trans rfl
      have hcz20_1 : wr.cell? ⟨gb176, 1, none⟩ = some (.string a0_1) := (blk_cell BK176.out 1).trans rfl
      have hcz20_2 : wr.cell? ⟨gb176, 2, none⟩ = some (.slice A0_2 l0_2.length c0_2) := (blk_cell BK176.out 2).trans rfl
      have hcz20_3 : wr.cell? ⟨gb176, 3, none⟩ = some (.string a0_3) := (blk_cell BK176.out 3).trans rfl
      have hcz20_4 : wr.cell? ⟨gb176, 4, none⟩ = some (.bool a0_4) := (blk_cell BK176.out 4).trans rfl
      have hcz20_5 : wr.cell? ⟨gb176, 5, none⟩ = some (.int .i64 a0_5) := (blk_cell BK176.out 5).trans rfl
      have hfz20_0 := blk_frozen BK176.out 0
      have hfz20_1 := blk_frozen BK176.out 1
      have hfz20_2 := blk_frozen BK176.out 2
      have hfz20_3 := blk_frozen BK176.out 3
      have hfz20_4 := blk_frozen BK176.out 4
      have hfz20_5 := blk_frozen BK176.out 5
      go_wp2
      go_loopg [3, 5] k2 (fun kq v3 v5 w' => ∃ (x3_3 : Bool) (x5_3 : Int), v3 = .bool x3_3 ∧ v5 = .int .i64 x5_3 ∧ Aside0 (cairnref32_may.l1 kq x3_3 x5_3 l0_0 a0_1 l0_2 a0_3 a0_4 a0_5 = some r) ∧ Aside0 (kq ≤ k2) ∧ Aside0 (w'.heap[gb176]? = some (.cells #[(.slice A0_0 l0_0.length c0_0), .string a0_1, (.slice A0_2 l0_2.length c0_2), .string a0_3, .bool a0_4, .int .i64 a0_5] 31 (0, 0))) ∧ Aside0 (Below w.heap.size w w'))
      case atStart => exact ⟨(x3_2), (0), (by first | rfl | (simp; done) | (simp [*]; done)), (by first | rfl | (simp; done) | (simp [*]; done)), H', ⟨Nat.le_refl _⟩, ⟨by (with_reducible repeat (first | refine blk_drewN ?_ _ | refine blk_drew ?_ | refine blk_alloc ?_ _)); exact BK176.out⟩, ⟨by repeat (first | (with_reducible first | exact HB.out | apply below_alloc | apply pw_below_drewN | apply below_drew1 | refine below_set ?_ GE176.out) | exact HB.out)⟩⟩
      case round =>
       clear H'
       try clear c1
       try clear p1
       try clear q1
       try clear hx1
       try clear p2
       try clear c3
       try clear c4
       try clear c5
       try clear c6
       try clear c6b0
       try clear c6b1
       try clear p6
       try clear c7
       try clear c7b0
       try clear c7b1
       try clear c8
       try clear c8b0
       try clear c14
       try clear c14b0
       try clear c15
       try clear c16
       try clear c16b0
       try clear p17
       try clear q17
       try clear hx17
       try clear hcz10_0
       try clear hcz10_1
       try clear hcz10_2
       try clear hcz10_3
       try clear hcz10_4
       try clear hcz10_5
       try clear hcz11_0
       try clear hcz11_1
       try clear hcz11_2
       try clear hcz11_3
       try clear hcz11_4
       try clear hcz11_5
       try clear hcz12_0
       try clear hcz12_1
       try clear hcz12_2
       try clear hcz12_3
       try clear hcz12_4
       try clear hcz12_5
       try clear hcz13_0
       try clear hcz13_1
       try clear hcz13_2
       try clear hcz13_3
       try clear hcz13_4
       try clear hcz13_5
       try clear hcz18_0
       try clear hcz18_1
       try clear hcz18_2
       try clear hcz18_3
       try clear hcz18_4
       try clear hcz18_5
       try clear hcz19_0
       try clear hcz19_1
       try clear hcz19_2
       try clear hcz19_3
       try clear hcz19_4
       try clear hcz19_5
       try clear hcz20_0
       try clear hcz20_1
       try clear hcz20_2
       try clear hcz20_3
       try clear hcz20_4
       try clear hcz20_5
       try clear hcz9_0
       try clear hcz9_1
       try clear hcz9_2
       try clear hcz9_3
       try clear hcz9_4
       try clear hcz9_5
       try clear hfz10_0
       try clear hfz10_1
       try clear hfz10_2
       try clear hfz10_3
       try clear hfz10_4
       try clear hfz10_5
       try clear hfz11_0
       try clear hfz11_1
       try clear hfz11_2
       try clear hfz11_3
       try clear hfz11_4
       try clear hfz11_5
       try clear hfz12_0
       try clear hfz12_1
       try clear hfz12_2
       try clear hfz12_3
       try clear hfz12_4
       try clear hfz12_5
       try clear hfz13_0
       try clear hfz13_1
       try clear hfz13_2
       try clear hfz13_3
       try clear hfz13_4
       try clear hfz13_5
       try clear hfz18_0
       try clear hfz18_1
       try clear hfz18_2
       try clear hfz18_3
       try clear hfz18_4
       try clear hfz18_5
       try clear hfz19_0
       try clear hfz19_1
       try clear hfz19_2
       try clear hfz19_3
       try clear hfz19_4
       try clear hfz19_5
       try clear hfz20_0
       try clear hfz20_1
       try clear hfz20_2
       try clear hfz20_3
       try clear hfz20_4
       try clear hfz20_5
       try clear hfz9_0
       try clear hfz9_1
       try clear hfz9_2
       try clear hfz9_3
       try clear hfz9_4
       try clear hfz9_5
       try clear hx178_0
       try clear p178
       try clear p2
       try clear q178
       obtain ⟨x3_3, x5_3, rfl, rfl, HA, HK3, BK176, HB⟩ := hrel
       cases gk with
       | zero => exact absurd HA.out (by simp [cairnref32_may.l1])
       | succ k3 =>
        have H := HA.out
        clear HA
        simp only [cairnref32_may.l1] at H
        by_cases c21 : x5_3 < (l0_2.length : Int)
        ·
         rw [if_pos c21] at H
         have c21b0 : decide (x5_3 < (l0_2.length : Int)) = true := decide_eq_true c21
         clear c21
         by_cases c22 : x3_3 = true
         ·
          subst c22
          have H1 : (if 0 ≤ x5_3 then ((cairnref32_Name.f k3 ((rd_T70 l0_2 x5_3).f0)).bind fun t181 => (if t181 = true then (if ((rd_T70 l0_2 x5_3).f1) ≥ 1 then (if ((rd_T70 l0_2 x5_3).f1) ≤ 6 then (cairnref32_may.l1 k3 (decide ((((rd_T70 l0_2 x5_3).f2).size : Int) ≤ 1024)) (wrap64 (x5_3 + 1)) l0_0 a0_1 l0_2 a0_3 a0_4 a0_5) else (cairnref32_may.l1 k3 false (wrap64 (x5_3 + 1)) l0_0 a0_1 l0_2 a0_3 a0_4 a0_5)) else (cairnref32_may.l1 k3 false (wrap64 (x5_3 + 1)) l0_0 a0_1 l0_2 a0_3 a0_4 a0_5)) else (cairnref32_may.l1 k3 false (wrap64 (x5_3 + 1)) l0_0 a0_1 l0_2 a0_3 a0_4 a0_5))) else (none)) = some r := by rw [if_pos rfl] at H; exact H
          clear H
          have H := H1
          clear H1
          by_cases c23 : 0 ≤ x5_3
          ·
           rw [if_pos c23] at H
           have c23b0 : decide (0 ≤ x5_3) = true := decide_eq_true c23
           clear c23
           replace H := Option.bind_eq_some_iff.mp H
           obtain ⟨t181, A240, H⟩ := H
           replace H : (if t181 = true then (if ((rd_T70 l0_2 x5_3).f1) ≥ 1 then (if ((rd_T70 l0_2 x5_3).f1) ≤ 6 then (cairnref32_may.l1 k3 (decide ((((rd_T70 l0_2 x5_3).f2).size : Int) ≤ 1024)) (wrap64 (x5_3 + 1)) l0_0 a0_1 l0_2 a0_3 a0_4 a0_5) else (cairnref32_may.l1 k3 false (wrap64 (x5_3 + 1)) l0_0 a0_1 l0_2 a0_3 a0_4 a0_5)) else (cairnref32_may.l1 k3 false (wrap64 (x5_3 + 1)) l0_0 a0_1 l0_2 a0_3 a0_4 a0_5)) else (cairnref32_may.l1 k3 false (wrap64 (x5_3 + 1)) l0_0 a0_1 l0_2 a0_3 a0_4 a0_5)) = some r := H
           have A24 := Aside0.mk A240
           clear A240
           by_cases c25 : t181 = true
           ·
            subst c25
            have H1 : (if ((rd_T70 l0_2 x5_3).f1) ≥ 1 then (if ((rd_T70 l0_2 x5_3).f1) ≤ 6 then (cairnref32_may.l1 k3 (decide ((((rd_T70 l0_2 x5_3).f2).size : Int) ≤ 1024)) (wrap64 (x5_3 + 1)) l0_0 a0_1 l0_2 a0_3 a0_4 a0_5) else (cairnref32_may.l1 k3 false (wrap64 (x5_3 + 1)) l0_0 a0_1 l0_2 a0_3 a0_4 a0_5)) else (cairnref32_may.l1 k3 false (wrap64 (x5_3 + 1)) l0_0 a0_1 l0_2 a0_3 a0_4 a0_5)) = some r := by rw [if_pos rfl] at H; exact H
            clear H
            have H := H1
            clear H1
            by_cases c26 : ((rd_T70 l0_2 x5_3).f1) ≥ 1
            ·
             rw [if_pos c26] at H
             have c26b0 : decide (1 ≤ ((rd_T70 l0_2 x5_3).f1)) = true := decide_eq_true c26
             clear c26
             by_cases c27 : ((rd_T70 l0_2 x5_3).f1) ≤ 6
             ·
              rw [if_pos c27] at H
              have c27b0 : decide (((rd_T70 l0_2 x5_3).f1) ≤ 6) = true := decide_eq_true c27
              clear c27
              have H' := Aside0.mk H
              clear H
              have hcz28_0 : wr.cell? ⟨gb176, 0, none⟩ = some (.slice A0_0 l0_0.length c0_0) := (blk_cell BK176.out 0).trans rfl
              have hcz28_1 : wr.cell? ⟨gb176, 1, none⟩ = some (.string a0_1) := (blk_cell BK176.out 1).trans rfl
              have hcz28_2 : wr.cell? ⟨gb176, 2, none⟩ = some (.slice A0_2 l0_2.length c0_2) := (blk_cell BK176.out 2).trans rfl
              have hcz28_3 : wr.cell? ⟨gb176, 3, none⟩ = some (.string a0_3) := (blk_cell BK176.out 3).trans rfl
              have hcz28_4 : wr.cell? ⟨gb176, 4, none⟩ = some (.bool a0_4) := (blk_cell BK176.out 4).trans rfl
              have hcz28_5 : wr.cell? ⟨gb176, 5, none⟩ = some (.int .i64 a0_5) := (blk_cell BK176.out 5).trans rfl
              have hfz28_0 := blk_frozen BK176.out 0
              have hfz28_1 := blk_frozen BK176.out 1
              have hfz28_2 := blk_frozen BK176.out 2
              have hfz28_3 := blk_frozen BK176.out 3
              have hfz28_4 := blk_frozen BK176.out 4
              have hfz28_5 := blk_frozen BK176.out 5
              have p180 : 0 ≤ (x5_3 : Int) := of_decide_eq_true (by first | (with_reducible assumption) | assumption)
              have q180 : x5_3 < (l0_2.length : Int) := of_decide_eq_true (by first | (with_reducible assumption) | assumption)
              obtain ⟨ad180, e180, hx180_0, hx180_1, hx180_2⟩ := at_T70 HR0_2.out x5_3 p180 q180
              cases e180
              replace hx180_0 := (HB.out.cell (World.block_lt_of_cell? w _ hx180_0)).trans hx180_0
              replace hx180_1 := (HB.out.cell (World.block_lt_of_cell? w _ hx180_1)).trans hx180_1
              replace hx180_2 := (HB.out.cell (World.block_lt_of_cell? w _ hx180_2)).trans hx180_2
              replace p180 := eq_true p180
              replace q180 := eq_true q180
              go_wp2_with (first | (go_at_call 47; (with_reducible refine (cairnref32_Name.calls k3 ((rd_T70 l0_2 x5_3).f0) true _ A24.out).mono ?_); rintro e w' ⟨rfl, ⟨nd, rfl⟩⟩; have p182 : 0 ≤ (x5_3 : Int) := of_decide_eq_true (by first | (with_reducible assumption) | assumption); have q182 : x5_3 < (l0_2.length : Int) := of_decide_eq_true (by first | (with_reducible assumption) | assumption); obtain ⟨ad182, e182, hx182_0, hx182_1, hx182_2⟩ := at_T70 HR0_2.out x5_3 p182 q182; obtain rfl : ad180 = ad182 := (by injection e182); replace hx182_0 := (HB.out.cell (World.block_lt_of_cell? w _ hx182_0)).trans hx182_0; replace hx182_1 := (HB.out.cell (World.block_lt_of_cell? w _ hx182_1)).trans hx182_1; replace hx182_2 := (HB.out.cell (World.block_lt_of_cell? w _ hx182_2)).trans hx182_2; replace p182 := eq_true p182; replace q182 := eq_true q182; have p183 : 0 ≤ (x5_3 : Int) := of_decide_eq_true (by first | (with_reducible assumption) | assumption); have q183 : x5_3 < (l0_2.length : Int) := of_decide_eq_true (by first | (with_reducible assumption) | assumption); obtain ⟨ad183, e183, hx183_0, hx183_1, hx183_2⟩ := at_T70 HR0_2.out x5_3 p183 q183; obtain rfl : ad180 = ad183 := (by injection e183); replace hx183_0 := (HB.out.cell (World.block_lt_of_cell? w _ hx183_0)).trans hx183_0; replace hx183_1 := (HB.out.cell (World.block_lt_of_cell? w _ hx183_1)).trans hx183_1; replace hx183_2 := (HB.out.cell (World.block_lt_of_cell? w _ hx183_2)).trans hx183_2; replace p183 := eq_true p183; replace q183 := eq_true q183; have p184 : 0 ≤ (x5_3 : Int) := of_decide_eq_true (by first | (with_reducible assumption) | assumption); have q184 : x5_3 < (l0_2.length : Int) := of_decide_eq_true (by first | (with_reducible assumption) | assumption); obtain ⟨ad184, e184, hx184_0, hx184_1, hx184_2⟩ := at_T70 HR0_2.out x5_3 p184 q184; obtain rfl : ad180 = ad184 := (by injection e184); replace hx184_0 := (HB.out.cell (World.block_lt_of_cell? w _ hx184_0)).trans hx184_0; replace hx184_1 := (HB.out.cell (World.block_lt_of_cell? w _ hx184_1)).trans hx184_1; replace hx184_2 := (HB.out.cell (World.block_lt_of_cell? w _ hx184_2)).trans hx184_2; replace p184 := eq_true p184; replace q184 := eq_true q184))
              go_roundg k3
              case measure => have := HJ1.out; have := HK2.out; have := HK3.out; omega
              case rel => exact ⟨(decide ((((rd_T70 l0_2 x5_3).f2).size : Int) ≤ 1024)), (wrap64 (x5_3 + 1)), (by first | rfl | (simp; done) | (simp [*]; done)), (by first | rfl | (simp; done) | (simp [*]; done)), H', ⟨by have := HJ1.out; have := HK2.out; have := HK3.out; omega⟩, ⟨by (with_reducible repeat (first | refine blk_drewN ?_ _ | refine blk_drew ?_ | refine blk_alloc ?_ _)); exact BK176.out⟩, ⟨by repeat (first | (with_reducible first | exact HB.out | apply below_alloc | apply pw_below_drewN | apply below_drew1 | refine below_set ?_ GE176.out) | exact HB.out)⟩⟩
             ·
              rw [if_neg c27] at H
              have c27b0 : decide (((rd_T70 l0_2 x5_3).f1) ≤ 6) = false := decide_eq_false c27
              clear c27
              have H' := Aside0.mk H
              clear H
              have hcz29_0 : wr.cell? ⟨gb176, 0, none⟩ = some (.slice A0_0 l0_0.length c0_0) := (blk_cell BK176.out 0).trans rfl
              have hcz29_1 : wr.cell? ⟨gb176, 1, none⟩ = some (.string a0_1) := (blk_cell BK176.out 1).trans rfl
              have hcz29_2 : wr.cell? ⟨gb176, 2, none⟩ = some (.slice A0_2 l0_2.length c0_2) := (blk_cell BK176.out 2).trans rfl
              have hcz29_3 : wr.cell? ⟨gb176, 3, none⟩ = some (.string a0_3) := (blk_cell BK176.out 3).trans rfl
              have hcz29_4 : wr.cell? ⟨gb176, 4, none⟩ = some (.bool a0_4) := (blk_cell BK176.out 4).trans rfl
              have hcz29_5 : wr.cell? ⟨gb176, 5, none⟩ = some (.int .i64 a0_5) := (blk_cell BK176.out 5).trans rfl
              have hfz29_0 := blk_frozen BK176.out 0
              have hfz29_1 := blk_frozen BK176.out 1
              have hfz29_2 := blk_frozen BK176.out 2
              have hfz29_3 := blk_frozen BK176.out 3
              have hfz29_4 := blk_frozen BK176.out 4
              have hfz29_5 := blk_frozen BK176.out 5
              have p180 : 0 ≤ (x5_3 : Int) := of_decide_eq_true (by first | (with_reducible assumption) | assumption)
              have q180 : x5_3 < (l0_2.length : Int) := of_decide_eq_true (by first | (with_reducible assumption) | assumption)
              obtain ⟨ad180, e180, hx180_0, hx180_1, hx180_2⟩ := at_T70 HR0_2.out x5_3 p180 q180
              cases e180
              replace hx180_0 := (HB.out.cell (World.block_lt_of_cell? w _ hx180_0)).trans hx180_0
              replace hx180_1 := (HB.out.cell (World.block_lt_of_cell? w _ hx180_1)).trans hx180_1
              replace hx180_2 := (HB.out.cell (World.block_lt_of_cell? w _ hx180_2)).trans hx180_2
              replace p180 := eq_true p180
              replace q180 := eq_true q180
              go_wp2_with (first | (go_at_call 47; (with_reducible refine (cairnref32_Name.calls k3 ((rd_T70 l0_2 x5_3).f0) true _ A24.out).mono ?_); rintro e w' ⟨rfl, ⟨nd, rfl⟩⟩; have p182 : 0 ≤ (x5_3 : Int) := of_decide_eq_true (by first | (with_reducible assumption) | assumption); have q182 : x5_3 < (l0_2.length : Int) := of_decide_eq_true (by first | (with_reducible assumption) | assumption); obtain ⟨ad182, e182, hx182_0, hx182_1, hx182_2⟩ := at_T70 HR0_2.out x5_3 p182 q182; obtain rfl : ad180 = ad182 := (by injection e182); replace hx182_0 := (HB.out.cell (World.block_lt_of_cell? w _ hx182_0)).trans hx182_0; replace hx182_1 := (HB.out.cell (World.block_lt_of_cell? w _ hx182_1)).trans hx182_1; replace hx182_2 := (HB.out.cell (World.block_lt_of_cell? w _ hx182_2)).trans hx182_2; replace p182 := eq_true p182; replace q182 := eq_true q182; have p183 : 0 ≤ (x5_3 : Int) := of_decide_eq_true (by first | (with_reducible assumption) | assumption); have q183 : x5_3 < (l0_2.length : Int) := of_decide_eq_true (by first | (with_reducible assumption) | assumption); obtain ⟨ad183, e183, hx183_0, hx183_1, hx183_2⟩ := at_T70 HR0_2.out x5_3 p183 q183; obtain rfl : ad180 = ad183 := (by injection e183); replace hx183_0 := (HB.out.cell (World.block_lt_of_cell? w _ hx183_0)).trans hx183_0; replace hx183_1 := (HB.out.cell (World.block_lt_of_cell? w _ hx183_1)).trans hx183_1; replace hx183_2 := (HB.out.cell (World.block_lt_of_cell? w _ hx183_2)).trans hx183_2; replace p183 := eq_true p183; replace q183 := eq_true q183))
              go_roundg k3
              case measure => have := HJ1.out; have := HK2.out; have := HK3.out; omega
              case rel => exact ⟨(false), (wrap64 (x5_3 + 1)), (by first | rfl | (simp; done) | (simp [*]; done)), (by first | rfl | (simp; done) | (simp [*]; done)), H', ⟨by have := HJ1.out; have := HK2.out; have := HK3.out; omega⟩, ⟨by (with_reducible repeat (first | refine blk_drewN ?_ _ | refine blk_drew ?_ | refine blk_alloc ?_ _)); exact BK176.out⟩, ⟨by repeat (first | (with_reducible first | exact HB.out | apply below_alloc | apply pw_below_drewN | apply below_drew1 | refine below_set ?_ GE176.out) | exact HB.out)⟩⟩
            ·
             rw [if_neg c26] at H
             have c26b0 : decide (1 ≤ ((rd_T70 l0_2 x5_3).f1)) = false := decide_eq_false c26
             clear c26
             have H' := Aside0.mk H
             clear H
             have hcz30_0 : wr.cell? ⟨gb176, 0, none⟩ = some (.slice A0_0 l0_0.length c0_0) := (blk_cell BK176.out 0).trans rfl
             have hcz30_1 : wr.cell? ⟨gb176, 1, none⟩ = some (.string a0_1) := (blk_cell BK176.out 1).trans rfl
             have hcz30_2 : wr.cell? ⟨gb176, 2, none⟩ = some (.slice A0_2 l0_2.length c0_2) := (blk_cell BK176.out 2).trans rfl
             have hcz30_3 : wr.cell? ⟨gb176, 3, none⟩ = some (.string a0_3) := (blk_cell BK176.out 3).trans rfl
             have hcz30_4 : wr.cell? ⟨gb176, 4, none⟩ = some (.bool a0_4) := (blk_cell BK176.out 4).trans rfl
             have hcz30_5 : wr.cell? ⟨gb176, 5, none⟩ = some (.int .i64 a0_5) := (blk_cell BK176.out 5).trans rfl
             have hfz30_0 := blk_frozen BK176.out 0
             have hfz30_1 := blk_frozen BK176.out 1
             have hfz30_2 := blk_frozen BK176.out 2
             have hfz30_3 := blk_frozen BK176.out 3
             have hfz30_4 := blk_frozen BK176.out 4
             have hfz30_5 := blk_frozen BK176.out 5
             have p180 : 0 ≤ (x5_3 : Int) := of_decide_eq_true (by first | (with_reducible assumption) | assumption)
             have q180 : x5_3 < (l0_2.length : Int) := of_decide_eq_true (by first | (with_reducible assumption) | assumption)
             obtain ⟨ad180, e180, hx180_0, hx180_1, hx180_2⟩ := at_T70 HR0_2.out x5_3 p180 q180
             cases e180
             replace hx180_0 := (HB.out.cell (World.block_lt_of_cell? w _ hx180_0)).trans hx180_0
             replace hx180_1 := (HB.out.cell (World.block_lt_of_cell? w _ hx180_1)).trans hx180_1
             replace hx180_2 := (HB.out.cell (World.block_lt_of_cell? w _ hx180_2)).trans hx180_2
             replace p180 := eq_true p180
             replace q180 := eq_true q180
             go_wp2_with (first | (go_at_call 47; (with_reducible refine (cairnref32_Name.calls k3 ((rd_T70 l0_2 x5_3).f0) true _ A24.out).mono ?_); rintro e w' ⟨rfl, ⟨nd, rfl⟩⟩; have p182 : 0 ≤ (x5_3 : Int) := of_decide_eq_true (by first | (with_reducible assumption) | assumption); have q182 : x5_3 < (l0_2.length : Int) := of_decide_eq_true (by first | (with_reducible assumption) | assumption); obtain ⟨ad182, e182, hx182_0, hx182_1, hx182_2⟩ := at_T70 HR0_2.out x5_3 p182 q182; obtain rfl : ad180 = ad182 := (by injection e182); replace hx182_0 := (HB.out.cell (World.block_lt_of_cell? w _ hx182_0)).trans hx182_0; replace hx182_1 := (HB.out.cell (World.block_lt_of_cell? w _ hx182_1)).trans hx182_1; replace hx182_2 := (HB.out.cell (World.block_lt_of_cell? w _ hx182_2)).trans hx182_2; replace p182 := eq_true p182; replace q182 := eq_true q182))
             go_roundg k3
             case measure => have := HJ1.out; have := HK2.out; have := HK3.out; omega
             case rel => exact ⟨(false), (wrap64 (x5_3 + 1)), (by first | rfl | (simp; done) | (simp [*]; done)), (by first | rfl | (simp; done) | (simp [*]; done)), H', ⟨by have := HJ1.out; have := HK2.out; have := HK3.out; omega⟩, ⟨by (with_reducible repeat (first | refine blk_drewN ?_ _ | refine blk_drew ?_ | refine blk_alloc ?_ _)); exact BK176.out⟩, ⟨by repeat (first | (with_reducible first | exact HB.out | apply below_alloc | apply pw_below_drewN | apply below_drew1 | refine below_set ?_ GE176.out) | exact HB.out)⟩⟩
           ·
            replace c25 := Bool.eq_false_iff.mpr c25
            subst c25
            have H1 : (cairnref32_may.l1 k3 false (wrap64 (x5_3 + 1)) l0_0 a0_1 l0_2 a0_3 a0_4 a0_5) = some r := by rw [if_neg (show ¬ (false = true) by decide)] at H; exact H
            clear H
            have H := H1
            clear H1
            have H' := Aside0.mk H
            clear H
            have hcz31_0 : wr.cell? ⟨gb176, 0, none⟩ = some (.slice A0_0 l0_0.length c0_0) := (blk_cell BK176.out 0).trans rfl
            have hcz31_1 : wr.cell? ⟨gb176, 1, none⟩ = some (.string a0_1) := (blk_cell BK176.out 1).trans rfl
            have hcz31_2 : wr.cell? ⟨gb176, 2, none⟩ = some (.slice A0_2 l0_2.length c0_2) := (blk_cell BK176.out 2).trans rfl
            have hcz31_3 : wr.cell? ⟨gb176, 3, none⟩ = some (.string a0_3) := (blk_cell BK176.out 3).trans rfl
            have hcz31_4 : wr.cell? ⟨gb176, 4, none⟩ = some (.bool a0_4) := (blk_cell BK176.out 4).trans rfl
            have hcz31_5 : wr.cell? ⟨gb176, 5, none⟩ = some (.int .i64 a0_5) := (blk_cell BK176.out 5).trans rfl
            have hfz31_0 := blk_frozen BK176.out 0
            have hfz31_1 := blk_frozen BK176.out 1
            have hfz31_2 := blk_frozen BK176.out 2
            have hfz31_3 := blk_frozen BK176.out 3
            have hfz31_4 := blk_frozen BK176.out 4
            have hfz31_5 := blk_frozen BK176.out 5
            have p180 : 0 ≤ (x5_3 : Int) := of_decide_eq_true (by first | (with_reducible assumption) | assumption)
            have q180 : x5_3 < (l0_2.length : Int) := of_decide_eq_true (by first | (with_reducible assumption) | assumption)
            obtain ⟨ad180, e180, hx180_0, hx180_1, hx180_2⟩ := at_T70 HR0_2.out x5_3 p180 q180
            cases e180
            replace hx180_0 := (HB.out.cell (World.block_lt_of_cell? w _ hx180_0)).trans hx180_0
            replace hx180_1 := (HB.out.cell (World.block_lt_of_cell? w _ hx180_1)).trans hx180_1
            replace hx180_2 := (HB.out.cell (World.block_lt_of_cell? w _ hx180_2)).trans hx180_2
            replace p180 := eq_true p180
            replace q180 := eq_true q180
            go_wp2_with (first | (go_at_call 47; (with_reducible refine (cairnref32_Name.calls k3 ((rd_T70 l0_2 x5_3).f0) false _ A24.out).mono ?_); rintro e w' ⟨rfl, ⟨nd, rfl⟩⟩))
            go_roundg k3
            case measure => have := HJ1.out; have := HK2.out; have := HK3.out; omega
            case rel => exact ⟨(false), (wrap64 (x5_3 + 1)), (by first | rfl | (simp; done) | (simp [*]; done)), (by first | rfl | (simp; done) | (simp [*]; done)), H', ⟨by have := HJ1.out; have := HK2.out; have := HK3.out; omega⟩, ⟨by (with_reducible repeat (first | refine blk_drewN ?_ _ | refine blk_drew ?_ | refine blk_alloc ?_ _)); exact BK176.out⟩, ⟨by repeat (first | (with_reducible first | exact HB.out | apply below_alloc | apply pw_below_drewN | apply below_drew1 | refine below_set ?_ GE176.out) | exact HB.out)⟩⟩
          ·
           rw [if_neg c23] at H
           exact absurd H (by simp)
         ·
          replace c22 := Bool.eq_false_iff.mpr c22
          subst c22
          have H1 : (cairnref32_may.l1 k3 false (wrap64 (x5_3 + 1)) l0_0 a0_1 l0_2 a0_3 a0_4 a0_5) = some r := by rw [if_neg (show ¬ (false = true) by decide)] at H; exact H
          clear H
          have H := H1
          clear H1
          have H' := Aside0.mk H
          clear H
          have hcz32_0 : wr.cell? ⟨gb176, 0, none⟩ = some (.slice A0_0 l0_0.length c0_0) := (blk_cell BK176.out 0).trans rfl
          have hcz32_1 : wr.cell? ⟨gb176, 1, none⟩ = some (.string a0_1) := (blk_cell BK176.out 1).trans rfl
          have hcz32_2 : wr.cell? ⟨gb176, 2, none⟩ = some (.slice A0_2 l0_2.length c0_2) := (blk_cell BK176.out 2).trans rfl
          have hcz32_3 : wr.cell? ⟨gb176, 3, none⟩ = some (.string a0_3) := (blk_cell BK176.out 3).trans rfl
          have hcz32_4 : wr.cell? ⟨gb176, 4, none⟩ = some (.bool a0_4) := (blk_cell BK176.out 4).trans rfl
          have hcz32_5 : wr.cell? ⟨gb176, 5, none⟩ = some (.int .i64 a0_5) := (blk_cell BK176.out 5).trans rfl
          have hfz32_0 := blk_frozen BK176.out 0
          have hfz32_1 := blk_frozen BK176.out 1
          have hfz32_2 := blk_frozen BK176.out 2
          have hfz32_3 := blk_frozen BK176.out 3
          have hfz32_4 := blk_frozen BK176.out 4
          have hfz32_5 := blk_frozen BK176.out 5
          go_wp2
          go_roundg k3
          case measure => have := HJ1.out; have := HK2.out; have := HK3.out; omega
          case rel => exact ⟨(false), (wrap64 (x5_3 + 1)), (by first | rfl | (simp; done) | (simp [*]; done)), (by first | rfl | (simp; done) | (simp [*]; done)), H', ⟨by have := HJ1.out; have := HK2.out; have := HK3.out; omega⟩, ⟨by (with_reducible repeat (first | refine blk_drewN ?_ _ | refine blk_drew ?_ | refine blk_alloc ?_ _)); exact BK176.out⟩, ⟨by repeat (first | (with_reducible first | exact HB.out | apply below_alloc | apply pw_below_drewN | apply below_drew1 | refine below_set ?_ GE176.out) | exact HB.out)⟩⟩
        ·
         rw [if_neg c21] at H
         have c21b0 : decide (x5_3 < (l0_2.length : Int)) = false := decide_eq_false c21
         clear c21
         by_cases c33 : a0_3.toList = ([] : List UInt8)
         ·
          rw [if_pos c33] at H
          have c33b0 : (a0_3.toList == ([] : List UInt8)) = true := beq_iff_eq.mpr c33
          have c33b1 : (a0_3.toList != ([] : List UInt8)) = false := bne_eq_false_iff_eq.mpr c33
          clear c33
          by_cases c34 : x3_3 = true
          ·
           subst c34
           have H1 : (some (!a0_4)) = some r := by rw [if_pos rfl] at H; exact H
           clear H
           have H := H1
           clear H1
           obtain rfl := Option.some.inj H
           have hcz35_0 : wr.cell? ⟨gb176, 0, none⟩ = some (.slice A0_0 l0_0.length c0_0) := (blk_cell BK176.out 0).trans rfl
           have hcz35_1 : wr.cell? ⟨gb176, 1, none⟩ = some (.string a0_1) := (blk_cell BK176.out 1).trans rfl
           have hcz35_2 : wr.cell? ⟨gb176, 2, none⟩ = some (.slice A0_2 l0_2.length c0_2) := (blk_cell BK176.out 2).trans rfl
           have hcz35_3 : wr.cell? ⟨gb176, 3, none⟩ = some (.string a0_3) := (blk_cell BK176.out 3).trans rfl
           have hcz35_4 : wr.cell? ⟨gb176, 4, none⟩ = some (.bool a0_4) := (blk_cell BK176.out 4).trans rfl
           have hcz35_5 : wr.cell? ⟨gb176, 5, none⟩ = some (.int .i64 a0_5) := (blk_cell BK176.out 5).trans rfl
           have hfz35_0 := blk_frozen BK176.out 0
           have hfz35_1 := blk_frozen BK176.out 1
           have hfz35_2 := blk_frozen BK176.out 2
           have hfz35_3 := blk_frozen BK176.out 3
           have hfz35_4 := blk_frozen BK176.out 4
           have hfz35_5 := blk_frozen BK176.out 5
           go_wp2
           go_ret
           exact ⟨by first | rfl | (simp [errW_none, errW_some] <;> rfl) | (simp [*, errW_none, errW_some] <;> rfl), by repeat (first | (with_reducible first | exact HB.out | apply below_alloc | apply pw_below_drewN | apply below_drew1 | refine below_set ?_ GE176.out) | exact HB.out)⟩
          ·
           replace c34 := Bool.eq_false_iff.mpr c34
           subst c34
           have H1 : (some false) = some r := by rw [if_neg (show ¬ (false = true) by decide)] at H; exact H
           clear H
           have H := H1
           clear H1
           obtain rfl := Option.some.inj H
           have hcz36_0 : wr.cell? ⟨gb176, 0, none⟩ = some (.slice A0_0 l0_0.length c0_0) := (blk_cell BK176.out 0).trans rfl
           have hcz36_1 : wr.cell? ⟨gb176, 1, none⟩ = some (.string a0_1) := (blk_cell BK176.out 1).trans rfl
           have hcz36_2 : wr.cell? ⟨gb176, 2, none⟩ = some (.slice A0_2 l0_2.length c0_2) := (blk_cell BK176.out 2).trans rfl
           have hcz36_3 : wr.cell? ⟨gb176, 3, none⟩ = some (.string a0_3) := (blk_cell BK176.out 3).trans rfl
           have hcz36_4 : wr.cell? ⟨gb176, 4, none⟩ = some (.bool a0_4) := (blk_cell BK176.out 4).trans rfl
           have hcz36_5 : wr.cell? ⟨gb176, 5, none⟩ = some (.int .i64 a0_5) := (blk_cell BK176.out 5).trans rfl
           have hfz36_0 := blk_frozen BK176.out 0
           have hfz36_1 := blk_frozen BK176.out 1
           have hfz36_2 := blk_frozen BK176.out 2
           have hfz36_3 := blk_frozen BK176.out 3
           have hfz36_4 := blk_frozen BK176.out 4
           have hfz36_5 := blk_frozen BK176.out 5
           go_wp2
           go_ret
           exact ⟨by first | rfl | (simp [errW_none, errW_some] <;> rfl) | (simp [*, errW_none, errW_some] <;> rfl), by repeat (first | (with_reducible first | exact HB.out | apply below_alloc | apply pw_below_drewN | apply below_drew1 | refine below_set ?_ GE176.out) | exact HB.out)⟩
         ·
          rw [if_neg c33] at H
          have c33b0 : (a0_3.toList == ([] : List UInt8)) = false := beq_eq_false_iff_ne.mpr c33
          have c33b1 : (a0_3.toList != ([] : List UInt8)) = true := bne_iff_ne.mpr c33
          by_cases c37 : x3_3 = true
          ·
           subst c37
           have H1 : ((cairnref32_Name.f k3 a0_3).bind fun t185 => (some t185)) = some r := by rw [if_pos rfl] at H; exact H
           clear H
           have H := H1
           clear H1
           replace H := Option.bind_eq_some_iff.mp H
           obtain ⟨t185, A380, H⟩ := H
           replace H : (some t185) = some r := H
           have A38 := Aside0.mk A380
           clear A380
           obtain rfl := Option.some.inj H
           have hcz39_0 : wr.cell? ⟨gb176, 0, none⟩ = some (.slice A0_0 l0_0.length c0_0) := (blk_cell BK176.out 0).trans rfl
           have hcz39_1 : wr.cell? ⟨gb176, 1, none⟩ = some (.string a0_1) := (blk_cell BK176.out 1).trans rfl
           have hcz39_2 : wr.cell? ⟨gb176, 2, none⟩ = some (.slice A0_2 l0_2.length c0_2) := (blk_cell BK176.out 2).trans rfl
           have hcz39_3 : wr.cell? ⟨gb176, 3, none⟩ = some (.string a0_3) := (blk_cell BK176.out 3).trans rfl
           have hcz39_4 : wr.cell? ⟨gb176, 4, none⟩ = some (.bool a0_4) := (blk_cell BK176.out 4).trans rfl
           have hcz39_5 : wr.cell? ⟨gb176, 5, none⟩ = some (.int .i64 a0_5) := (blk_cell BK176.out 5).trans rfl
           have hfz39_0 := blk_frozen BK176.out 0
           have hfz39_1 := blk_frozen BK176.out 1
           have hfz39_2 := blk_frozen BK176.out 2
           have hfz39_3 := blk_frozen BK176.out 3
           have hfz39_4 := blk_frozen BK176.out 4
           have hfz39_5 := blk_frozen BK176.out 5
           go_wp2_with (first | (go_at_call 47; (with_reducible refine (cairnref32_Name.calls k3 a0_3 t185 _ A38.out).mono ?_); rintro e w' ⟨rfl, ⟨nd, rfl⟩⟩))
           go_ret
           exact ⟨by first | rfl | (simp [errW_none, errW_some] <;> rfl) | (simp [*, errW_none, errW_some] <;> rfl), by repeat (first | (with_reducible first | exact HB.out | apply below_alloc | apply pw_below_drewN | apply below_drew1 | refine below_set ?_ GE176.out) | exact HB.out)⟩
          ·
           replace c37 := Bool.eq_false_iff.mpr c37
           subst c37
           have H1 : (some false) = some r := by rw [if_neg (show ¬ (false = true) by decide)] at H; exact H
           clear H
           have H := H1
           clear H1
           obtain rfl := Option.some.inj H
           have hcz40_0 : wr.cell? ⟨gb176, 0, none⟩ = some (.slice A0_0 l0_0.length c0_0) := (blk_cell BK176.out 0).trans rfl
           have hcz40_1 : wr.cell? ⟨gb176, 1, none⟩ = some (.string a0_1) := (blk_cell BK176.out 1).trans rfl
           have hcz40_2 : wr.cell? ⟨gb176, 2, none⟩ = some (.slice A0_2 l0_2.length c0_2) := (blk_cell BK176.out 2).trans rfl
           have hcz40_3 : wr.cell? ⟨gb176, 3, none⟩ = some (.string a0_3) := (blk_cell BK176.out 3).trans rfl
           have hcz40_4 : wr.cell? ⟨gb176, 4, none⟩ = some (.bool a0_4) := (blk_cell BK176.out 4).trans rfl
           have hcz40_5 : wr.cell? ⟨gb176, 5, none⟩ = some (.int .i64 a0_5) := (blk_cell BK176.out 5).trans rfl
           have hfz40_0 := blk_frozen BK176.out 0
           have hfz40_1 := blk_frozen BK176.out 1
           have hfz40_2 := blk_frozen BK176.out 2
           have hfz40_3 := blk_frozen BK176.out 3
           have hfz40_4 := blk_frozen BK176.out 4
           have hfz40_5 := blk_frozen BK176.out 5
           go_wp2
           go_ret
           exact ⟨by first | rfl | (simp [errW_none, errW_some] <;> rfl) | (simp [*, errW_none, errW_some] <;> rfl), by repeat (first | (with_reducible first | exact HB.out | apply below_alloc | apply pw_below_drewN | apply below_drew1 | refine below_set ?_ GE176.out) | exact HB.out)⟩

end Go.Proofs.YthhemephaabblaaGreatDoor.Q
namespace Go.Proofs.YthhemephaabblaaGreatDoor.Q
open Go.RowKit  Go.Proofs.YthhemephaabblaaGreatDoorW.PrintWords Go.Proofs.YthhemephaabblaaGreatDoorW.PrintLast Go.Proofs.YthhemephaabblaaGreatDoorW.PrintMore
attribute [local go_sem] max2_int min2_int max_two min_two max_three min_three max_four min_four   -- for this text's walks alone
set_option linter.unusedVariables false
set_option linter.unusedSimpArgs false

/-! ### cairnref32_Signs: function 33 -/
def cairnref32_Signs.f  : Option (List ByteArray) := some (([(⟨#[61]⟩ : ByteArray), (⟨#[33, 61]⟩ : ByteArray), (⟨#[60]⟩ : ByteArray), (⟨#[60, 61]⟩ : ByteArray), (⟨#[62]⟩ : ByteArray), (⟨#[62, 61]⟩ : ByteArray)] : List ByteArray))
set_option maxHeartbeats 8000000 in
set_option maxRecDepth 100000 in
theorem cairnref32_Signs.calls  (r : List ByteArray) (w : World) (h : cairnref32_Signs.f  = some r) :
  Calls Tryz.prog 33 #[] w fun e w' => ∃ v0_ : Value, e = .returned (v0_) ∧ Kd.R Kd.string 9 w' w.heap.size (fun _ => True) v0_ r ∧ Below w.heap.size w w' := by
 have HB := Aside0.mk (Below.refl w.heap.size w)
 have H : (some (([(⟨#[61]⟩ : ByteArray), (⟨#[33, 61]⟩ : ByteArray), (⟨#[60]⟩ : ByteArray), (⟨#[60, 61]⟩ : ByteArray), (⟨#[62]⟩ : ByteArray), (⟨#[62, 61]⟩ : ByteArray)] : List ByteArray))) = some r := h
 clear h
 obtain ⟨y186, hy186⟩ : ∃ y_ : List ByteArray, y_ = (([(⟨#[61]⟩ : ByteArray), (⟨#[33, 61]⟩ : ByteArray), (⟨#[60]⟩ : ByteArray), (⟨#[60, 61]⟩ : ByteArray), (⟨#[62]⟩ : ByteArray), (⟨#[62, 61]⟩ : ByteArray)] : List ByteArray)) := ⟨_, rfl⟩
 replace H : (some y186) = some r := by first | (rw [hy186]; with_reducible exact H) | (have H2_ := (Option.bind_some _ _).symm.trans H; rw [hy186]; with_reducible exact H2_) | (have H2_ := (Option.bind_some _ _).symm.trans H; with_reducible exact H2_) | with_reducible exact H | (rw [hy186]; exact H) | exact H
 have Ny186 := Aside0.mk hy186
 clear hy186
 obtain rfl := Option.some.inj H
 go_enter Tryz.func33, Tryz.ntmps33
 go_wp2_with (first | ((with_reducible refine gate_dst (N := 1) rfl ?_); refine Kd.R_lit Kd.string _ 9 ?hg (N := 1) ?hd (xs := ([(⟨#[61]⟩ : ByteArray), (⟨#[33, 61]⟩ : ByteArray), (⟨#[60]⟩ : ByteArray), (⟨#[60, 61]⟩ : ByteArray), (⟨#[62]⟩ : ByteArray), (⟨#[62, 61]⟩ : ByteArray)] : List ByteArray)) (inner := [.string (⟨#[61]⟩ : ByteArray), .string (⟨#[33, 61]⟩ : ByteArray), .string (⟨#[60]⟩ : ByteArray), .string (⟨#[60, 61]⟩ : ByteArray), .string (⟨#[62]⟩ : ByteArray), .string (⟨#[62, 61]⟩ : ByteArray)]) (ok := fun _ => True) (okp := fun _ => True) ?hr ?hp (fun _ hk => hk) trivial (Below.refl _ _) (Nat.le_refl _) (by simp) ?_; (case hd => rfl); (case hg => rfl); (case hr => first | (go_simp; done) | (go_simp; rfl)); (case hp => exact (Reps.one (show Kd.M Kd.string _ _ _ (⟨#[61]⟩ : ByteArray) [.string (⟨#[61]⟩ : ByteArray)] from rfl) (Reps.one (show Kd.M Kd.string _ _ _ (⟨#[33, 61]⟩ : ByteArray) [.string (⟨#[33, 61]⟩ : ByteArray)] from rfl) (Reps.one (show Kd.M Kd.string _ _ _ (⟨#[60]⟩ : ByteArray) [.string (⟨#[60]⟩ : ByteArray)] from rfl) (Reps.one (show Kd.M Kd.string _ _ _ (⟨#[60, 61]⟩ : ByteArray) [.string (⟨#[60, 61]⟩ : ByteArray)] from rfl) (Reps.one (show Kd.M Kd.string _ _ _ (⟨#[62]⟩ : ByteArray) [.string (⟨#[62]⟩ : ByteArray)] from rfl) (Reps.one (show Kd.M Kd.string _ _ _ (⟨#[62, 61]⟩ : ByteArray) [.string (⟨#[62, 61]⟩ : ByteArray)] from rfl) (Reps.none _ _)))))))); intro v187 w1 ho2 hb hg_ hnew_; clear hg_ hnew_; (first | rw [← Ny186.out] at ho2 | (simp only [Int.reduceToNat] at ho2; rw [← Ny186.out] at ho2)); have n0_ := Aside0.mk (Kd.R_lower ho2 (below_size (by repeat (first | (with_reducible first | exact HB.out | apply below_alloc | apply pw_below_drewN | apply below_drew1) | exact HB.out)))); have n1_ := Aside0.mk (below_step (by repeat (first | (with_reducible first | exact HB.out | apply below_alloc | apply pw_below_drewN | apply below_drew1) | exact HB.out)) hb); clear HB; have HO188 := n0_; have HB := n1_; clear n0_ n1_; clear hb ho2))
 go_ret
 exact ⟨_, by first | rfl | (simp [errW_none, errW_some] <;> rfl) | (simp [*, errW_none, errW_some] <;> rfl), by (with_reducible repeat (first | apply Kd.R_alloc | apply Kd.R_drewN | apply Kd.R_drew)); exact HO188.out, by repeat (first | (with_reducible first | exact HB.out | apply below_alloc | apply pw_below_drewN | apply below_drew1) | exact HB.out)⟩

/-! ### cairnref32_quoted: function 34 -/
def cairnref32_quoted.l0 : Nat → ByteArray → ByteArray → Int → Option (ByteArray)
 | 0, _, _, _ => none
 | k + 1, x0, x3, x4 => if x4 < (x0.size : Int) then (if 0 ≤ x4 then (if (bt x0 x4) = 34 then (if x3.size + 1 ≤ 9223372036854775807 then (if x4 ≤ (wrap64 (x4 + 1)) then (if (wrap64 (x4 + 1)) ≤ (x0.size : Int) then (if (x3 ++ (⟨#[92]⟩ : ByteArray)).size + (x0.extract (x4 : Int).toNat ((wrap64 (x4 + 1)) : Int).toNat).size ≤ 9223372036854775807 then (cairnref32_quoted.l0 k x0 ((x3 ++ (⟨#[92]⟩ : ByteArray)) ++ (x0.extract (x4 : Int).toNat ((wrap64 (x4 + 1)) : Int).toNat)) (wrap64 (x4 + 1))) else (none)) else (none)) else (none)) else (none)) else (if (bt x0 x4) = 92 then (if x3.size + 1 ≤ 9223372036854775807 then (if x4 ≤ (wrap64 (x4 + 1)) then (if (wrap64 (x4 + 1)) ≤ (x0.size : Int) then (if (x3 ++ (⟨#[92]⟩ : ByteArray)).size + (x0.extract (x4 : Int).toNat ((wrap64 (x4 + 1)) : Int).toNat).size ≤ 9223372036854775807 then (cairnref32_quoted.l0 k x0 ((x3 ++ (⟨#[92]⟩ : ByteArray)) ++ (x0.extract (x4 : Int).toNat ((wrap64 (x4 + 1)) : Int).toNat)) (wrap64 (x4 + 1))) else (none)) else (none)) else (none)) else (none)) else (if x4 ≤ (wrap64 (x4 + 1)) then (if (wrap64 (x4 + 1)) ≤ (x0.size : Int) then (if x3.size + (x0.extract (x4 : Int).toNat ((wrap64 (x4 + 1)) : Int).toNat).size ≤ 9223372036854775807 then (cairnref32_quoted.l0 k x0 (x3 ++ (x0.extract (x4 : Int).toNat ((wrap64 (x4 + 1)) : Int).toNat)) (wrap64 (x4 + 1))) else (none)) else (none)) else (none)))) else (none)) else (if x3.size + 1 ≤ 9223372036854775807 then (some (x3 ++ (⟨#[34]⟩ : ByteArray))) else (none))
def cairnref32_quoted.f (k : Nat) (a0 : ByteArray) : Option (ByteArray) := cairnref32_quoted.l0 k a0 (⟨#[34]⟩ : ByteArray) 0
theorem cairnref32_quoted.mono_l : ∀ k, (∀ y0 y1 y2, LeO (cairnref32_quoted.l0 k y0 y1 y2) (cairnref32_quoted.l0 (k + 1) y0 y1 y2))
 | 0 => fun _ _ _ r h => by simp [cairnref32_quoted.l0] at h
 | k + 1 => by
  have ih0 := cairnref32_quoted.mono_l k
  ·
   intro y0 y1 y2
   unfold cairnref32_quoted.l0
   repeat' first
   | (with_reducible exact ih0 _ _ _)
   | (with_reducible exact LeO.refl _)
   | (with_reducible exact LeO.none _)
   | (with_reducible refine LeO.ite ?_ ?_)
   | (with_reducible refine LeO.bind ?_ (fun _ => ?_))
   | exact ih0 _ _ _
   | exact LeO.none _
   | refine LeO.ite ?_ ?_
   | refine LeO.bind ?_ (fun _ => ?_)
theorem cairnref32_quoted.mono : ∀ a0 k, LeO (cairnref32_quoted.f k a0) (cairnref32_quoted.f (k + 1) a0) := by
 intro a0 k
 have ih0 := cairnref32_quoted.mono_l k
 unfold cairnref32_quoted.f
 repeat' first
   | (with_reducible exact ih0 _ _ _)
   | (with_reducible exact LeO.refl _)
   | (with_reducible exact LeO.none _)
   | (with_reducible refine LeO.ite ?_ ?_)
   | (with_reducible refine LeO.bind ?_ (fun _ => ?_))
   | exact ih0 _ _ _
   | exact LeO.none _
   | refine LeO.ite ?_ ?_
   | refine LeO.bind ?_ (fun _ => ?_)
set_option maxHeartbeats 8000000 in
set_option maxRecDepth 100000 in
theorem cairnref32_quoted.calls (k : Nat) (a0 : ByteArray) (r : ByteArray) (w : World) (h : cairnref32_quoted.f k a0 = some r) :
  Calls Tryz.prog 34 #[.string a0] w fun e w' => e = .returned (.string r) ∧ Drawn0 w w' := by
 have H : (cairnref32_quoted.l0 k a0 (⟨#[34]⟩ : ByteArray) 0) = some r := h
 clear h
 have H' := Aside0.mk H
 clear H
 go_enter Tryz.func34, Tryz.ntmps34
 go_wp2
 go_loopg [3, 4] k (fun kq v3 v4 w' => ∃ (x3_1 : ByteArray) (x4_1 : Int), v3 = .string x3_1 ∧ v4 = .int .i64 x4_1 ∧ Aside0 (cairnref32_quoted.l0 kq a0 x3_1 x4_1 = some r) ∧ Aside0 (kq ≤ k) ∧ Drawn0 w w')
 case atStart => exact ⟨((⟨#[34]⟩ : ByteArray)), (0), (by first | rfl | (simp; done) | (simp [*]; done)), (by first | rfl | (simp; done) | (simp [*]; done)), H', ⟨Nat.le_refl _⟩, by repeat (first | exact Drawn0.refl _ | apply Drawn0.step)⟩
 case round =>
  clear H'
  obtain ⟨x3_1, x4_1, rfl, rfl, HA, HK1, ⟨m1, rfl⟩⟩ := hrel
  cases gk with
  | zero => exact absurd HA.out (by simp [cairnref32_quoted.l0])
  | succ k1 =>
   have H := HA.out
   clear HA
   simp only [cairnref32_quoted.l0] at H
   by_cases c2 : x4_1 < (a0.size : Int)
   ·
    rw [if_pos c2] at H
    have c2b0 : decide (x4_1 < (a0.size : Int)) = true := decide_eq_true c2
    clear c2
    by_cases c3 : 0 ≤ x4_1
    ·
     rw [if_pos c3] at H
     have c3b0 : decide (0 ≤ x4_1) = true := decide_eq_true c3
     clear c3
     by_cases c5 : (bt a0 x4_1) = 34
     ·
      rw [if_pos c5] at H
      have c5b0 : ((bt a0 x4_1) == 34) = true := beq_iff_eq.mpr c5
      have c5b1 : ((bt a0 x4_1) != 34) = false := bne_eq_false_iff_eq.mpr c5
      clear c5
      by_cases c6 : x3_1.size + 1 ≤ 9223372036854775807
      ·
       rw [if_pos c6] at H
       have c6b0 := eq_true c6
       have c6b1 : decide (x3_1.size + 1 ≤ 9223372036854775807) = true := decide_eq_true c6
       try have c6b2 : (9223372036854775807 < x3_1.size + 1) = False := eq_false (Nat.not_lt.2 c6)
       have c7b0 := eq_true (of_decide_eq_true (by first | (with_reducible assumption) | assumption) : 0 ≤ x4_1)
       by_cases c8 : x4_1 ≤ (wrap64 (x4_1 + 1))
       ·
        rw [if_pos c8] at H
        have c8b0 := eq_true c8
        have c8b1 : decide (x4_1 ≤ (wrap64 (x4_1 + 1))) = true := decide_eq_true c8
        by_cases c9 : (wrap64 (x4_1 + 1)) ≤ (a0.size : Int)
        ·
         rw [if_pos c9] at H
         have c9b0 := eq_true c9
         have c9b1 : decide ((wrap64 (x4_1 + 1)) ≤ (a0.size : Int)) = true := decide_eq_true c9
         by_cases c10 : (x3_1 ++ (⟨#[92]⟩ : ByteArray)).size + (a0.extract (x4_1 : Int).toNat ((wrap64 (x4_1 + 1)) : Int).toNat).size ≤ 9223372036854775807
         ·
          rw [if_pos c10] at H
          have c10b0 := eq_true c10
          have c10b1 : decide ((x3_1 ++ (⟨#[92]⟩ : ByteArray)).size + (a0.extract (x4_1 : Int).toNat ((wrap64 (x4_1 + 1)) : Int).toNat).size ≤ 9223372036854775807) = true := decide_eq_true c10
          try have c10b2 : (9223372036854775807 < (x3_1 ++ (⟨#[92]⟩ : ByteArray)).size + (a0.extract (x4_1 : Int).toNat ((wrap64 (x4_1 + 1)) : Int).toNat).size) = False := eq_false (Nat.not_lt.2 c10)
          have H' := Aside0.mk H
          clear H
          have p4 : 0 ≤ (x4_1 : Int) := of_decide_eq_true (by first | (with_reducible assumption) | assumption)
          have q4 : x4_1 < (a0.size : Int) := of_decide_eq_true (by first | (with_reducible assumption) | assumption)
          have hx4 := bt_at a0 x4_1
          replace p4 := eq_true p4
          replace q4 := eq_true q4
          go_wp2
          go_roundg k1
          case measure => have := HK1.out; omega
          case rel => exact ⟨((x3_1 ++ (⟨#[92]⟩ : ByteArray)) ++ (a0.extract (x4_1 : Int).toNat ((wrap64 (x4_1 + 1)) : Int).toNat)), (wrap64 (x4_1 + 1)), (by first | rfl | (simp; done) | (simp [*]; done)), (by first | rfl | (simp; done) | (simp [*]; done)), H', ⟨by have := HK1.out; omega⟩, by repeat (first | exact Drawn0.refl _ | apply Drawn0.step)⟩
         ·
          rw [if_neg c10] at H
          exact absurd H (by simp)
        ·
         rw [if_neg c9] at H
         exact absurd H (by simp)
       ·
        rw [if_neg c8] at H
        exact absurd H (by simp)
      ·
       rw [if_neg c6] at H
       exact absurd H (by simp)
     ·
      rw [if_neg c5] at H
      have c5b0 : ((bt a0 x4_1) == 34) = false := beq_eq_false_iff_ne.mpr c5
      have c5b1 : ((bt a0 x4_1) != 34) = true := bne_iff_ne.mpr c5
      by_cases c12 : (bt a0 x4_1) = 92
      ·
       rw [if_pos c12] at H
       have c12b0 : ((bt a0 x4_1) == 92) = true := beq_iff_eq.mpr c12
       have c12b1 : ((bt a0 x4_1) != 92) = false := bne_eq_false_iff_eq.mpr c12
       clear c12
       by_cases c13 : x3_1.size + 1 ≤ 9223372036854775807
       ·
        rw [if_pos c13] at H
        have c13b0 := eq_true c13
        have c13b1 : decide (x3_1.size + 1 ≤ 9223372036854775807) = true := decide_eq_true c13
        try have c13b2 : (9223372036854775807 < x3_1.size + 1) = False := eq_false (Nat.not_lt.2 c13)
        have c14b0 := eq_true (of_decide_eq_true (by first | (with_reducible assumption) | assumption) : 0 ≤ x4_1)
        by_cases c15 : x4_1 ≤ (wrap64 (x4_1 + 1))
        ·
         rw [if_pos c15] at H
         have c15b0 := eq_true c15
         have c15b1 : decide (x4_1 ≤ (wrap64 (x4_1 + 1))) = true := decide_eq_true c15
         by_cases c16 : (wrap64 (x4_1 + 1)) ≤ (a0.size : Int)
         ·
          rw [if_pos c16] at H
          have c16b0 := eq_true c16
          have c16b1 : decide ((wrap64 (x4_1 + 1)) ≤ (a0.size : Int)) = true := decide_eq_true c16
          by_cases c17 : (x3_1 ++ (⟨#[92]⟩ : ByteArray)).size + (a0.extract (x4_1 : Int).toNat ((wrap64 (x4_1 + 1)) : Int).toNat).size ≤ 9223372036854775807
          ·
           rw [if_pos c17] at H
           have c17b0 := eq_true c17
           have c17b1 : decide ((x3_1 ++ (⟨#[92]⟩ : ByteArray)).size + (a0.extract (x4_1 : Int).toNat ((wrap64 (x4_1 + 1)) : Int).toNat).size ≤ 9223372036854775807) = true := decide_eq_true c17
           try have c17b2 : (9223372036854775807 < (x3_1 ++ (⟨#[92]⟩ : ByteArray)).size + (a0.extract (x4_1 : Int).toNat ((wrap64 (x4_1 + 1)) : Int).toNat).size) = False := eq_false (Nat.not_lt.2 c17)
           have H' := Aside0.mk H
           clear H
           have p4 : 0 ≤ (x4_1 : Int) := of_decide_eq_true (by first | (with_reducible assumption) | assumption)
           have q4 : x4_1 < (a0.size : Int) := of_decide_eq_true (by first | (with_reducible assumption) | assumption)
           have hx4 := bt_at a0 x4_1
           replace p4 := eq_true p4
           replace q4 := eq_true q4
           have p11 : 0 ≤ (x4_1 : Int) := of_decide_eq_true (by first | (with_reducible assumption) | assumption)
           have q11 : x4_1 < (a0.size : Int) := of_decide_eq_true (by first | (with_reducible assumption) | assumption)
           have hx11 := bt_at a0 x4_1
           replace p11 := eq_true p11
           replace q11 := eq_true q11
           go_wp2
           go_roundg k1
           case measure => have := HK1.out; omega
           case rel => exact ⟨((x3_1 ++ (⟨#[92]⟩ : ByteArray)) ++ (a0.extract (x4_1 : Int).toNat ((wrap64 (x4_1 + 1)) : Int).toNat)), (wrap64 (x4_1 + 1)), (by first | rfl | (simp; done) | (simp [*]; done)), (by first | rfl | (simp; done) | (simp [*]; done)), H', ⟨by have := HK1.out; omega⟩, by repeat (first | exact Drawn0.refl _ | apply Drawn0.step)⟩
          ·
           rw [if_neg c17] at H
           exact absurd H (by simp)
         ·
          rw [if_neg c16] at H
          exact absurd H (by simp)
        ·
         rw [if_neg c15] at H
         exact absurd H (by simp)
       ·
        rw [if_neg c13] at H
        exact absurd H (by simp)
      ·
       rw [if_neg c12] at H
       have c12b0 : ((bt a0 x4_1) == 92) = false := beq_eq_false_iff_ne.mpr c12
       have c12b1 : ((bt a0 x4_1) != 92) = true := bne_iff_ne.mpr c12
       have c18b0 := eq_true (of_decide_eq_true (by first | (with_reducible assumption) | assumption) : 0 ≤ x4_1)
       by_cases c19 : x4_1 ≤ (wrap64 (x4_1 + 1))
       ·
        rw [if_pos c19] at H
        have c19b0 := eq_true c19
        have c19b1 : decide (x4_1 ≤ (wrap64 (x4_1 + 1))) = true := decide_eq_true c19
        by_cases c20 : (wrap64 (x4_1 + 1)) ≤ (a0.size : Int)
        ·
         rw [if_pos c20] at H
         have c20b0 := eq_true c20
         have c20b1 : decide ((wrap64 (x4_1 + 1)) ≤ (a0.size : Int)) = true := decide_eq_true c20
         by_cases c21 : x3_1.size + (a0.extract (x4_1 : Int).toNat ((wrap64 (x4_1 + 1)) : Int).toNat).size ≤ 9223372036854775807
         ·
          rw [if_pos c21] at H
          have c21b0 := eq_true c21
          have c21b1 : decide (x3_1.size + (a0.extract (x4_1 : Int).toNat ((wrap64 (x4_1 + 1)) : Int).toNat).size ≤ 9223372036854775807) = true := decide_eq_true c21
          try have c21b2 : (9223372036854775807 < x3_1.size + (a0.extract (x4_1 : Int).toNat ((wrap64 (x4_1 + 1)) : Int).toNat).size) = False := eq_false (Nat.not_lt.2 c21)
          have H' := Aside0.mk H
          clear H
          have p4 : 0 ≤ (x4_1 : Int) := of_decide_eq_true (by first | (with_reducible assumption) | assumption)
          have q4 : x4_1 < (a0.size : Int) := of_decide_eq_true (by first | (with_reducible assumption) | assumption)
          have hx4 := bt_at a0 x4_1
          replace p4 := eq_true p4
          replace q4 := eq_true q4
          have p11 : 0 ≤ (x4_1 : Int) := of_decide_eq_true (by first | (with_reducible assumption) | assumption)
          have q11 : x4_1 < (a0.size : Int) := of_decide_eq_true (by first | (with_reducible assumption) | assumption)
          have hx11 := bt_at a0 x4_1
          replace p11 := eq_true p11
          replace q11 := eq_true q11
          go_wp2
          go_roundg k1
          case measure => have := HK1.out; omega
          case rel => exact ⟨(x3_1 ++ (a0.extract (x4_1 : Int).toNat ((wrap64 (x4_1 + 1)) : Int).toNat)), (wrap64 (x4_1 + 1)), (by first | rfl | (simp; done) | (simp [*]; done)), (by first | rfl | (simp; done) | (simp [*]; done)), H', ⟨by have := HK1.out; omega⟩, by repeat (first | exact Drawn0.refl _ | apply Drawn0.step)⟩
         ·
          rw [if_neg c21] at H
          exact absurd H (by simp)
        ·
         rw [if_neg c20] at H
         exact absurd H (by simp)
       ·
        rw [if_neg c19] at H
        exact absurd H (by simp)
    ·
     rw [if_neg c3] at H
     exact absurd H (by simp)
   ·
    rw [if_neg c2] at H
    have c2b0 : decide (x4_1 < (a0.size : Int)) = false := decide_eq_false c2
    clear c2
    by_cases c22 : x3_1.size + 1 ≤ 9223372036854775807
    ·
     rw [if_pos c22] at H
     have c22b0 := eq_true c22
     have c22b1 : decide (x3_1.size + 1 ≤ 9223372036854775807) = true := decide_eq_true c22
     try have c22b2 : (9223372036854775807 < x3_1.size + 1) = False := eq_false (Nat.not_lt.2 c22)
     obtain rfl := Option.some.inj H
     go_wp2
     go_ret
     exact ⟨by first | rfl | (simp; done) | (simp [*]; done), by repeat (first | exact Drawn0.refl _ | apply Drawn0.step)⟩
    ·
     rw [if_neg c22] at H
     exact absurd H (by simp)

-- NOT PRINTED: function 14 (cairnref32_Print)

end Go.Proofs.YthhemephaabblaaGreatDoor.Q
namespace Go.Proofs.YthhemephaabblaaGreatDoor.Q
open Go.RowKit  Go.Proofs.YthhemephaabblaaGreatDoorW.PrintWords Go.Proofs.YthhemephaabblaaGreatDoorW.PrintLast Go.Proofs.YthhemephaabblaaGreatDoorW.PrintMore
attribute [local go_sem] max2_int min2_int max_two min_two max_three min_three max_four min_four   -- for this text's walks alone
set_option linter.unusedVariables false
set_option linter.unusedSimpArgs false

/-! ### cairnref32_next: function 46 -/
mutual
def cairnref32_next.l0 : Nat → ByteArray → Int → Int → Option (Int × Int × ByteArray × Int)
 | 0, _, _, _ => none
 | k + 1, x0, x1, x7 => if x7 < (x0.size : Int) then (if 0 ≤ x7 then ((cairnref32_small.f (bt x0 x7)).bind fun t211 => (if t211 = true then (cairnref32_next.l0 k x0 x1 (wrap64 (x7 + 1))) else ((cairnref32_digit.f (bt x0 x7)).bind fun t212 => (if t212 = true then (cairnref32_next.l0 k x0 x1 (wrap64 (x7 + 1))) else (if (bt x0 x7) = 95 then (cairnref32_next.l0 k x0 x1 (wrap64 (x7 + 1))) else (if 0 ≤ x1 then (if x1 ≤ x7 then (if x7 ≤ (x0.size : Int) then (some (1, x1, x0.extract (x1 : Int).toNat (x7 : Int).toNat, x7)) else (none)) else (none)) else (none))))))) else (none)) else (if 0 ≤ x1 then (if x1 ≤ x7 then (if x7 ≤ (x0.size : Int) then (some (1, x1, x0.extract (x1 : Int).toNat (x7 : Int).toNat, x7)) else (none)) else (none)) else (none))
def cairnref32_next.l1 : Nat → ByteArray → Int → Int → Option (Int × Int × ByteArray × Int)
 | 0, _, _, _ => none
 | k + 1, x0, x1, x7 => if x7 < (x0.size : Int) then (if 0 ≤ x7 then ((cairnref32_digit.f (bt x0 x7)).bind fun t214 => (if t214 = true then (cairnref32_next.l1 k x0 x1 (wrap64 (x7 + 1))) else (if 0 ≤ x1 then (if x1 ≤ x7 then (if x7 ≤ (x0.size : Int) then (some (2, x1, x0.extract (x1 : Int).toNat (x7 : Int).toNat, x7)) else (none)) else (none)) else (none)))) else (none)) else (if 0 ≤ x1 then (if x1 ≤ x7 then (if x7 ≤ (x0.size : Int) then (some (2, x1, x0.extract (x1 : Int).toNat (x7 : Int).toNat, x7)) else (none)) else (none)) else (none))
def cairnref32_next.l2 : Nat → ByteArray → Int → Int → ByteArray → Option (Int × Int × ByteArray × Int)
 | 0, _, _, _, _ => none
 | k + 1, x0, x1, x7, x8 => if x7 < (x0.size : Int) then (if 0 ≤ x7 then (cairnref32_next.j3 k x0 x1 x7 x8 ((bt x0 x7) != 34)) else (none)) else (cairnref32_next.j3 k x0 x1 x7 x8 false)
def cairnref32_next.j3 : Nat → ByteArray → Int → Int → ByteArray → Bool → Option (Int × Int × ByteArray × Int)
 | 0, _, _, _, _, _ => none
 | k + 1, x0, x1, x7, x8, x82 => if x82 = true then (if 0 ≤ x7 then (if x7 < (x0.size : Int) then (if (bt x0 x7) = 92 then (if (wrap64 (x7 + 1)) = (x0.size : Int) then (some (6, x1, (⟨#[]⟩ : ByteArray), (x0.size : Int))) else (if 0 ≤ (wrap64 (x7 + 1)) then (if (wrap64 (x7 + 1)) < (x0.size : Int) then (if (bt x0 (wrap64 (x7 + 1))) = 34 then (if (wrap64 (x7 + 1)) ≤ (wrap64 ((wrap64 (x7 + 1)) + 1)) then (if (wrap64 ((wrap64 (x7 + 1)) + 1)) ≤ (x0.size : Int) then (if x8.size + (x0.extract ((wrap64 (x7 + 1)) : Int).toNat ((wrap64 ((wrap64 (x7 + 1)) + 1)) : Int).toNat).size ≤ 9223372036854775807 then (cairnref32_next.l2 k x0 x1 (wrap64 ((wrap64 (x7 + 1)) + 1)) (x8 ++ (x0.extract ((wrap64 (x7 + 1)) : Int).toNat ((wrap64 ((wrap64 (x7 + 1)) + 1)) : Int).toNat))) else (none)) else (none)) else (none)) else (if (bt x0 (wrap64 (x7 + 1))) = 92 then (if (wrap64 (x7 + 1)) ≤ (wrap64 ((wrap64 (x7 + 1)) + 1)) then (if (wrap64 ((wrap64 (x7 + 1)) + 1)) ≤ (x0.size : Int) then (if x8.size + (x0.extract ((wrap64 (x7 + 1)) : Int).toNat ((wrap64 ((wrap64 (x7 + 1)) + 1)) : Int).toNat).size ≤ 9223372036854775807 then (cairnref32_next.l2 k x0 x1 (wrap64 ((wrap64 (x7 + 1)) + 1)) (x8 ++ (x0.extract ((wrap64 (x7 + 1)) : Int).toNat ((wrap64 ((wrap64 (x7 + 1)) + 1)) : Int).toNat))) else (none)) else (none)) else (none)) else (some (6, x1, (⟨#[]⟩ : ByteArray), (x0.size : Int))))) else (none)) else (none))) else (if x7 ≤ (wrap64 (x7 + 1)) then (if (wrap64 (x7 + 1)) ≤ (x0.size : Int) then (if x8.size + (x0.extract (x7 : Int).toNat ((wrap64 (x7 + 1)) : Int).toNat).size ≤ 9223372036854775807 then (cairnref32_next.l2 k x0 x1 (wrap64 (x7 + 1)) (x8 ++ (x0.extract (x7 : Int).toNat ((wrap64 (x7 + 1)) : Int).toNat))) else (none)) else (none)) else (none))) else (none)) else (none)) else (if x7 ≥ (x0.size : Int) then (some (6, x1, (⟨#[]⟩ : ByteArray), (x0.size : Int))) else (some (3, x1, x8, wrap64 (x7 + 1))))
def cairnref32_next.j4 : Nat → ByteArray → Int → Int → Int → Bool → Option (Int × Int × ByteArray × Int)
 | 0, _, _, _, _, _ => none
 | k + 1, x0, x1, x6, x7, x131 => if x131 = true then (if 0 ≤ x1 then (if x1 ≤ x7 then (if x7 ≤ (x0.size : Int) then (some (4, x1, x0.extract (x1 : Int).toNat (x7 : Int).toNat, x7)) else (none)) else (none)) else (none)) else (if x6 = 60 then (cairnref32_next.j5 k x0 x1 x6 x7 true) else (if x6 = 62 then (cairnref32_next.j5 k x0 x1 x6 x7 true) else (cairnref32_next.j5 k x0 x1 x6 x7 (x6 == 33))))
def cairnref32_next.j5 : Nat → ByteArray → Int → Int → Int → Bool → Option (Int × Int × ByteArray × Int)
 | 0, _, _, _, _, _ => none
 | k + 1, x0, x1, x6, x7, x149 => if x149 = true then (if x7 < (x0.size : Int) then (if 0 ≤ x7 then (cairnref32_next.j6 k x0 x1 x6 x7 ((bt x0 x7) == 61)) else (none)) else (cairnref32_next.j6 k x0 x1 x6 x7 false)) else (some (6, x1, (⟨#[]⟩ : ByteArray), (x0.size : Int)))
def cairnref32_next.j6 : Nat → ByteArray → Int → Int → Int → Bool → Option (Int × Int × ByteArray × Int)
 | 0, _, _, _, _, _ => none
 | k + 1, x0, x1, x6, x7, x169 => if x169 = true then (if 0 ≤ x1 then (if x1 ≤ (wrap64 (x7 + 1)) then (if (wrap64 (x7 + 1)) ≤ (x0.size : Int) then (some (4, x1, x0.extract (x1 : Int).toNat ((wrap64 (x7 + 1)) : Int).toNat, wrap64 (x7 + 1))) else (none)) else (none)) else (none)) else (if x6 = 33 then (some (6, x1, (⟨#[]⟩ : ByteArray), (x0.size : Int))) else (if 0 ≤ x1 then (if x1 ≤ x7 then (if x7 ≤ (x0.size : Int) then (some (4, x1, x0.extract (x1 : Int).toNat (x7 : Int).toNat, x7)) else (none)) else (none)) else (none)))
end
def cairnref32_next.f (k : Nat) (a0 : ByteArray) (a1 : Int) : Option (Int × Int × ByteArray × Int) := if 0 ≤ a1 then (if a1 < (a0.size : Int) then ((cairnref32_small.f (bt a0 a1)).bind fun t210 => (if t210 = true then (cairnref32_next.l0 k a0 a1 (wrap64 (a1 + 1))) else ((cairnref32_digit.f (bt a0 a1)).bind fun t213 => (if t213 = true then (cairnref32_next.l1 k a0 a1 (wrap64 (a1 + 1))) else (if (bt a0 a1) = 34 then (cairnref32_next.l2 k a0 a1 (wrap64 (a1 + 1)) (⟨#[]⟩ : ByteArray)) else (if (bt a0 a1) = 44 then (cairnref32_next.j4 k a0 a1 (bt a0 a1) (wrap64 (a1 + 1)) true) else (if (bt a0 a1) = 42 then (cairnref32_next.j4 k a0 a1 (bt a0 a1) (wrap64 (a1 + 1)) true) else (cairnref32_next.j4 k a0 a1 (bt a0 a1) (wrap64 (a1 + 1)) ((bt a0 a1) == 61))))))))) else (none)) else (none)
theorem cairnref32_next.mono_l : ∀ k, (∀ y0 y1 y2, LeO (cairnref32_next.l0 k y0 y1 y2) (cairnref32_next.l0 (k + 1) y0 y1 y2)) ∧ (∀ y0 y1 y2, LeO (cairnref32_next.l1 k y0 y1 y2) (cairnref32_next.l1 (k + 1) y0 y1 y2)) ∧ (∀ y0 y1 y2 y3, LeO (cairnref32_next.l2 k y0 y1 y2 y3) (cairnref32_next.l2 (k + 1) y0 y1 y2 y3)) ∧ (∀ y0 y1 y2 y3 y4, LeO (cairnref32_next.j3 k y0 y1 y2 y3 y4) (cairnref32_next.j3 (k + 1) y0 y1 y2 y3 y4)) ∧ (∀ y0 y1 y2 y3 y4, LeO (cairnref32_next.j4 k y0 y1 y2 y3 y4) (cairnref32_next.j4 (k + 1) y0 y1 y2 y3 y4)) ∧ (∀ y0 y1 y2 y3 y4, LeO (cairnref32_next.j5 k y0 y1 y2 y3 y4) (cairnref32_next.j5 (k + 1) y0 y1 y2 y3 y4)) ∧ (∀ y0 y1 y2 y3 y4, LeO (cairnref32_next.j6 k y0 y1 y2 y3 y4) (cairnref32_next.j6 (k + 1) y0 y1 y2 y3 y4))
 | 0 => ⟨fun _ _ _ r h => by simp [cairnref32_next.l0] at h, fun _ _ _ r h => by simp [cairnref32_next.l1] at h, fun _ _ _ _ r h => by simp [cairnref32_next.l2] at h, fun _ _ _ _ _ r h => by simp [cairnref32_next.j3] at h, fun _ _ _ _ _ r h => by simp [cairnref32_next.j4] at h, fun _ _ _ _ _ r h => by simp [cairnref32_next.j5] at h, fun _ _ _ _ _ r h => by simp [cairnref32_next.j6] at h⟩
 | k + 1 => by
  obtain ⟨ih0, ih1, ih2, ih3, ih4, ih5, ih6⟩ := cairnref32_next.mono_l k
  refine ⟨?_, ?_, ?_, ?_, ?_, ?_, ?_⟩
  ·
   intro y0 y1 y2
   unfold cairnref32_next.l0
   repeat' first
   | (with_reducible exact ih0 _ _ _)
   | (with_reducible exact ih1 _ _ _)
   | (with_reducible exact ih2 _ _ _ _)
   | (with_reducible exact ih3 _ _ _ _ _)
   | (with_reducible exact ih4 _ _ _ _ _)
   | (with_reducible exact ih5 _ _ _ _ _)
   | (with_reducible exact ih6 _ _ _ _ _)
   | (with_reducible exact LeO.refl _)
   | (with_reducible exact LeO.none _)
   | (with_reducible refine LeO.ite ?_ ?_)
   | (with_reducible refine LeO.bind ?_ (fun _ => ?_))
   | exact ih0 _ _ _
   | exact ih1 _ _ _
   | exact ih2 _ _ _ _
   | exact ih3 _ _ _ _ _
   | exact ih4 _ _ _ _ _
   | exact ih5 _ _ _ _ _
   | exact ih6 _ _ _ _ _
   | exact LeO.none _
   | refine LeO.ite ?_ ?_
   | refine LeO.bind ?_ (fun _ => ?_)
  ·
   intro y0 y1 y2
   unfold cairnref32_next.l1
   repeat' first
   | (with_reducible exact ih0 _ _ _)
   | (with_reducible exact ih1 _ _ _)
   | (with_reducible exact ih2 _ _ _ _)
   | (with_reducible exact ih3 _ _ _ _ _)
   | (with_reducible exact ih4 _ _ _ _ _)
   | (with_reducible exact ih5 _ _ _ _ _)
   | (with_reducible exact ih6 _ _ _ _ _)
   | (with_reducible exact LeO.refl _)
   | (with_reducible exact LeO.none _)
   | (with_reducible refine LeO.ite ?_ ?_)
   | (with_reducible refine LeO.bind ?_ (fun _ => ?_))
   | exact ih0 _ _ _
   | exact ih1 _ _ _
   | exact ih2 _ _ _ _
   | exact ih3 _ _ _ _ _
   | exact ih4 _ _ _ _ _
   | exact ih5 _ _ _ _ _
   | exact ih6 _ _ _ _ _
   | exact LeO.none _
   | refine LeO.ite ?_ ?_
   | refine LeO.bind ?_ (fun _ => ?_)
  ·
   intro y0 y1 y2 y3
   unfold cairnref32_next.l2
   repeat' first
   | (with_reducible exact ih0 _ _ _)
   | (with_reducible exact ih1 _ _ _)
   | (with_reducible exact ih2 _ _ _ _)
   | (with_reducible exact ih3 _ _ _ _ _)
   | (with_reducible exact ih4 _ _ _ _ _)
   | (with_reducible exact ih5 _ _ _ _ _)
   | (with_reducible exact ih6 _ _ _ _ _)
   | (with_reducible exact LeO.refl _)
   | (with_reducible exact LeO.none _)
   | (with_reducible refine LeO.ite ?_ ?_)
   | (with_reducible refine LeO.bind ?_ (fun _ => ?_))
   | exact ih0 _ _ _
   | exact ih1 _ _ _
   | exact ih2 _ _ _ _
   | exact ih3 _ _ _ _ _
   | exact ih4 _ _ _ _ _
   | exact ih5 _ _ _ _ _
   | exact ih6 _ _ _ _ _
   | exact LeO.none _
   | refine LeO.ite ?_ ?_
   | refine LeO.bind ?_ (fun _ => ?_)
  ·
   intro y0 y1 y2 y3 y4
   unfold cairnref32_next.j3
   repeat' first
   | (with_reducible exact ih0 _ _ _)
   | (with_reducible exact ih1 _ _ _)
   | (with_reducible exact ih2 _ _ _ _)
   | (with_reducible exact ih3 _ _ _ _ _)
   | (with_reducible exact ih4 _ _ _ _ _)
   | (with_reducible exact ih5 _ _ _ _ _)
   | (with_reducible exact ih6 _ _ _ _ _)
   | (with_reducible exact LeO.refl _)
   | (with_reducible exact LeO.none _)
   | (with_reducible refine LeO.ite ?_ ?_)
   | (with_reducible refine LeO.bind ?_ (fun _ => ?_))
   | exact ih0 _ _ _
   | exact ih1 _ _ _
   | exact ih2 _ _ _ _
   | exact ih3 _ _ _ _ _
   | exact ih4 _ _ _ _ _
   | exact ih5 _ _ _ _ _
   | exact ih6 _ _ _ _ _
   | exact LeO.none _
   | refine LeO.ite ?_ ?_
   | refine LeO.bind ?_ (fun _ => ?_)
  ·
   intro y0 y1 y2 y3 y4
   unfold cairnref32_next.j4
   repeat' first
   | (with_reducible exact ih0 _ _ _)
   | (with_reducible exact ih1 _ _ _)
   | (with_reducible exact ih2 _ _ _ _)
   | (with_reducible exact ih3 _ _ _ _ _)
   | (with_reducible exact ih4 _ _ _ _ _)
   | (with_reducible exact ih5 _ _ _ _ _)
   | (with_reducible exact ih6 _ _ _ _ _)
   | (with_reducible exact LeO.refl _)
   | (with_reducible exact LeO.none _)
   | (with_reducible refine LeO.ite ?_ ?_)
   | (with_reducible refine LeO.bind ?_ (fun _ => ?_))
   | exact ih0 _ _ _
   | exact ih1 _ _ _
   | exact ih2 _ _ _ _
   | exact ih3 _ _ _ _ _
   | exact ih4 _ _ _ _ _
   | exact ih5 _ _ _ _ _
   | exact ih6 _ _ _ _ _
   | exact LeO.none _
   | refine LeO.ite ?_ ?_
   | refine LeO.bind ?_ (fun _ => ?_)
  ·
   intro y0 y1 y2 y3 y4
   unfold cairnref32_next.j5
   repeat' first
   | (with_reducible exact ih0 _ _ _)
   | (with_reducible exact ih1 _ _ _)
   | (with_reducible exact ih2 _ _ _ _)
   | (with_reducible exact ih3 _ _ _ _ _)
   | (with_reducible exact ih4 _ _ _ _ _)
   | (with_reducible exact ih5 _ _ _ _ _)
   | (with_reducible exact ih6 _ _ _ _ _)
   | (with_reducible exact LeO.refl _)
   | (with_reducible exact LeO.none _)
   | (with_reducible refine LeO.ite ?_ ?_)
   | (with_reducible refine LeO.bind ?_ (fun _ => ?_))
   | exact ih0 _ _ _
   | exact ih1 _ _ _
   | exact ih2 _ _ _ _
   | exact ih3 _ _ _ _ _
   | exact ih4 _ _ _ _ _
   | exact ih5 _ _ _ _ _
   | exact ih6 _ _ _ _ _
   | exact LeO.none _
   | refine LeO.ite ?_ ?_
   | refine LeO.bind ?_ (fun _ => ?_)
  ·
   intro y0 y1 y2 y3 y4
   unfold cairnref32_next.j6
   repeat' first
   | (with_reducible exact ih0 _ _ _)
   | (with_reducible exact ih1 _ _ _)
   | (with_reducible exact ih2 _ _ _ _)
   | (with_reducible exact ih3 _ _ _ _ _)
   | (with_reducible exact ih4 _ _ _ _ _)
   | (with_reducible exact ih5 _ _ _ _ _)
   | (with_reducible exact ih6 _ _ _ _ _)
   | (with_reducible exact LeO.refl _)
   | (with_reducible exact LeO.none _)
   | (with_reducible refine LeO.ite ?_ ?_)
   | (with_reducible refine LeO.bind ?_ (fun _ => ?_))
   | exact ih0 _ _ _
   | exact ih1 _ _ _
   | exact ih2 _ _ _ _
   | exact ih3 _ _ _ _ _
   | exact ih4 _ _ _ _ _
   | exact ih5 _ _ _ _ _
   | exact ih6 _ _ _ _ _
   | exact LeO.none _
   | refine LeO.ite ?_ ?_
   | refine LeO.bind ?_ (fun _ => ?_)
theorem cairnref32_next.mono : ∀ a0 a1 k, LeO (cairnref32_next.f k a0 a1) (cairnref32_next.f (k + 1) a0 a1) := by
 intro a0 a1 k
 obtain ⟨ih0, ih1, ih2, ih3, ih4, ih5, ih6⟩ := cairnref32_next.mono_l k
 unfold cairnref32_next.f
 repeat' first
   | (with_reducible exact ih0 _ _ _)
   | (with_reducible exact ih1 _ _ _)
   | (with_reducible exact ih2 _ _ _ _)
   | (with_reducible exact ih3 _ _ _ _ _)
   | (with_reducible exact ih4 _ _ _ _ _)
   | (with_reducible exact ih5 _ _ _ _ _)
   | (with_reducible exact ih6 _ _ _ _ _)
   | (with_reducible exact LeO.refl _)
   | (with_reducible exact LeO.none _)
   | (with_reducible refine LeO.ite ?_ ?_)
   | (with_reducible refine LeO.bind ?_ (fun _ => ?_))
   | exact ih0 _ _ _
   | exact ih1 _ _ _
   | exact ih2 _ _ _ _
   | exact ih3 _ _ _ _ _
   | exact ih4 _ _ _ _ _
   | exact ih5 _ _ _ _ _
   | exact ih6 _ _ _ _ _
   | exact LeO.none _
   | refine LeO.ite ?_ ?_
   | refine LeO.bind ?_ (fun _ => ?_)
end Go.Proofs.YthhemephaabblaaGreatDoor.Q
namespace Go.Proofs.YthhemephaabblaaGreatDoor.Q
open Go.RowKit  Go.Proofs.YthhemephaabblaaGreatDoorW.PrintWords Go.Proofs.YthhemephaabblaaGreatDoorW.PrintLast Go.Proofs.YthhemephaabblaaGreatDoorW.PrintMore
attribute [local go_sem] max2_int min2_int max_two min_two max_three min_three max_four min_four   -- for this text's walks alone
set_option linter.unusedVariables false
set_option linter.unusedSimpArgs false

/-! ### cairnref32_Tokens: function 19 -/
mutual
def cairnref32_Tokens.l0 : Nat → ByteArray → List (S74) → Int → Option ((List (S74)))
 | 0, _, _, _ => none
 | k + 1, x0, x3, x4 => if x4 < (x0.size : Int) then (if 0 ≤ x4 then (if (bt x0 x4) = 32 then (cairnref32_Tokens.j1 k x0 x3 x4 true) else (if (bt x0 x4) = 9 then (cairnref32_Tokens.j1 k x0 x3 x4 true) else (cairnref32_Tokens.j1 k x0 x3 x4 ((bt x0 x4) == 10)))) else (none)) else (if x3.length < 4398046511104 then (some (x3 ++ [(⟨5, (x0.size : Int), (⟨#[]⟩ : ByteArray)⟩ : S74)])) else (none))
def cairnref32_Tokens.j1 : Nat → ByteArray → List (S74) → Int → Bool → Option ((List (S74)))
 | 0, _, _, _, _ => none
 | k + 1, x0, x3, x4, x26 => if x26 = true then (cairnref32_Tokens.l0 k x0 x3 (wrap64 (x4 + 1))) else ((cairnref32_next.f k x0 x4).bind fun bt218 => (if x3.length < 4398046511104 then ((some (x3 ++ [(⟨bt218.1, bt218.2.1, bt218.2.2.1⟩ : S74)] : List (S74))).bind fun y223 => (if bt218.1 = 6 then (some y223) else (cairnref32_Tokens.l0 k x0 y223 bt218.2.2.2))) else (none)))
end
def cairnref32_Tokens.f (k : Nat) (a0 : ByteArray) : Option ((List (S74))) := cairnref32_Tokens.l0 k a0 ([] : List (S74)) 0
theorem cairnref32_Tokens.mono_l : ∀ k, (∀ y0 y1 y2, LeO (cairnref32_Tokens.l0 k y0 y1 y2) (cairnref32_Tokens.l0 (k + 1) y0 y1 y2)) ∧ (∀ y0 y1 y2 y3, LeO (cairnref32_Tokens.j1 k y0 y1 y2 y3) (cairnref32_Tokens.j1 (k + 1) y0 y1 y2 y3))
 | 0 => ⟨fun _ _ _ r h => by simp [cairnref32_Tokens.l0] at h, fun _ _ _ _ r h => by simp [cairnref32_Tokens.j1] at h⟩
 | k + 1 => by
  obtain ⟨ih0, ih1⟩ := cairnref32_Tokens.mono_l k
  refine ⟨?_, ?_⟩
  ·
   intro y0 y1 y2
   unfold cairnref32_Tokens.l0
   repeat' first
   | (with_reducible exact ih0 _ _ _)
   | (with_reducible exact ih1 _ _ _ _)
   | (with_reducible exact cairnref32_next.mono _ _ _)
   | (with_reducible exact LeO.refl _)
   | (with_reducible exact LeO.none _)
   | (with_reducible refine LeO.ite ?_ ?_)
   | (with_reducible refine LeO.bind ?_ (fun _ => ?_))
   | exact ih0 _ _ _
   | exact ih1 _ _ _ _
   | exact cairnref32_next.mono _ _ _
   | exact LeO.none _
   | refine LeO.ite ?_ ?_
   | refine LeO.bind ?_ (fun _ => ?_)
  ·
   intro y0 y1 y2 y3
   unfold cairnref32_Tokens.j1
   repeat' first
   | (with_reducible exact ih0 _ _ _)
   | (with_reducible exact ih1 _ _ _ _)
   | (with_reducible exact cairnref32_next.mono _ _ _)
   | (with_reducible exact LeO.refl _)
   | (with_reducible exact LeO.none _)
   | (with_reducible refine LeO.ite ?_ ?_)
   | (with_reducible refine LeO.bind ?_ (fun _ => ?_))
   | exact ih0 _ _ _
   | exact ih1 _ _ _ _
   | exact cairnref32_next.mono _ _ _
   | exact LeO.none _
   | refine LeO.ite ?_ ?_
   | refine LeO.bind ?_ (fun _ => ?_)
theorem cairnref32_Tokens.mono : ∀ a0 k, LeO (cairnref32_Tokens.f k a0) (cairnref32_Tokens.f (k + 1) a0) := by
 intro a0 k
 obtain ⟨ih0, ih1⟩ := cairnref32_Tokens.mono_l k
 unfold cairnref32_Tokens.f
 repeat' first
   | (with_reducible exact ih0 _ _ _)
   | (with_reducible exact ih1 _ _ _ _)
   | (with_reducible exact cairnref32_next.mono _ _ _)
   | (with_reducible exact LeO.refl _)
   | (with_reducible exact LeO.none _)
   | (with_reducible refine LeO.ite ?_ ?_)
   | (with_reducible refine LeO.bind ?_ (fun _ => ?_))
   | exact ih0 _ _ _
   | exact ih1 _ _ _ _
   | exact cairnref32_next.mono _ _ _
   | exact LeO.none _
   | refine LeO.ite ?_ ?_
   | refine LeO.bind ?_ (fun _ => ?_)
-- NOT PRINTED: function 23 (cairnref32_Reader_is)

-- NOT PRINTED: function 20 (cairnref32_Reader_must)

-- NOT PRINTED: function 22 (cairnref32_Reader_name)

-- NOT PRINTED: function 21 (cairnref32_Reader_columns)

-- NOT PRINTED: function 24 (cairnref32_Reader_test)

-- function 115 (strconv_lower): by hand

-- function 116 (strconv_underscoreOK): by hand

-- NOT PRINTED: function 101 (strconv_ParseUint)

-- NOT PRINTED: function 83 (strconv_ParseInt)

-- NOT PRINTED: function 72 (strconv_Atoi_72)

-- NOT PRINTED: function 102 (stringslite_Clone)

-- NOT PRINTED: function 84 (strconv_syntaxError)

-- NOT PRINTED: function 85 (strconv_rangeError)

-- NOT PRINTED: function 103 (errors_New)

-- NOT PRINTED: function 86 (strconv_baseError)

-- NOT PRINTED: function 87 (strconv_bitSizeError)

-- NOT PRINTED: function 73 (strconv_toError)

-- NOT PRINTED: function 48 (strconv_Atoi_48)

-- NOT PRINTED: function 25 (cairnref32_limit)

-- NOT PRINTED: function 8 (cairnref32_Parse)

/-! ### cairnlaw32_num: function 9 -/
def cairnlaw32_num.f (a0 : Int) : Option (Int) := some a0
set_option maxHeartbeats 8000000 in
set_option maxRecDepth 100000 in
theorem cairnlaw32_num.calls (a0 : Int) (r : Int) (w : World) (h : cairnlaw32_num.f a0 = some r) :
  Calls Tryz.prog 9 #[.int .i64 a0] w fun e w' => e = .returned (.int .i64 r) ∧ Drawn0 w w' := by
 have H : (some a0) = some r := h
 clear h
 obtain rfl := Option.some.inj H
 go_enter Tryz.func9, Tryz.ntmps9
 go_wp2
 go_ret
 exact ⟨by first | rfl | (simp; done) | (simp [*]; done), by repeat (first | exact Drawn0.refl _ | apply Drawn0.step)⟩

end Go.Proofs.YthhemephaabblaaGreatDoor.Q
namespace Go.Proofs.YthhemephaabblaaGreatDoor.Q
open Go.RowKit  Go.Proofs.YthhemephaabblaaGreatDoorW.PrintWords Go.Proofs.YthhemephaabblaaGreatDoorW.PrintLast Go.Proofs.YthhemephaabblaaGreatDoorW.PrintMore
attribute [local go_sem] max2_int min2_int max_two min_two max_three min_three max_four min_four   -- for this text's walks alone
set_option linter.unusedVariables false
set_option linter.unusedSimpArgs false

attribute [local go_sem high] eqA37
/-! ### cairnlaw32_same: function 10 -/
mutual
def cairnlaw32_same.j0 : Nat → Bool → List ByteArray → ByteArray → List (S37) → ByteArray → Bool → Int → List ByteArray → ByteArray → List (S70) → ByteArray → Bool → Int → Option (Bool)
 | 0, _, _, _, _, _, _, _, _, _, _, _, _, _ => none
 | k + 1, x51, x247000, x247001, x247002, x247003, x247004, x247005, x248000, x248001, x248002, x248003, x248004, x248005 => if x51 = true then (some false) else (cairnlaw32_same.l0 k (x248000.length : Int) 0 x247000 x247001 x247002 x247003 x247004 x247005 x248000 x248001 x248002 x248003 x248004 x248005)
def cairnlaw32_same.l0 : Nat → Int → Int → List ByteArray → ByteArray → List (S37) → ByteArray → Bool → Int → List ByteArray → ByteArray → List (S70) → ByteArray → Bool → Int → Option (Bool)
 | 0, _, _, _, _, _, _, _, _, _, _, _, _, _, _ => none
 | k + 1, x54, x55, x247000, x247001, x247002, x247003, x247004, x247005, x248000, x248001, x248002, x248003, x248004, x248005 => if x55 < x54 then (if 0 ≤ x55 then (if x55 < (x247000.length : Int) then (if x55 < (x248000.length : Int) then (if (rdOf ByteArray.empty x247000 x55).toList = (rdOf ByteArray.empty x248000 x55).toList then (cairnlaw32_same.l0 k x54 (wrap64 (x55 + 1)) x247000 x247001 x247002 x247003 x247004 x247005 x248000 x248001 x248002 x248003 x248004 x248005) else (some false)) else (none)) else (none)) else (none)) else (cairnlaw32_same.l1 k (x248002.length : Int) 0 x247000 x247001 x247002 x247003 x247004 x247005 x248000 x248001 x248002 x248003 x248004 x248005)
def cairnlaw32_same.l1 : Nat → Int → Int → List ByteArray → ByteArray → List (S37) → ByteArray → Bool → Int → List ByteArray → ByteArray → List (S70) → ByteArray → Bool → Int → Option (Bool)
 | 0, _, _, _, _, _, _, _, _, _, _, _, _, _, _ => none
 | k + 1, x72, x73, x247000, x247001, x247002, x247003, x247004, x247005, x248000, x248001, x248002, x248003, x248004, x248005 => if x73 < x72 then (if 0 ≤ x73 then (if x73 < (x248002.length : Int) then (if x73 < (x247002.length : Int) then (if (!((((rd_T37 x247002 x73).f0).toList) == (((rd_T70 x248002 x73).f0).toList)) || (!(((rd_T37 x247002 x73).f1) == ((rd_T70 x248002 x73).f1)) || (!((((rd_T37 x247002 x73).f2).toList) == (((rd_T70 x248002 x73).f2).toList))))) = true then (some false) else (cairnlaw32_same.l1 k x72 (wrap64 (x73 + 1)) x247000 x247001 x247002 x247003 x247004 x247005 x248000 x248001 x248002 x248003 x248004 x248005)) else (none)) else (none)) else (none)) else (some true)
end
def cairnlaw32_same.f (k : Nat) (l0_0 : List ByteArray) (a0_1 : ByteArray) (l0_2 : List (S37)) (a0_3 : ByteArray) (a0_4 : Bool) (a0_5 : Int) (l1_0 : List ByteArray) (a1_1 : ByteArray) (l1_2 : List (S70)) (a1_3 : ByteArray) (a1_4 : Bool) (a1_5 : Int) : Option (Bool) := if a0_1.toList = a1_1.toList then (if a0_3.toList = a1_3.toList then (if (a0_4 != a1_4) = true then (cairnlaw32_same.j0 k true l0_0 a0_1 l0_2 a0_3 a0_4 a0_5 l1_0 a1_1 l1_2 a1_3 a1_4 a1_5) else (if a0_5 = a1_5 then (if (l0_0.length : Int) = (l1_0.length : Int) then (cairnlaw32_same.j0 k ((l0_2.length : Int) != (l1_2.length : Int)) l0_0 a0_1 l0_2 a0_3 a0_4 a0_5 l1_0 a1_1 l1_2 a1_3 a1_4 a1_5) else (cairnlaw32_same.j0 k true l0_0 a0_1 l0_2 a0_3 a0_4 a0_5 l1_0 a1_1 l1_2 a1_3 a1_4 a1_5)) else (cairnlaw32_same.j0 k true l0_0 a0_1 l0_2 a0_3 a0_4 a0_5 l1_0 a1_1 l1_2 a1_3 a1_4 a1_5))) else (cairnlaw32_same.j0 k true l0_0 a0_1 l0_2 a0_3 a0_4 a0_5 l1_0 a1_1 l1_2 a1_3 a1_4 a1_5)) else (cairnlaw32_same.j0 k true l0_0 a0_1 l0_2 a0_3 a0_4 a0_5 l1_0 a1_1 l1_2 a1_3 a1_4 a1_5)
theorem cairnlaw32_same.mono_l : ∀ k, (∀ y0 y1 y2 y3 y4 y5 y6 y7 y8 y9 y10 y11 y12, LeO (cairnlaw32_same.j0 k y0 y1 y2 y3 y4 y5 y6 y7 y8 y9 y10 y11 y12) (cairnlaw32_same.j0 (k + 1) y0 y1 y2 y3 y4 y5 y6 y7 y8 y9 y10 y11 y12)) ∧ (∀ y0 y1 y2 y3 y4 y5 y6 y7 y8 y9 y10 y11 y12 y13, LeO (cairnlaw32_same.l0 k y0 y1 y2 y3 y4 y5 y6 y7 y8 y9 y10 y11 y12 y13) (cairnlaw32_same.l0 (k + 1) y0 y1 y2 y3 y4 y5 y6 y7 y8 y9 y10 y11 y12 y13)) ∧ (∀ y0 y1 y2 y3 y4 y5 y6 y7 y8 y9 y10 y11 y12 y13, LeO (cairnlaw32_same.l1 k y0 y1 y2 y3 y4 y5 y6 y7 y8 y9 y10 y11 y12 y13) (cairnlaw32_same.l1 (k + 1) y0 y1 y2 y3 y4 y5 y6 y7 y8 y9 y10 y11 y12 y13))
 | 0 => ⟨fun _ _ _ _ _ _ _ _ _ _ _ _ _ r h => by simp [cairnlaw32_same.j0] at h, fun _ _ _ _ _ _ _ _ _ _ _ _ _ _ r h => by simp [cairnlaw32_same.l0] at h, fun _ _ _ _ _ _ _ _ _ _ _ _ _ _ r h => by simp [cairnlaw32_same.l1] at h⟩
 | k + 1 => by
  obtain ⟨ih0, ih1, ih2⟩ := cairnlaw32_same.mono_l k
  refine ⟨?_, ?_, ?_⟩
  ·
   intro y0 y1 y2 y3 y4 y5 y6 y7 y8 y9 y10 y11 y12
   unfold cairnlaw32_same.j0
   repeat' first
   | (with_reducible exact ih0 _ _ _ _ _ _ _ _ _ _ _ _ _)
   | (with_reducible exact ih1 _ _ _ _ _ _ _ _ _ _ _ _ _ _)
   | (with_reducible exact ih2 _ _ _ _ _ _ _ _ _ _ _ _ _ _)
   | (with_reducible exact LeO.refl _)
   | (with_reducible exact LeO.none _)
   | (with_reducible refine LeO.ite ?_ ?_)
   | (with_reducible refine LeO.bind ?_ (fun _ => ?_))
   | exact ih0 _ _ _ _ _ _ _ _ _ _ _ _ _
   | exact ih1 _ _ _ _ _ _ _ _ _ _ _ _ _ _
   | exact ih2 _ _ _ _ _ _ _ _ _ _ _ _ _ _
   | exact LeO.none _
   | refine LeO.ite ?_ ?_
   | refine LeO.bind ?_ (fun _ => ?_)
  ·
   intro y0 y1 y2 y3 y4 y5 y6 y7 y8 y9 y10 y11 y12 y13
   unfold cairnlaw32_same.l0
   repeat' first
   | (with_reducible exact ih0 _ _ _ _ _ _ _ _ _ _ _ _ _)
   | (with_reducible exact ih1 _ _ _ _ _ _ _ _ _ _ _ _ _ _)
   | (with_reducible exact ih2 _ _ _ _ _ _ _ _ _ _ _ _ _ _)
   | (with_reducible exact LeO.refl _)
   | (with_reducible exact LeO.none _)
   | (with_reducible refine LeO.ite ?_ ?_)
   | (with_reducible refine LeO.bind ?_ (fun _ => ?_))
   | exact ih0 _ _ _ _ _ _ _ _ _ _ _ _ _
   | exact ih1 _ _ _ _ _ _ _ _ _ _ _ _ _ _
   | exact ih2 _ _ _ _ _ _ _ _ _ _ _ _ _ _
   | exact LeO.none _
   | refine LeO.ite ?_ ?_
   | refine LeO.bind ?_ (fun _ => ?_)
  ·
   intro y0 y1 y2 y3 y4 y5 y6 y7 y8 y9 y10 y11 y12 y13
   unfold cairnlaw32_same.l1
   repeat' first
   | (with_reducible exact ih0 _ _ _ _ _ _ _ _ _ _ _ _ _)
   | (with_reducible exact ih1 _ _ _ _ _ _ _ _ _ _ _ _ _ _)
   | (with_reducible exact ih2 _ _ _ _ _ _ _ _ _ _ _ _ _ _)
   | (with_reducible exact LeO.refl _)
   | (with_reducible exact LeO.none _)
   | (with_reducible refine LeO.ite ?_ ?_)
   | (with_reducible refine LeO.bind ?_ (fun _ => ?_))
   | exact ih0 _ _ _ _ _ _ _ _ _ _ _ _ _
   | exact ih1 _ _ _ _ _ _ _ _ _ _ _ _ _ _
   | exact ih2 _ _ _ _ _ _ _ _ _ _ _ _ _ _
   | exact LeO.none _
   | refine LeO.ite ?_ ?_
   | refine LeO.bind ?_ (fun _ => ?_)
theorem cairnlaw32_same.mono : ∀ a0 a1 a2 a3 a4 a5 a6 a7 a8 a9 a10 a11 k, LeO (cairnlaw32_same.f k a0 a1 a2 a3 a4 a5 a6 a7 a8 a9 a10 a11) (cairnlaw32_same.f (k + 1) a0 a1 a2 a3 a4 a5 a6 a7 a8 a9 a10 a11) := by
 intro a0 a1 a2 a3 a4 a5 a6 a7 a8 a9 a10 a11 k
 obtain ⟨ih0, ih1, ih2⟩ := cairnlaw32_same.mono_l k
 unfold cairnlaw32_same.f
 repeat' first
   | (with_reducible exact ih0 _ _ _ _ _ _ _ _ _ _ _ _ _)
   | (with_reducible exact ih1 _ _ _ _ _ _ _ _ _ _ _ _ _ _)
   | (with_reducible exact ih2 _ _ _ _ _ _ _ _ _ _ _ _ _ _)
   | (with_reducible exact LeO.refl _)
   | (with_reducible exact LeO.none _)
   | (with_reducible refine LeO.ite ?_ ?_)
   | (with_reducible refine LeO.bind ?_ (fun _ => ?_))
   | exact ih0 _ _ _ _ _ _ _ _ _ _ _ _ _
   | exact ih1 _ _ _ _ _ _ _ _ _ _ _ _ _ _
   | exact ih2 _ _ _ _ _ _ _ _ _ _ _ _ _ _
   | exact LeO.none _
   | refine LeO.ite ?_ ?_
   | refine LeO.bind ?_ (fun _ => ?_)
end Go.Proofs.YthhemephaabblaaGreatDoor.Q
