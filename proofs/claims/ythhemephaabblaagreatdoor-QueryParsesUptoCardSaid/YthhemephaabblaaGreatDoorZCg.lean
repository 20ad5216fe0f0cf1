
import Derived.Test.YthhemephaabblaaGreatDoorZCc
import Derived.Test.YthhemephaabblaaGreatDoorZCf
import Derived.Test.YthhemephaabblaaGreatDoorZCe
import Derived.Test.YthhemephaabblaaGreatDoorZCd
import Derived.Shelf.LaysM
import Derived.Shelf.LaysC
import Derived.Room.Shelf.Join48
import Derived.Shelf.Strconv.Itoa3
import Derived.Shelf.Strconv.Atoi
import Derived.Shelf.Strings.Prefix
import Derived.Shelf.Strings.Count
import Derived.Shelf.Slices.Turned
import Derived.Test.YthhemephaabblaaGreatDoorProg
import Derived.Test.YthhemephaabblaaGreatDoorZCb
import Derived.WalkKit
import Derived.Defers
import Derived.Laws.Pointers
import Derived.Laws.LoneSync
import Derived.RegionCalls
import Derived.BigQuiet
namespace Go.Proofs.YthhemephaabblaaGreatDoor.Q
open Go.RowKit  Go.Proofs.YthhemephaabblaaGreatDoorW.PrintWords Go.Proofs.YthhemephaabblaaGreatDoorW.PrintLast Go.Proofs.YthhemephaabblaaGreatDoorW.PrintMore
attribute [local go_sem] max2_int min2_int max_two min_two max_three min_three max_four min_four
set_option linter.unusedVariables false
set_option linter.unusedSimpArgs false
mutual
def cairnref32_Tokens.l0 : Nat → ByteArray → List (S74) → Int → Option ((List (S74)))
 | 0, _, _, _ => none
 | k + 1, x0, x3, x4 => if x4 < (x0.size : Int) then (if 0 ≤ x4 then (if (bt x0 x4) = 32 then (cairnref32_Tokens.j1 k x0 x3 x4 true) else (if (bt x0 x4) = 9 then (cairnref32_Tokens.j1 k x0 x3 x4 true) else (cairnref32_Tokens.j1 k x0 x3 x4 ((bt x0 x4) == 10)))) else (none)) else (if x3.length < 4398046511104 then (some (x3 ++ [(⟨5, (x0.size : Int), (⟨#[]⟩ : ByteArray)⟩ : S74)])) else (none))
def cairnref32_Tokens.j1 : Nat → ByteArray → List (S74) → Int → Bool → Option ((List (S74)))
 | 0, _, _, _, _ => none
 | k + 1, x0, x3, x4, x26 => if x26 = true then (cairnref32_Tokens.l0 k x0 x3 (wrap64 (x4 + 1))) else ((cairnref32_next.f k x0 x4).bind fun bt218 => (if x3.length < 4398046511104 then ((some (x3 ++ [(⟨bt218.1, bt218.2.1, bt218.2.2.1⟩ : S74)] : List (S74))).bind fun y223 => (if bt218.1 = 6 then (some y223) else (cairnref32_Tokens.l0 k x0 y223 bt218.2.2.2))) else (none)))
end
def cairnref32_Tokens.f (k : Nat) (a0 : ByteArray) : Option ((List (S74))) := cairnref32_Tokens.l0 k a0 ([] : List (S74)) 0
theorem cairnref32_Tokens.mono_l : ∀ k, (∀ y0 y1 y2, LeO (cairnref32_Tokens.l0 k y0 y1 y2) (cairnref32_Tokens.l0 (k + 1) y0 y1 y2)) ∧ (∀ y0 y1 y2 y3, LeO (cairnref32_Tokens.j1 k y0 y1 y2 y3) (cairnref32_Tokens.j1 (k + 1) y0 y1 y2 y3))
 | 0 => ⟨fun _ _ _ r h => by simp [cairnref32_Tokens.l0] at h, fun _ _ _ _ r h => by simp [cairnref32_Tokens.j1] at h⟩
 | k + 1 => by
  obtain ⟨ih0, ih1⟩ := cairnref32_Tokens.mono_l k
  refine ⟨?_, ?_⟩
  ·
   intro y0 y1 y2
   unfold cairnref32_Tokens.l0
   repeat' first
   | (with_reducible exact ih0 _ _ _)
   | (with_reducible exact ih1 _ _ _ _)
   | (with_reducible exact cairnref32_next.mono _ _ _)
   | (with_reducible exact LeO.refl _)
   | (with_reducible exact LeO.none _)
   | (with_reducible refine LeO.ite ?_ ?_)
   | (with_reducible refine LeO.bind ?_ (fun _ => ?_))
   | exact ih0 _ _ _
   | exact ih1 _ _ _ _
   | exact cairnref32_next.mono _ _ _
   | exact LeO.none _
   | refine LeO.ite ?_ ?_
   | refine LeO.bind ?_ (fun _ => ?_)
  ·
   intro y0 y1 y2 y3
   unfold cairnref32_Tokens.j1
   repeat' first
   | (with_reducible exact ih0 _ _ _)
   | (with_reducible exact ih1 _ _ _ _)
   | (with_reducible exact cairnref32_next.mono _ _ _)
   | (with_reducible exact LeO.refl _)
   | (with_reducible exact LeO.none _)
   | (with_reducible refine LeO.ite ?_ ?_)
   | (with_reducible refine LeO.bind ?_ (fun _ => ?_))
   | exact ih0 _ _ _
   | exact ih1 _ _ _ _
   | exact cairnref32_next.mono _ _ _
   | exact LeO.none _
   | refine LeO.ite ?_ ?_
   | refine LeO.bind ?_ (fun _ => ?_)
theorem cairnref32_Tokens.mono : ∀ a0 k, LeO (cairnref32_Tokens.f k a0) (cairnref32_Tokens.f (k + 1) a0) := by
 intro a0 k
 obtain ⟨ih0, ih1⟩ := cairnref32_Tokens.mono_l k
 unfold cairnref32_Tokens.f
 repeat' first
   | (with_reducible exact ih0 _ _ _)
   | (with_reducible exact ih1 _ _ _ _)
   | (with_reducible exact cairnref32_next.mono _ _ _)
   | (with_reducible exact LeO.refl _)
   | (with_reducible exact LeO.none _)
   | (with_reducible refine LeO.ite ?_ ?_)
   | (with_reducible refine LeO.bind ?_ (fun _ => ?_))
   | exact ih0 _ _ _
   | exact ih1 _ _ _ _
   | exact cairnref32_next.mono _ _ _
   | exact LeO.none _
   | refine LeO.ite ?_ ?_
   | refine LeO.bind ?_ (fun _ => ?_)
set_option maxHeartbeats 8000000 in
set_option maxRecDepth 100000 in
theorem cairnref32_Tokens.calls (k : Nat) (a0 : ByteArray) (r : List (S74)) (w : World) (h : cairnref32_Tokens.f k a0 = some r) :
  Calls Tryz.prog 19 #[.string a0] w fun e w' => ∃ v0_ : Value, e = .returned (v0_) ∧ Kd.R k74 74 w' w.heap.size (fun _ => True) v0_ r ∧ Below w.heap.size w w' := by
 have hu74 := Tryz.underlying74
 have HB := Aside0.mk (Below.refl w.heap.size w)
 have H : (cairnref32_Tokens.l0 k a0 ([] : List (S74)) 0) = some r := h
 clear h
 have H' := Aside0.mk H
 clear H
 go_enter Tryz.func19, Tryz.ntmps19
 go_wp2
 go_loopg [3, 4] k (fun kq v3 v4 w' => ∃ (x3_1 : List (S74)) (x4_1 : Int), v4 = .int .i64 x4_1 ∧ Aside0 (cairnref32_Tokens.l0 kq a0 x3_1 x4_1 = some r) ∧ Aside0 (kq ≤ k) ∧ Aside0 (Kd.R k74 74 w' w.heap.size (fun _ => True) v3 x3_1) ∧ Aside0 (Below w.heap.size w w'))
 case atStart => exact ⟨(([] : List (S74))), (0), (by first | rfl | (simp; done) | (simp [*]; done)), H', ⟨Nat.le_refl _⟩, ⟨by first | exact Kd.R_nil _ _ _ _ _ | exact Kd.N_nil _ _ _ _ _ | exact Kd.V_nil _ _ _ _ _ | exact Kd.Q_nil _ _ _ _ _ | exact Kd.S_nil _ _ _ _ _⟩, ⟨by repeat (first | (with_reducible first | exact HB.out | apply below_alloc | apply pw_below_drewN | apply below_drew1) | exact HB.out)⟩⟩
 case round =>
  clear H'
  obtain ⟨x3_1, x4_1, rfl, HA, HK1, HO_3, HB⟩ := hrel
  cases gk with
  | zero => exact absurd HA.out (by simp [cairnref32_Tokens.l0])
  | succ k1 =>
   have H := HA.out
   clear HA
   simp only [cairnref32_Tokens.l0] at H
   by_cases c2 : x4_1 < (a0.size : Int)
   ·
    rw [if_pos c2] at H
    have c2b0 : decide (x4_1 < (a0.size : Int)) = true := decide_eq_true c2
    clear c2
    have HC3 := Aside0.mk H
    clear H
    go_upto_region 4 with (fail)
    go_cut [26] (fun v26 wc => ∃ (kq : Nat) (x26_2 : Bool), v26 = .bool x26_2 ∧ Aside0 (cairnref32_Tokens.j1 kq a0 x3_1 x4_1 x26_2 = some r) ∧ Aside0 (kq ≤ k1) ∧ Aside0 (Kd.R k74 74 wc w.heap.size (fun _ => True) u3 x3_1) ∧ Aside0 (Below w.heap.size w wc))
    case first =>
     have H := HC3.out
     clear HC3
     by_cases c4 : 0 ≤ x4_1
     ·
      rw [if_pos c4] at H
      have c4b0 : decide (0 ≤ x4_1) = true := decide_eq_true c4
      clear c4
      (first | rw [c4b0] | (simp only [i64_w, i32_w]; rw [c4b0]) | skip)
      by_cases c6 : (bt a0 x4_1) = 32
      ·
       rw [if_pos c6] at H
       have c6b0 : ((bt a0 x4_1) == 32) = true := beq_iff_eq.mpr c6
       have c6b1 : ((bt a0 x4_1) != 32) = false := bne_eq_false_iff_eq.mpr c6
       clear c6
       have H' := Aside0.mk H
       clear H
       have p5 : 0 ≤ (x4_1 : Int) := of_decide_eq_true (by first | (with_reducible assumption) | assumption)
       have q5 : x4_1 < (a0.size : Int) := of_decide_eq_true (by first | (with_reducible assumption) | assumption)
       have hx5 := bt_at a0 x4_1
       replace p5 := eq_true p5
       replace q5 := eq_true q5
       go_wp2
       go_meet
       case rel => exact ⟨_, (true), (by first | rfl | (simp; done) | (simp [*]; done)), H', ⟨by have := HK1.out; first | omega | exact Nat.le_refl _⟩, ⟨by (with_reducible repeat (first | apply Kd.R_alloc | apply Kd.R_drewN | apply Kd.R_drew)); exact HO_3.out⟩, ⟨by repeat (first | (with_reducible first | exact HB.out | apply below_alloc | apply pw_below_drewN | apply below_drew1) | exact HB.out)⟩⟩
      ·
       rw [if_neg c6] at H
       have c6b0 : ((bt a0 x4_1) == 32) = false := beq_eq_false_iff_ne.mpr c6
       have c6b1 : ((bt a0 x4_1) != 32) = true := bne_iff_ne.mpr c6
       by_cases c8 : (bt a0 x4_1) = 9
       ·
        rw [if_pos c8] at H
        have c8b0 : ((bt a0 x4_1) == 9) = true := beq_iff_eq.mpr c8
        have c8b1 : ((bt a0 x4_1) != 9) = false := bne_eq_false_iff_eq.mpr c8
        clear c8
        have H' := Aside0.mk H
        clear H
        have p5 : 0 ≤ (x4_1 : Int) := of_decide_eq_true (by first | (with_reducible assumption) | assumption)
        have q5 : x4_1 < (a0.size : Int) := of_decide_eq_true (by first | (with_reducible assumption) | assumption)
        have hx5 := bt_at a0 x4_1
        replace p5 := eq_true p5
        replace q5 := eq_true q5
        have p7 : 0 ≤ (x4_1 : Int) := of_decide_eq_true (by first | (with_reducible assumption) | assumption)
        have q7 : x4_1 < (a0.size : Int) := of_decide_eq_true (by first | (with_reducible assumption) | assumption)
        have hx7 := bt_at a0 x4_1
        replace p7 := eq_true p7
        replace q7 := eq_true q7
        go_wp2
        go_meet
        case rel => exact ⟨_, (true), (by first | rfl | (simp; done) | (simp [*]; done)), H', ⟨by have := HK1.out; first | omega | exact Nat.le_refl _⟩, ⟨by (with_reducible repeat (first | apply Kd.R_alloc | apply Kd.R_drewN | apply Kd.R_drew)); exact HO_3.out⟩, ⟨by repeat (first | (with_reducible first | exact HB.out | apply below_alloc | apply pw_below_drewN | apply below_drew1) | exact HB.out)⟩⟩
       ·
        rw [if_neg c8] at H
        have c8b0 : ((bt a0 x4_1) == 9) = false := beq_eq_false_iff_ne.mpr c8
        have c8b1 : ((bt a0 x4_1) != 9) = true := bne_iff_ne.mpr c8
        have H' := Aside0.mk H
        clear H
        have p5 : 0 ≤ (x4_1 : Int) := of_decide_eq_true (by first | (with_reducible assumption) | assumption)
        have q5 : x4_1 < (a0.size : Int) := of_decide_eq_true (by first | (with_reducible assumption) | assumption)
        have hx5 := bt_at a0 x4_1
        replace p5 := eq_true p5
        replace q5 := eq_true q5
        have p7 : 0 ≤ (x4_1 : Int) := of_decide_eq_true (by first | (with_reducible assumption) | assumption)
        have q7 : x4_1 < (a0.size : Int) := of_decide_eq_true (by first | (with_reducible assumption) | assumption)
        have hx7 := bt_at a0 x4_1
        replace p7 := eq_true p7
        replace q7 := eq_true q7
        have p9 : 0 ≤ (x4_1 : Int) := of_decide_eq_true (by first | (with_reducible assumption) | assumption)
        have q9 : x4_1 < (a0.size : Int) := of_decide_eq_true (by first | (with_reducible assumption) | assumption)
        have hx9 := bt_at a0 x4_1
        replace p9 := eq_true p9
        replace q9 := eq_true q9
        go_wp2
        go_meet
        case rel => exact ⟨_, (((bt a0 x4_1) == 10)), (by first | rfl | (simp; done) | (simp [*]; done)), H', ⟨by have := HK1.out; first | omega | exact Nat.le_refl _⟩, ⟨by (with_reducible repeat (first | apply Kd.R_alloc | apply Kd.R_drewN | apply Kd.R_drew)); exact HO_3.out⟩, ⟨by repeat (first | (with_reducible first | exact HB.out | apply below_alloc | apply pw_below_drewN | apply below_drew1) | exact HB.out)⟩⟩
     ·
      rw [if_neg c4] at H
      exact absurd H (by simp)
    case rest =>
     clear HC3
     try clear c2
     try clear c2b0
     obtain ⟨kq, x26_2, rfl, HA, HJ2, HO_3, HB⟩ := hcut
     cases kq with
     | zero => exact absurd HA.out (by simp [cairnref32_Tokens.j1])
     | succ kj2 =>
      have H := HA.out
      clear HA
      simp only [cairnref32_Tokens.j1] at H
      by_cases c10 : x26_2 = true
      ·
       subst c10
       have H1 : (cairnref32_Tokens.l0 kj2 a0 x3_1 (wrap64 (x4_1 + 1))) = some r := by rw [if_pos rfl] at H; exact H
       clear H
       have H := H1
       clear H1
       have H' := Aside0.mk H
       clear H
       go_wp2
       go_roundg kj2
       case measure => have := HK1.out; have := HJ2.out; omega
       case rel => exact ⟨(x3_1), (wrap64 (x4_1 + 1)), (by first | rfl | (simp; done) | (simp [*]; done)), H', ⟨by have := HK1.out; have := HJ2.out; omega⟩, ⟨by (with_reducible repeat (first | apply Kd.R_alloc | apply Kd.R_drewN | apply Kd.R_drew)); exact HO_3.out⟩, ⟨by repeat (first | (with_reducible first | exact HB.out | apply below_alloc | apply pw_below_drewN | apply below_drew1) | exact HB.out)⟩⟩
      ·
       replace c10 := Bool.eq_false_iff.mpr c10
       subst c10
       have H1 : ((cairnref32_next.f kj2 a0 x4_1).bind fun bt218 => (if x3_1.length < 4398046511104 then ((some (x3_1 ++ [(⟨bt218.1, bt218.2.1, bt218.2.2.1⟩ : S74)] : List (S74))).bind fun y223 => (if bt218.1 = 6 then (some y223) else (cairnref32_Tokens.l0 kj2 a0 y223 bt218.2.2.2))) else (none))) = some r := by rw [if_neg (show ¬ (false = true) by decide)] at H; exact H
       clear H
       have H := H1
       clear H1
       replace H := Option.bind_eq_some_iff.mp H
       obtain ⟨⟨t218, t219, t220, t221⟩, A110, H⟩ := H
       replace H : (if x3_1.length < 4398046511104 then ((some (x3_1 ++ [(⟨t218, t219, t220⟩ : S74)] : List (S74))).bind fun y223 => (if t218 = 6 then (some y223) else (cairnref32_Tokens.l0 kj2 a0 y223 t221))) else (none)) = some r := H
       have A11 := Aside0.mk A110
       clear A110
       by_cases c12 : x3_1.length < 4398046511104
       ·
        rw [if_pos c12] at H
        have LMc12 := Aside0.mk c12
        clear c12
        obtain ⟨y223, hy223⟩ : ∃ y_ : List (S74), y_ = (x3_1 ++ [(⟨t218, t219, t220⟩ : S74)]) := ⟨_, rfl⟩
        replace H : (if t218 = 6 then (some y223) else (cairnref32_Tokens.l0 kj2 a0 y223 t221)) = some r := by first | (rw [hy223]; with_reducible exact H) | (have H2_ := (Option.bind_some _ _).symm.trans H; rw [hy223]; with_reducible exact H2_) | (have H2_ := (Option.bind_some _ _).symm.trans H; with_reducible exact H2_) | with_reducible exact H | (rw [hy223]; exact H) | exact H
        have Ny223 := Aside0.mk hy223
        clear hy223
        by_cases c13 : t218 = 6
        ·
         rw [if_pos c13] at H
         have c13b0 : (t218 == 6) = true := beq_iff_eq.mpr c13
         have c13b1 : (t218 != 6) = false := bne_eq_false_iff_eq.mpr c13
         clear c13
         obtain rfl := Option.some.inj H
         go_wp2_with (first | ((with_reducible refine gate_callee (f := 46) rfl ?_); refine goesL_ (some 32) rfl rfl Tryz.func46 (by kernel_rfl) rfl #[.string a0, .int .i64 x4_1] rfl (by (try simp only [List.map_toArray, List.map_cons, List.map_nil]); first | done | rfl | (simp only [List.length_drop, List.length_take]; rfl)) ?_; (with_reducible refine (cairnref32_next.calls kj2 a0 x4_1 t218 t219 t220 t221 _ A11.out).mono ?_); rintro e w14 ⟨rfl, hb⟩; refine ⟨_, rfl, ?_⟩; have n0_ := Aside0.mk (Kd.R_below (by (with_reducible repeat (first | apply Kd.R_alloc | apply Kd.R_drewN | apply Kd.R_drew)); exact HO_3.out) hb); have n1_ := Aside0.mk (below_step (by repeat (first | (with_reducible first | exact HB.out | apply below_alloc | apply pw_below_drewN | apply below_drew1) | exact HB.out)) hb); clear HO_3; clear HB; have HO_3 := n0_; have HB := n1_; clear n0_ n1_; (try clear hb); (try clear hb2); (try clear hk); (try clear hi)) | ((with_reducible refine gate_dst (N := 5) rfl ?_); refine box_event ?hg (N := 5) ?hd (cs := #[.int .i64 0, .int .i64 0, .string (⟨#[]⟩ : ByteArray)]) (t := 74) ?hr ?_; (case hd => rfl); (case hg => rfl); (case hr => first | (go_simp; done) | (go_simp; rfl)); intro gb222 hg w15 hbox hb; have n0_ := Aside0.mk (Kd.R_below (Kd.R_elderB (by (with_reducible repeat (first | apply Kd.R_alloc | apply Kd.R_drewN | apply Kd.R_drew)); exact HO_3.out) gb222 (Nat.le_of_eq hg.symm)) hb); have n1_ := Aside0.mk (below_step (by repeat (first | (with_reducible first | exact HB.out | apply below_alloc | apply pw_below_drewN | apply below_drew1) | exact HB.out)) hb); have n2_ := Aside0.mk (hbox); have n3_ := Aside0.mk ((by rw [hg]; exact (below_size (by repeat (first | (with_reducible first | exact HB.out | apply below_alloc | apply pw_below_drewN | apply below_drew1) | exact HB.out))) : w.heap.size ≤ gb222)); have n4_ := Aside0.mk ((by rw [hg]; exact (below_size (by repeat (first | (with_reducible first | exact HB.out | apply below_alloc | apply pw_below_drewN | apply below_drew1) | exact HB.out))) : w.heap.size ≤ gb222)); clear HO_3; clear HB; have HO_3 := n0_; have HB := n1_; have BK222 := n2_; have GW222 := n3_; have GE222 := n4_; clear n0_ n1_ n2_ n3_ n4_; clear hb hbox hg; have hcz16_0 : w15.cell? ⟨gb222, 0, none⟩ = some (.int .i64 0) := (blk_cell BK222.out 0).trans rfl; have hcz16_1 : w15.cell? ⟨gb222, 1, none⟩ = some (.int .i64 0) := (blk_cell BK222.out 1).trans rfl; have hcz16_2 : w15.cell? ⟨gb222, 2, none⟩ = some (.string (⟨#[]⟩ : ByteArray)) := (blk_cell BK222.out 2).trans rfl; have hfz16_0 := blk_frozen BK222.out 0; have hfz16_1 := blk_frozen BK222.out 1; have hfz16_2 := blk_frozen BK222.out 2) | ((with_reducible refine gate_builtin (b := .append) (xs := #[.tmp 35, .tmp 37]) rfl ?_); at_builtin; refine Kd.R_append k74 (w0 := w) w.heap.size rfl (.tmp 35) (.tmp 37) 62 74 (.agg #[(.int .i64 0), (.int .i64 0), (.string ⟨#[]⟩)]) 32 rfl Tryz.underlying62 info74 rfl (by decide) (by omega) u3 x3_1 (⟨t218, t219, t220⟩ : S74) [.int .i64 t218, .int .i64 t219, .string t220] (fun k_ => k_ ≠ gb222) (fun _ => False) rfl (by first | (go_simp; done) | (go_simp; rfl)) ?aP (fun _ hk => hk.elim) ?aF ?aO ?aB ?aS ?aL ?_; (case aP => exact k74_mkM _ _ _ (⟨t218, t219, t220⟩ : S74)); (case aB => exact (by repeat (first | (with_reducible first | exact HB.out | apply below_alloc | apply pw_below_drewN | apply below_drew1 | refine below_set ?_ GE222.out) | exact HB.out))); (case aF => exact (fun k_ hk => Kd.freshB (g := gb222) (o := .cells #[.int .i64 t218, .int .i64 t219, .string t220] 74 (0, 0)) (by (with_reducible repeat (first | refine blk_drewN ?_ _ | refine blk_drew ?_ | refine blk_alloc ?_ _)); refine blk_put (cs := #[.int .i64 t218, .int .i64 t219, .string (⟨#[]⟩ : ByteArray)]) ?_ 2 _ rfl; (with_reducible repeat (first | refine blk_drewN ?_ _ | refine blk_drew ?_ | refine blk_alloc ?_ _)); refine blk_put (cs := #[.int .i64 t218, .int .i64 0, .string (⟨#[]⟩ : ByteArray)]) ?_ 1 _ rfl; (with_reducible repeat (first | refine blk_drewN ?_ _ | refine blk_drew ?_ | refine blk_alloc ?_ _)); refine blk_put (cs := #[.int .i64 0, .int .i64 0, .string (⟨#[]⟩ : ByteArray)]) ?_ 0 _ rfl; (with_reducible repeat (first | refine blk_drewN ?_ _ | refine blk_drew ?_ | refine blk_alloc ?_ _)); exact BK222.out) k_ hk)); (case aO => exact (by (with_reducible repeat (first | apply Kd.R_alloc | apply Kd.R_drewN | apply Kd.R_drew)); exact Kd.R_mono (Kd.R_far (p := ⟨gb222, 2, none⟩) (Kd.R_far (p := ⟨gb222, 1, none⟩) (Kd.R_far (p := ⟨gb222, 0, none⟩) (Kd.R_mono HO_3.out (fun k_ hk => (⟨hk, hk.2⟩ : _ ∧ k_ ≠ gb222))) (fun _ hk => hk.2) (.int .i64 t218)) (fun _ hk => hk.2) (.int .i64 t219)) (fun _ hk => hk.2) (.string t220)) (fun _ hk => hk.1.2))); (case aS => exact (below_size (by repeat (first | (with_reducible first | exact HB.out | apply below_alloc | apply pw_below_drewN | apply below_drew1 | refine below_set ?_ GE222.out) | exact HB.out)))); (case aL => have := LMc12.out; omega); intro v224 w17 ho hb hg hat; rw [← Ny223.out] at ho; have n0_ := Aside0.mk (blk_grown (g := gb222) (o := .cells #[.int .i64 t218, .int .i64 t219, .string t220] 74 (0, 0)) (by (with_reducible repeat (first | refine blk_drewN ?_ _ | refine blk_drew ?_ | refine blk_alloc ?_ _)); refine blk_put (cs := #[.int .i64 t218, .int .i64 t219, .string (⟨#[]⟩ : ByteArray)]) ?_ 2 _ rfl; (with_reducible repeat (first | refine blk_drewN ?_ _ | refine blk_drew ?_ | refine blk_alloc ?_ _)); refine blk_put (cs := #[.int .i64 t218, .int .i64 0, .string (⟨#[]⟩ : ByteArray)]) ?_ 1 _ rfl; (with_reducible repeat (first | refine blk_drewN ?_ _ | refine blk_drew ?_ | refine blk_alloc ?_ _)); refine blk_put (cs := #[.int .i64 0, .int .i64 0, .string (⟨#[]⟩ : ByteArray)]) ?_ 0 _ rfl; (with_reducible repeat (first | refine blk_drewN ?_ _ | refine blk_drew ?_ | refine blk_alloc ?_ _)); exact BK222.out) hg (Kd.R_away HO_3.out (fun _ hk => hk.2))); have n1_ := Aside0.mk (hb); have n2_ := Aside0.mk (ho); clear BK222; clear HB; clear HO_3; have BK222 := n0_; have HB := n1_; have HO225 := n2_; clear n0_ n1_ n2_; clear ho hb hg hat; have hcz18_0 : w17.cell? ⟨gb222, 0, none⟩ = some (.int .i64 t218) := (blk_cell BK222.out 0).trans rfl; have hcz18_1 : w17.cell? ⟨gb222, 1, none⟩ = some (.int .i64 t219) := (blk_cell BK222.out 1).trans rfl; have hcz18_2 : w17.cell? ⟨gb222, 2, none⟩ = some (.string t220) := (blk_cell BK222.out 2).trans rfl; have hfz18_0 := blk_frozen BK222.out 0; have hfz18_1 := blk_frozen BK222.out 1; have hfz18_2 := blk_frozen BK222.out 2))
         go_ret
         exact ⟨_, by first | rfl | (simp [errW_none, errW_some] <;> rfl) | (simp [*, errW_none, errW_some] <;> rfl), by (with_reducible repeat (first | apply Kd.R_alloc | apply Kd.R_drewN | apply Kd.R_drew)); exact Kd.R_mono HO225.out (fun _ hk => trivial), by repeat (first | (with_reducible first | exact HB.out | apply below_alloc | apply pw_below_drewN | apply below_drew1 | refine below_set ?_ GE222.out) | exact HB.out)⟩
        ·
         rw [if_neg c13] at H
         have c13b0 : (t218 == 6) = false := beq_eq_false_iff_ne.mpr c13
         have c13b1 : (t218 != 6) = true := bne_iff_ne.mpr c13
         have H' := Aside0.mk H
         clear H
         go_wp2_with (first | ((with_reducible refine gate_callee (f := 46) rfl ?_); refine goesL_ (some 32) rfl rfl Tryz.func46 (by kernel_rfl) rfl #[.string a0, .int .i64 x4_1] rfl (by (try simp only [List.map_toArray, List.map_cons, List.map_nil]); first | done | rfl | (simp only [List.length_drop, List.length_take]; rfl)) ?_; (with_reducible refine (cairnref32_next.calls kj2 a0 x4_1 t218 t219 t220 t221 _ A11.out).mono ?_); rintro e w19 ⟨rfl, hb⟩; refine ⟨_, rfl, ?_⟩; have n0_ := Aside0.mk (Kd.R_below (by (with_reducible repeat (first | apply Kd.R_alloc | apply Kd.R_drewN | apply Kd.R_drew)); exact HO_3.out) hb); have n1_ := Aside0.mk (below_step (by repeat (first | (with_reducible first | exact HB.out | apply below_alloc | apply pw_below_drewN | apply below_drew1) | exact HB.out)) hb); clear HO_3; clear HB; have HO_3 := n0_; have HB := n1_; clear n0_ n1_; (try clear hb); (try clear hb2); (try clear hk); (try clear hi)) | ((with_reducible refine gate_dst (N := 5) rfl ?_); refine box_event ?hg (N := 5) ?hd (cs := #[.int .i64 0, .int .i64 0, .string (⟨#[]⟩ : ByteArray)]) (t := 74) ?hr ?_; (case hd => rfl); (case hg => rfl); (case hr => first | (go_simp; done) | (go_simp; rfl)); intro gb222 hg w20 hbox hb; have n0_ := Aside0.mk (Kd.R_below (Kd.R_elderB (by (with_reducible repeat (first | apply Kd.R_alloc | apply Kd.R_drewN | apply Kd.R_drew)); exact HO_3.out) gb222 (Nat.le_of_eq hg.symm)) hb); have n1_ := Aside0.mk (below_step (by repeat (first | (with_reducible first | exact HB.out | apply below_alloc | apply pw_below_drewN | apply below_drew1) | exact HB.out)) hb); have n2_ := Aside0.mk (hbox); have n3_ := Aside0.mk ((by rw [hg]; exact (below_size (by repeat (first | (with_reducible first | exact HB.out | apply below_alloc | apply pw_below_drewN | apply below_drew1) | exact HB.out))) : w.heap.size ≤ gb222)); have n4_ := Aside0.mk ((by rw [hg]; exact (below_size (by repeat (first | (with_reducible first | exact HB.out | apply below_alloc | apply pw_below_drewN | apply below_drew1) | exact HB.out))) : w.heap.size ≤ gb222)); clear HO_3; clear HB; have HO_3 := n0_; have HB := n1_; have BK222 := n2_; have GW222 := n3_; have GE222 := n4_; clear n0_ n1_ n2_ n3_ n4_; clear hb hbox hg; have hcz21_0 : w20.cell? ⟨gb222, 0, none⟩ = some (.int .i64 0) := (blk_cell BK222.out 0).trans rfl; have hcz21_1 : w20.cell? ⟨gb222, 1, none⟩ = some (.int .i64 0) := (blk_cell BK222.out 1).trans rfl; have hcz21_2 : w20.cell? ⟨gb222, 2, none⟩ = some (.string (⟨#[]⟩ : ByteArray)) := (blk_cell BK222.out 2).trans rfl; have hfz21_0 := blk_frozen BK222.out 0; have hfz21_1 := blk_frozen BK222.out 1; have hfz21_2 := blk_frozen BK222.out 2) | ((with_reducible refine gate_builtin (b := .append) (xs := #[.tmp 35, .tmp 37]) rfl ?_); at_builtin; refine Kd.R_append k74 (w0 := w) w.heap.size rfl (.tmp 35) (.tmp 37) 62 74 (.agg #[(.int .i64 0), (.int .i64 0), (.string ⟨#[]⟩)]) 32 rfl Tryz.underlying62 info74 rfl (by decide) (by omega) u3 x3_1 (⟨t218, t219, t220⟩ : S74) [.int .i64 t218, .int .i64 t219, .string t220] (fun k_ => k_ ≠ gb222) (fun _ => False) rfl (by first | (go_simp; done) | (go_simp; rfl)) ?aP (fun _ hk => hk.elim) ?aF ?aO ?aB ?aS ?aL ?_; (case aP => exact k74_mkM _ _ _ (⟨t218, t219, t220⟩ : S74)); (case aB => exact (by repeat (first | (with_reducible first | exact HB.out | apply below_alloc | apply pw_below_drewN | apply below_drew1 | refine below_set ?_ GE222.out) | exact HB.out))); (case aF => exact (fun k_ hk => Kd.freshB (g := gb222) (o := .cells #[.int .i64 t218, .int .i64 t219, .string t220] 74 (0, 0)) (by (with_reducible repeat (first | refine blk_drewN ?_ _ | refine blk_drew ?_ | refine blk_alloc ?_ _)); refine blk_put (cs := #[.int .i64 t218, .int .i64 t219, .string (⟨#[]⟩ : ByteArray)]) ?_ 2 _ rfl; (with_reducible repeat (first | refine blk_drewN ?_ _ | refine blk_drew ?_ | refine blk_alloc ?_ _)); refine blk_put (cs := #[.int .i64 t218, .int .i64 0, .string (⟨#[]⟩ : ByteArray)]) ?_ 1 _ rfl; (with_reducible repeat (first | refine blk_drewN ?_ _ | refine blk_drew ?_ | refine blk_alloc ?_ _)); refine blk_put (cs := #[.int .i64 0, .int .i64 0, .string (⟨#[]⟩ : ByteArray)]) ?_ 0 _ rfl; (with_reducible repeat (first | refine blk_drewN ?_ _ | refine blk_drew ?_ | refine blk_alloc ?_ _)); exact BK222.out) k_ hk)); (case aO => exact (by (with_reducible repeat (first | apply Kd.R_alloc | apply Kd.R_drewN | apply Kd.R_drew)); exact Kd.R_mono (Kd.R_far (p := ⟨gb222, 2, none⟩) (Kd.R_far (p := ⟨gb222, 1, none⟩) (Kd.R_far (p := ⟨gb222, 0, none⟩) (Kd.R_mono HO_3.out (fun k_ hk => (⟨hk, hk.2⟩ : _ ∧ k_ ≠ gb222))) (fun _ hk => hk.2) (.int .i64 t218)) (fun _ hk => hk.2) (.int .i64 t219)) (fun _ hk => hk.2) (.string t220)) (fun _ hk => hk.1.2))); (case aS => exact (below_size (by repeat (first | (with_reducible first | exact HB.out | apply below_alloc | apply pw_below_drewN | apply below_drew1 | refine below_set ?_ GE222.out) | exact HB.out)))); (case aL => have := LMc12.out; omega); intro v224 w22 ho hb hg hat; rw [← Ny223.out] at ho; have n0_ := Aside0.mk (blk_grown (g := gb222) (o := .cells #[.int .i64 t218, .int .i64 t219, .string t220] 74 (0, 0)) (by (with_reducible repeat (first | refine blk_drewN ?_ _ | refine blk_drew ?_ | refine blk_alloc ?_ _)); refine blk_put (cs := #[.int .i64 t218, .int .i64 t219, .string (⟨#[]⟩ : ByteArray)]) ?_ 2 _ rfl; (with_reducible repeat (first | refine blk_drewN ?_ _ | refine blk_drew ?_ | refine blk_alloc ?_ _)); refine blk_put (cs := #[.int .i64 t218, .int .i64 0, .string (⟨#[]⟩ : ByteArray)]) ?_ 1 _ rfl; (with_reducible repeat (first | refine blk_drewN ?_ _ | refine blk_drew ?_ | refine blk_alloc ?_ _)); refine blk_put (cs := #[.int .i64 0, .int .i64 0, .string (⟨#[]⟩ : ByteArray)]) ?_ 0 _ rfl; (with_reducible repeat (first | refine blk_drewN ?_ _ | refine blk_drew ?_ | refine blk_alloc ?_ _)); exact BK222.out) hg (Kd.R_away HO_3.out (fun _ hk => hk.2))); have n1_ := Aside0.mk (hb); have n2_ := Aside0.mk (ho); clear BK222; clear HB; clear HO_3; have BK222 := n0_; have HB := n1_; have HO225 := n2_; clear n0_ n1_ n2_; clear ho hb hg hat; have hcz23_0 : w22.cell? ⟨gb222, 0, none⟩ = some (.int .i64 t218) := (blk_cell BK222.out 0).trans rfl; have hcz23_1 : w22.cell? ⟨gb222, 1, none⟩ = some (.int .i64 t219) := (blk_cell BK222.out 1).trans rfl; have hcz23_2 : w22.cell? ⟨gb222, 2, none⟩ = some (.string t220) := (blk_cell BK222.out 2).trans rfl; have hfz23_0 := blk_frozen BK222.out 0; have hfz23_1 := blk_frozen BK222.out 1; have hfz23_2 := blk_frozen BK222.out 2))
         go_roundg kj2
         case measure => have := HK1.out; have := HJ2.out; omega
         case rel => exact ⟨(y223), (t221), (by first | rfl | (simp; done) | (simp [*]; done)), H', ⟨by have := HK1.out; have := HJ2.out; omega⟩, ⟨by (with_reducible repeat (first | apply Kd.R_alloc | apply Kd.R_drewN | apply Kd.R_drew)); exact Kd.R_mono HO225.out (fun _ hk => trivial)⟩, ⟨by repeat (first | (with_reducible first | exact HB.out | apply below_alloc | apply pw_below_drewN | apply below_drew1 | refine below_set ?_ GE222.out) | exact HB.out)⟩⟩
       ·
        rw [if_neg c12] at H
        exact absurd H (by simp)
   ·
    rw [if_neg c2] at H
    have c2b0 : decide (x4_1 < (a0.size : Int)) = false := decide_eq_false c2
    clear c2
    by_cases c24 : x3_1.length < 4398046511104
    ·
     rw [if_pos c24] at H
     have LMc24 := Aside0.mk c24
     clear c24
     obtain ⟨y215, hy215⟩ : ∃ y_ : List (S74), y_ = (x3_1 ++ [(⟨5, (a0.size : Int), (⟨#[]⟩ : ByteArray)⟩ : S74)]) := ⟨_, rfl⟩
     replace H : (some y215) = some r := by first | (rw [hy215]; with_reducible exact H) | (have H2_ := (Option.bind_some _ _).symm.trans H; rw [hy215]; with_reducible exact H2_) | (have H2_ := (Option.bind_some _ _).symm.trans H; with_reducible exact H2_) | with_reducible exact H | (rw [hy215]; exact H) | exact H
     have Ny215 := Aside0.mk hy215
     clear hy215
     obtain rfl := Option.some.inj H
     go_wp2_with (first | ((with_reducible refine gate_builtin (b := .append) (xs := #[.tmp 44, .tmp 48]) rfl ?_); at_builtin; refine Kd.R_append k74 (w0 := w) w.heap.size rfl (.tmp 44) (.tmp 48) 62 74 (.agg #[(.int .i64 0), (.int .i64 0), (.string ⟨#[]⟩)]) 32 rfl Tryz.underlying62 info74 rfl (by decide) (by omega) u3 x3_1 (⟨5, (a0.size : Int), (⟨#[]⟩ : ByteArray)⟩ : S74) [.int .i64 5, .int .i64 (a0.size : Int), .string (⟨#[]⟩ : ByteArray)] (fun _ => True) (fun _ => False) rfl rfl ?aP (fun _ hk => hk.elim) ?aF ?aO ?aB ?aS ?aL ?_; (case aP => exact k74_mkM _ _ _ (⟨5, (a0.size : Int), (⟨#[]⟩ : ByteArray)⟩ : S74)); (case aB => exact (by repeat (first | (with_reducible first | exact HB.out | apply below_alloc | apply pw_below_drewN | apply below_drew1) | exact HB.out))); (case aF => exact (fun _ _ => trivial)); (case aO => exact (by (with_reducible repeat (first | apply Kd.R_alloc | apply Kd.R_drewN | apply Kd.R_drew)); exact HO_3.out)); (case aS => exact (below_size (by repeat (first | (with_reducible first | exact HB.out | apply below_alloc | apply pw_below_drewN | apply below_drew1) | exact HB.out)))); (case aL => have := LMc24.out; omega); intro v216 w25 ho hb hg hat; rw [← Ny215.out] at ho; have n0_ := Aside0.mk (hb); have n1_ := Aside0.mk (ho); clear HB; clear HO_3; have HB := n0_; have HO217 := n1_; clear n0_ n1_; clear ho hb hg hat))
     go_ret
     exact ⟨_, by first | rfl | (simp [errW_none, errW_some] <;> rfl) | (simp [*, errW_none, errW_some] <;> rfl), by (with_reducible repeat (first | apply Kd.R_alloc | apply Kd.R_drewN | apply Kd.R_drew)); exact HO217.out, by repeat (first | (with_reducible first | exact HB.out | apply below_alloc | apply pw_below_drewN | apply below_drew1) | exact HB.out)⟩
    ·
     rw [if_neg c24] at H
     exact absurd H (by simp)
def cairnlaw32_num.f (a0 : Int) : Option (Int) := some a0
set_option maxHeartbeats 8000000 in
set_option maxRecDepth 100000 in
theorem cairnlaw32_num.calls (a0 : Int) (r : Int) (w : World) (h : cairnlaw32_num.f a0 = some r) :
  Calls Tryz.prog 9 #[.int .i64 a0] w fun e w' => e = .returned (.int .i64 r) ∧ Drawn0 w w' := by
 have H : (some a0) = some r := h
 clear h
 obtain rfl := Option.some.inj H
 go_enter Tryz.func9, Tryz.ntmps9
 go_wp2
 go_ret
 exact ⟨by first | rfl | (simp; done) | (simp [*]; done), by repeat (first | exact Drawn0.refl _ | apply Drawn0.step)⟩
end Go.Proofs.YthhemephaabblaaGreatDoor.Q
namespace Go.Proofs.YthhemephaabblaaGreatDoor.Q
open Go.RowKit  Go.Proofs.YthhemephaabblaaGreatDoorW.PrintWords Go.Proofs.YthhemephaabblaaGreatDoorW.PrintLast Go.Proofs.YthhemephaabblaaGreatDoorW.PrintMore
attribute [local go_sem] max2_int min2_int max_two min_two max_three min_three max_four min_four
set_option linter.unusedVariables false
set_option linter.unusedSimpArgs false
attribute [local go_sem high] eqA37
mutual
def cairnlaw32_same.j0 : Nat → Bool → List ByteArray → ByteArray → List (S37) → ByteArray → Bool → Int → List ByteArray → ByteArray → List (S70) → ByteArray → Bool → Int → Option (Bool)
 | 0, _, _, _, _, _, _, _, _, _, _, _, _, _ => none
 | k + 1, x51, x247000, x247001, x247002, x247003, x247004, x247005, x248000, x248001, x248002, x248003, x248004, x248005 => if x51 = true then (some false) else (cairnlaw32_same.l0 k (x248000.length : Int) 0 x247000 x247001 x247002 x247003 x247004 x247005 x248000 x248001 x248002 x248003 x248004 x248005)
def cairnlaw32_same.l0 : Nat → Int → Int → List ByteArray → ByteArray → List (S37) → ByteArray → Bool → Int → List ByteArray → ByteArray → List (S70) → ByteArray → Bool → Int → Option (Bool)
 | 0, _, _, _, _, _, _, _, _, _, _, _, _, _, _ => none
 | k + 1, x54, x55, x247000, x247001, x247002, x247003, x247004, x247005, x248000, x248001, x248002, x248003, x248004, x248005 => if x55 < x54 then (if 0 ≤ x55 then (if x55 < (x247000.length : Int) then (if x55 < (x248000.length : Int) then (if (rdOf ByteArray.empty x247000 x55).toList = (rdOf ByteArray.empty x248000 x55).toList then (cairnlaw32_same.l0 k x54 (wrap64 (x55 + 1)) x247000 x247001 x247002 x247003 x247004 x247005 x248000 x248001 x248002 x248003 x248004 x248005) else (some false)) else (none)) else (none)) else (none)) else (cairnlaw32_same.l1 k (x248002.length : Int) 0 x247000 x247001 x247002 x247003 x247004 x247005 x248000 x248001 x248002 x248003 x248004 x248005)
def cairnlaw32_same.l1 : Nat → Int → Int → List ByteArray → ByteArray → List (S37) → ByteArray → Bool → Int → List ByteArray → ByteArray → List (S70) → ByteArray → Bool → Int → Option (Bool)
 | 0, _, _, _, _, _, _, _, _, _, _, _, _, _, _ => none
 | k + 1, x72, x73, x247000, x247001, x247002, x247003, x247004, x247005, x248000, x248001, x248002, x248003, x248004, x248005 => if x73 < x72 then (if 0 ≤ x73 then (if x73 < (x248002.length : Int) then (if x73 < (x247002.length : Int) then (if (!((((rd_T37 x247002 x73).f0).toList) == (((rd_T70 x248002 x73).f0).toList)) || (!(((rd_T37 x247002 x73).f1) == ((rd_T70 x248002 x73).f1)) || (!((((rd_T37 x247002 x73).f2).toList) == (((rd_T70 x248002 x73).f2).toList))))) = true then (some false) else (cairnlaw32_same.l1 k x72 (wrap64 (x73 + 1)) x247000 x247001 x247002 x247003 x247004 x247005 x248000 x248001 x248002 x248003 x248004 x248005)) else (none)) else (none)) else (none)) else (some true)
end
def cairnlaw32_same.f (k : Nat) (l0_0 : List ByteArray) (a0_1 : ByteArray) (l0_2 : List (S37)) (a0_3 : ByteArray) (a0_4 : Bool) (a0_5 : Int) (l1_0 : List ByteArray) (a1_1 : ByteArray) (l1_2 : List (S70)) (a1_3 : ByteArray) (a1_4 : Bool) (a1_5 : Int) : Option (Bool) := if a0_1.toList = a1_1.toList then (if a0_3.toList = a1_3.toList then (if (a0_4 != a1_4) = true then (cairnlaw32_same.j0 k true l0_0 a0_1 l0_2 a0_3 a0_4 a0_5 l1_0 a1_1 l1_2 a1_3 a1_4 a1_5) else (if a0_5 = a1_5 then (if (l0_0.length : Int) = (l1_0.length : Int) then (cairnlaw32_same.j0 k ((l0_2.length : Int) != (l1_2.length : Int)) l0_0 a0_1 l0_2 a0_3 a0_4 a0_5 l1_0 a1_1 l1_2 a1_3 a1_4 a1_5) else (cairnlaw32_same.j0 k true l0_0 a0_1 l0_2 a0_3 a0_4 a0_5 l1_0 a1_1 l1_2 a1_3 a1_4 a1_5)) else (cairnlaw32_same.j0 k true l0_0 a0_1 l0_2 a0_3 a0_4 a0_5 l1_0 a1_1 l1_2 a1_3 a1_4 a1_5))) else (cairnlaw32_same.j0 k true l0_0 a0_1 l0_2 a0_3 a0_4 a0_5 l1_0 a1_1 l1_2 a1_3 a1_4 a1_5)) else (cairnlaw32_same.j0 k true l0_0 a0_1 l0_2 a0_3 a0_4 a0_5 l1_0 a1_1 l1_2 a1_3 a1_4 a1_5)
theorem cairnlaw32_same.mono_l : ∀ k, (∀ y0 y1 y2 y3 y4 y5 y6 y7 y8 y9 y10 y11 y12, LeO (cairnlaw32_same.j0 k y0 y1 y2 y3 y4 y5 y6 y7 y8 y9 y10 y11 y12) (cairnlaw32_same.j0 (k + 1) y0 y1 y2 y3 y4 y5 y6 y7 y8 y9 y10 y11 y12)) ∧ (∀ y0 y1 y2 y3 y4 y5 y6 y7 y8 y9 y10 y11 y12 y13, LeO (cairnlaw32_same.l0 k y0 y1 y2 y3 y4 y5 y6 y7 y8 y9 y10 y11 y12 y13) (cairnlaw32_same.l0 (k + 1) y0 y1 y2 y3 y4 y5 y6 y7 y8 y9 y10 y11 y12 y13)) ∧ (∀ y0 y1 y2 y3 y4 y5 y6 y7 y8 y9 y10 y11 y12 y13, LeO (cairnlaw32_same.l1 k y0 y1 y2 y3 y4 y5 y6 y7 y8 y9 y10 y11 y12 y13) (cairnlaw32_same.l1 (k + 1) y0 y1 y2 y3 y4 y5 y6 y7 y8 y9 y10 y11 y12 y13))
 | 0 => ⟨fun _ _ _ _ _ _ _ _ _ _ _ _ _ r h => by simp [cairnlaw32_same.j0] at h, fun _ _ _ _ _ _ _ _ _ _ _ _ _ _ r h => by simp [cairnlaw32_same.l0] at h, fun _ _ _ _ _ _ _ _ _ _ _ _ _ _ r h => by simp [cairnlaw32_same.l1] at h⟩
 | k + 1 => by
  obtain ⟨ih0, ih1, ih2⟩ := cairnlaw32_same.mono_l k
  refine ⟨?_, ?_, ?_⟩
  ·
   intro y0 y1 y2 y3 y4 y5 y6 y7 y8 y9 y10 y11 y12
   unfold cairnlaw32_same.j0
   repeat' first
   | (with_reducible exact ih0 _ _ _ _ _ _ _ _ _ _ _ _ _)
   | (with_reducible exact ih1 _ _ _ _ _ _ _ _ _ _ _ _ _ _)
   | (with_reducible exact ih2 _ _ _ _ _ _ _ _ _ _ _ _ _ _)
   | (with_reducible exact LeO.refl _)
   | (with_reducible exact LeO.none _)
   | (with_reducible refine LeO.ite ?_ ?_)
   | (with_reducible refine LeO.bind ?_ (fun _ => ?_))
   | exact ih0 _ _ _ _ _ _ _ _ _ _ _ _ _
   | exact ih1 _ _ _ _ _ _ _ _ _ _ _ _ _ _
   | exact ih2 _ _ _ _ _ _ _ _ _ _ _ _ _ _
   | exact LeO.none _
   | refine LeO.ite ?_ ?_
   | refine LeO.bind ?_ (fun _ => ?_)
  ·
   intro y0 y1 y2 y3 y4 y5 y6 y7 y8 y9 y10 y11 y12 y13
   unfold cairnlaw32_same.l0
   repeat' first
   | (with_reducible exact ih0 _ _ _ _ _ _ _ _ _ _ _ _ _)
   | (with_reducible exact ih1 _ _ _ _ _ _ _ _ _ _ _ _ _ _)
   | (with_reducible exact ih2 _ _ _ _ _ _ _ _ _ _ _ _ _ _)
   | (with_reducible exact LeO.refl _)
   | (with_reducible exact LeO.none _)
   | (with_reducible refine LeO.ite ?_ ?_)
   | (with_reducible refine LeO.bind ?_ (fun _ => ?_))
   | exact ih0 _ _ _ _ _ _ _ _ _ _ _ _ _
   | exact ih1 _ _ _ _ _ _ _ _ _ _ _ _ _ _
   | exact ih2 _ _ _ _ _ _ _ _ _ _ _ _ _ _
   | exact LeO.none _
   | refine LeO.ite ?_ ?_
   | refine LeO.bind ?_ (fun _ => ?_)
  ·
   intro y0 y1 y2 y3 y4 y5 y6 y7 y8 y9 y10 y11 y12 y13
   unfold cairnlaw32_same.l1
   repeat' first
   | (with_reducible exact ih0 _ _ _ _ _ _ _ _ _ _ _ _ _)
   | (with_reducible exact ih1 _ _ _ _ _ _ _ _ _ _ _ _ _ _)
   | (with_reducible exact ih2 _ _ _ _ _ _ _ _ _ _ _ _ _ _)
   | (with_reducible exact LeO.refl _)
   | (with_reducible exact LeO.none _)
   | (with_reducible refine LeO.ite ?_ ?_)
   | (with_reducible refine LeO.bind ?_ (fun _ => ?_))
   | exact ih0 _ _ _ _ _ _ _ _ _ _ _ _ _
   | exact ih1 _ _ _ _ _ _ _ _ _ _ _ _ _ _
   | exact ih2 _ _ _ _ _ _ _ _ _ _ _ _ _ _
   | exact LeO.none _
   | refine LeO.ite ?_ ?_
   | refine LeO.bind ?_ (fun _ => ?_)
theorem cairnlaw32_same.mono : ∀ a0 a1 a2 a3 a4 a5 a6 a7 a8 a9 a10 a11 k, LeO (cairnlaw32_same.f k a0 a1 a2 a3 a4 a5 a6 a7 a8 a9 a10 a11) (cairnlaw32_same.f (k + 1) a0 a1 a2 a3 a4 a5 a6 a7 a8 a9 a10 a11) := by
 intro a0 a1 a2 a3 a4 a5 a6 a7 a8 a9 a10 a11 k
 obtain ⟨ih0, ih1, ih2⟩ := cairnlaw32_same.mono_l k
 unfold cairnlaw32_same.f
 repeat' first
   | (with_reducible exact ih0 _ _ _ _ _ _ _ _ _ _ _ _ _)
   | (with_reducible exact ih1 _ _ _ _ _ _ _ _ _ _ _ _ _ _)
   | (with_reducible exact ih2 _ _ _ _ _ _ _ _ _ _ _ _ _ _)
   | (with_reducible exact LeO.refl _)
   | (with_reducible exact LeO.none _)
   | (with_reducible refine LeO.ite ?_ ?_)
   | (with_reducible refine LeO.bind ?_ (fun _ => ?_))
   | exact ih0 _ _ _ _ _ _ _ _ _ _ _ _ _
   | exact ih1 _ _ _ _ _ _ _ _ _ _ _ _ _ _
   | exact ih2 _ _ _ _ _ _ _ _ _ _ _ _ _ _
   | exact LeO.none _
   | refine LeO.ite ?_ ?_
   | refine LeO.bind ?_ (fun _ => ?_)
end Go.Proofs.YthhemephaabblaaGreatDoor.Q
namespace Go.Proofs.YthhemephaabblaaGreatDoor.Q
open Go.RowKit  Go.Proofs.YthhemephaabblaaGreatDoorW.PrintWords Go.Proofs.YthhemephaabblaaGreatDoorW.PrintLast Go.Proofs.YthhemephaabblaaGreatDoorW.PrintMore
attribute [local go_sem] max2_int min2_int max_two min_two max_three min_three max_four min_four
set_option linter.unusedVariables false
set_option linter.unusedSimpArgs false
def slices_Index_string_string.l0 : Nat → List ByteArray → ByteArray → Int → Int → Option (Int)
 | 0, _, _, _, _ => none
 | k + 1, x0, x1, x7, x8 => if x8 < x7 then (if 0 ≤ x8 then (if x8 < (x0.length : Int) then (if x1.toList = (rdOf ByteArray.empty x0 x8).toList then (some x8) else (slices_Index_string_string.l0 k x0 x1 x7 (wrap64 (x8 + 1)))) else (none)) else (none)) else (some (-1))
def slices_Index_string_string.f (k : Nat) (l0 : List ByteArray) (a1 : ByteArray) : Option (Int) := slices_Index_string_string.l0 k l0 a1 (l0.length : Int) 0
theorem slices_Index_string_string.mono_l : ∀ k, (∀ y0 y1 y2 y3, LeO (slices_Index_string_string.l0 k y0 y1 y2 y3) (slices_Index_string_string.l0 (k + 1) y0 y1 y2 y3))
 | 0 => fun _ _ _ _ r h => by simp [slices_Index_string_string.l0] at h
 | k + 1 => by
  have ih0 := slices_Index_string_string.mono_l k
  ·
   intro y0 y1 y2 y3
   unfold slices_Index_string_string.l0
   repeat' first
   | (with_reducible exact ih0 _ _ _ _)
   | (with_reducible exact LeO.refl _)
   | (with_reducible exact LeO.none _)
   | (with_reducible refine LeO.ite ?_ ?_)
   | (with_reducible refine LeO.bind ?_ (fun _ => ?_))
   | exact ih0 _ _ _ _
   | exact LeO.none _
   | refine LeO.ite ?_ ?_
   | refine LeO.bind ?_ (fun _ => ?_)
theorem slices_Index_string_string.mono : ∀ a0 a1 k, LeO (slices_Index_string_string.f k a0 a1) (slices_Index_string_string.f (k + 1) a0 a1) := by
 intro a0 a1 k
 have ih0 := slices_Index_string_string.mono_l k
 unfold slices_Index_string_string.f
 repeat' first
   | (with_reducible exact ih0 _ _ _ _)
   | (with_reducible exact LeO.refl _)
   | (with_reducible exact LeO.none _)
   | (with_reducible refine LeO.ite ?_ ?_)
   | (with_reducible refine LeO.bind ?_ (fun _ => ?_))
   | exact ih0 _ _ _ _
   | exact LeO.none _
   | refine LeO.ite ?_ ?_
   | refine LeO.bind ?_ (fun _ => ?_)
def query_place.f (k : Nat) (a0_0 : ByteArray) (l0_1 : List ByteArray) (a0_2 : Int) (l0_3 : List (List Int)) (a1 : ByteArray) : Option (Int) := (slices_Index_string_string.f k l0_1 a1).bind fun t285 => (some t285)
theorem query_place.mono : ∀ a0 a1 a2 a3 a4 k, LeO (query_place.f k a0 a1 a2 a3 a4) (query_place.f (k + 1) a0 a1 a2 a3 a4) := by
 intro a0 a1 a2 a3 a4 k
 unfold query_place.f
 repeat' first
   | (with_reducible exact slices_Index_string_string.mono _ _ _)
   | (with_reducible exact LeO.refl _)
   | (with_reducible exact LeO.none _)
   | (with_reducible refine LeO.ite ?_ ?_)
   | (with_reducible refine LeO.bind ?_ (fun _ => ?_))
   | exact slices_Index_string_string.mono _ _ _
   | exact LeO.none _
   | refine LeO.ite ?_ ?_
   | refine LeO.bind ?_ (fun _ => ?_)
def query_Query_asked.l0 : Nat → ByteArray → List (S37) → Int → Int → Option (ByteArray × Bool)
 | 0, _, _, _, _ => none
 | k + 1, x1, x9, x10, x11 => if x11 < x10 then (if 0 ≤ x11 then (if x11 < (x9.length : Int) then (if ((rd_T37 x9 x11).f1) = 1 then (if ((rd_T37 x9 x11).f0).toList = x1.toList then (some ((rd_T37 x9 x11).f2, true)) else (query_Query_asked.l0 k x1 x9 x10 (wrap64 (x11 + 1)))) else (query_Query_asked.l0 k x1 x9 x10 (wrap64 (x11 + 1)))) else (none)) else (none)) else (some ((⟨#[]⟩ : ByteArray), false))
def query_Query_asked.f (k : Nat) (l0_0 : List ByteArray) (a0_1 : ByteArray) (l0_2 : List (S37)) (a0_3 : ByteArray) (a0_4 : Bool) (a0_5 : Int) (a1 : ByteArray) : Option (ByteArray × Bool) := query_Query_asked.l0 k a1 l0_2 (l0_2.length : Int) 0
theorem query_Query_asked.mono_l : ∀ k, (∀ y0 y1 y2 y3, LeO (query_Query_asked.l0 k y0 y1 y2 y3) (query_Query_asked.l0 (k + 1) y0 y1 y2 y3))
 | 0 => fun _ _ _ _ r h => by simp [query_Query_asked.l0] at h
 | k + 1 => by
  have ih0 := query_Query_asked.mono_l k
  ·
   intro y0 y1 y2 y3
   unfold query_Query_asked.l0
   repeat' first
   | (with_reducible exact ih0 _ _ _ _)
   | (with_reducible exact LeO.refl _)
   | (with_reducible exact LeO.none _)
   | (with_reducible refine LeO.ite ?_ ?_)
   | (with_reducible refine LeO.bind ?_ (fun _ => ?_))
   | exact ih0 _ _ _ _
   | exact LeO.none _
   | refine LeO.ite ?_ ?_
   | refine LeO.bind ?_ (fun _ => ?_)
theorem query_Query_asked.mono : ∀ a0 a1 a2 a3 a4 a5 a6 k, LeO (query_Query_asked.f k a0 a1 a2 a3 a4 a5 a6) (query_Query_asked.f (k + 1) a0 a1 a2 a3 a4 a5 a6) := by
 intro a0 a1 a2 a3 a4 a5 a6 k
 have ih0 := query_Query_asked.mono_l k
 unfold query_Query_asked.f
 repeat' first
   | (with_reducible exact ih0 _ _ _ _)
   | (with_reducible exact LeO.refl _)
   | (with_reducible exact LeO.none _)
   | (with_reducible refine LeO.ite ?_ ?_)
   | (with_reducible refine LeO.bind ?_ (fun _ => ?_))
   | exact ih0 _ _ _ _
   | exact LeO.none _
   | refine LeO.ite ?_ ?_
   | refine LeO.bind ?_ (fun _ => ?_)
mutual
def query_Query_values.l0 : Nat → List ByteArray → List Int → Int → Int → List ByteArray → ByteArray → List (S37) → ByteArray → Bool → Int → ByteArray → List ByteArray → Int → List (List Int) → Option (List ByteArray)
 | 0, _, _, _, _, _, _, _, _, _, _, _, _, _, _ => none
 | k + 1, x7, x12, x13, x14, x290000, x290001, x290002, x290003, x290004, x290005, x291000, x291001, x291002, x291003 => if x14 < x13 then (if 0 ≤ x14 then (if x14 < (x12.length : Int) then (if (rd x12 x14) < 0 then (query_Query_values.j1 k x7 (rd x12 x14) x12 x13 x14 true x290000 x290001 x290002 x290003 x290004 x290005 x291000 x291001 x291002 x291003) else (query_Query_values.j1 k x7 (rd x12 x14) x12 x13 x14 (decide ((rd x12 x14) ≥ (x291001.length : Int))) x290000 x290001 x290002 x290003 x290004 x290005 x291000 x291001 x291002 x291003)) else (none)) else (none)) else (some x7)
def query_Query_values.j1 : Nat → List ByteArray → Int → List Int → Int → Int → Bool → List ByteArray → ByteArray → List (S37) → ByteArray → Bool → Int → ByteArray → List ByteArray → Int → List (List Int) → Option (List ByteArray)
 | 0, _, _, _, _, _, _, _, _, _, _, _, _, _, _, _, _ => none
 | k + 1, x7, x9, x12, x13, x14, x26, x290000, x290001, x290002, x290003, x290004, x290005, x291000, x291001, x291002, x291003 => if x26 = true then (some x7) else (if 0 ≤ x9 then (if x9 < (x291001.length : Int) then ((query_Query_asked.f k x290000 x290001 x290002 x290003 x290004 x290005 (rdOf ByteArray.empty x291001 x9)).bind fun bt293 => (if bt293.2 = true then (if x7.length < 8796093022208 then (query_Query_values.l0 k (x7 ++ [bt293.1]) x12 x13 (wrap64 (x14 + 1)) x290000 x290001 x290002 x290003 x290004 x290005 x291000 x291001 x291002 x291003) else (none)) else (some x7))) else (none)) else (none))
end
def query_Query_values.f (k : Nat) (l0_0 : List ByteArray) (a0_1 : ByteArray) (l0_2 : List (S37)) (a0_3 : ByteArray) (a0_4 : Bool) (a0_5 : Int) (a1_0 : ByteArray) (l1_1 : List ByteArray) (a1_2 : Int) (l1_3 : List (List Int)) (l2 : List Int) : Option (List ByteArray) := query_Query_values.l0 k ([] : List ByteArray) l2 (l2.length : Int) 0 l0_0 a0_1 l0_2 a0_3 a0_4 a0_5 a1_0 l1_1 a1_2 l1_3
theorem query_Query_values.mono_l : ∀ k, (∀ y0 y1 y2 y3 y4 y5 y6 y7 y8 y9 y10 y11 y12 y13, LeO (query_Query_values.l0 k y0 y1 y2 y3 y4 y5 y6 y7 y8 y9 y10 y11 y12 y13) (query_Query_values.l0 (k + 1) y0 y1 y2 y3 y4 y5 y6 y7 y8 y9 y10 y11 y12 y13)) ∧ (∀ y0 y1 y2 y3 y4 y5 y6 y7 y8 y9 y10 y11 y12 y13 y14 y15, LeO (query_Query_values.j1 k y0 y1 y2 y3 y4 y5 y6 y7 y8 y9 y10 y11 y12 y13 y14 y15) (query_Query_values.j1 (k + 1) y0 y1 y2 y3 y4 y5 y6 y7 y8 y9 y10 y11 y12 y13 y14 y15))
 | 0 => ⟨fun _ _ _ _ _ _ _ _ _ _ _ _ _ _ r h => by simp [query_Query_values.l0] at h, fun _ _ _ _ _ _ _ _ _ _ _ _ _ _ _ _ r h => by simp [query_Query_values.j1] at h⟩
 | k + 1 => by
  obtain ⟨ih0, ih1⟩ := query_Query_values.mono_l k
  refine ⟨?_, ?_⟩
  ·
   intro y0 y1 y2 y3 y4 y5 y6 y7 y8 y9 y10 y11 y12 y13
   unfold query_Query_values.l0
   repeat' first
   | (with_reducible exact ih0 _ _ _ _ _ _ _ _ _ _ _ _ _ _)
   | (with_reducible exact ih1 _ _ _ _ _ _ _ _ _ _ _ _ _ _ _ _)
   | (with_reducible exact query_Query_asked.mono _ _ _ _ _ _ _ _)
   | (with_reducible exact LeO.refl _)
   | (with_reducible exact LeO.none _)
   | (with_reducible refine LeO.ite ?_ ?_)
   | (with_reducible refine LeO.bind ?_ (fun _ => ?_))
   | exact ih0 _ _ _ _ _ _ _ _ _ _ _ _ _ _
   | exact ih1 _ _ _ _ _ _ _ _ _ _ _ _ _ _ _ _
   | exact query_Query_asked.mono _ _ _ _ _ _ _ _
   | exact LeO.none _
   | refine LeO.ite ?_ ?_
   | refine LeO.bind ?_ (fun _ => ?_)
  ·
   intro y0 y1 y2 y3 y4 y5 y6 y7 y8 y9 y10 y11 y12 y13 y14 y15
   unfold query_Query_values.j1
   repeat' first
   | (with_reducible exact ih0 _ _ _ _ _ _ _ _ _ _ _ _ _ _)
   | (with_reducible exact ih1 _ _ _ _ _ _ _ _ _ _ _ _ _ _ _ _)
   | (with_reducible exact query_Query_asked.mono _ _ _ _ _ _ _ _)
   | (with_reducible exact LeO.refl _)
   | (with_reducible exact LeO.none _)
   | (with_reducible refine LeO.ite ?_ ?_)
   | (with_reducible refine LeO.bind ?_ (fun _ => ?_))
   | exact ih0 _ _ _ _ _ _ _ _ _ _ _ _ _ _
   | exact ih1 _ _ _ _ _ _ _ _ _ _ _ _ _ _ _ _
   | exact query_Query_asked.mono _ _ _ _ _ _ _ _
   | exact LeO.none _
   | refine LeO.ite ?_ ?_
   | refine LeO.bind ?_ (fun _ => ?_)
theorem query_Query_values.mono : ∀ a0 a1 a2 a3 a4 a5 a6 a7 a8 a9 a10 k, LeO (query_Query_values.f k a0 a1 a2 a3 a4 a5 a6 a7 a8 a9 a10) (query_Query_values.f (k + 1) a0 a1 a2 a3 a4 a5 a6 a7 a8 a9 a10) := by
 intro a0 a1 a2 a3 a4 a5 a6 a7 a8 a9 a10 k
 obtain ⟨ih0, ih1⟩ := query_Query_values.mono_l k
 unfold query_Query_values.f
 repeat' first
   | (with_reducible exact ih0 _ _ _ _ _ _ _ _ _ _ _ _ _ _)
   | (with_reducible exact ih1 _ _ _ _ _ _ _ _ _ _ _ _ _ _ _ _)
   | (with_reducible exact query_Query_asked.mono _ _ _ _ _ _ _ _)
   | (with_reducible exact LeO.refl _)
   | (with_reducible exact LeO.none _)
   | (with_reducible refine LeO.ite ?_ ?_)
   | (with_reducible refine LeO.bind ?_ (fun _ => ?_))
   | exact ih0 _ _ _ _ _ _ _ _ _ _ _ _ _ _
   | exact ih1 _ _ _ _ _ _ _ _ _ _ _ _ _ _ _ _
   | exact query_Query_asked.mono _ _ _ _ _ _ _ _
   | exact LeO.none _
   | refine LeO.ite ?_ ?_
   | refine LeO.bind ?_ (fun _ => ?_)
end Go.Proofs.YthhemephaabblaaGreatDoor.Q
namespace Go.Proofs.YthhemephaabblaaGreatDoor.Q
open Go.RowKit  Go.Proofs.YthhemephaabblaaGreatDoorW.PrintWords Go.Proofs.YthhemephaabblaaGreatDoorW.PrintLast Go.Proofs.YthhemephaabblaaGreatDoorW.PrintMore
attribute [local go_sem] max2_int min2_int max_two min_two max_three min_three max_four min_four
set_option linter.unusedVariables false
set_option linter.unusedSimpArgs false
def query_key.l0 : Nat → List Int → Int → ByteArray → List ByteArray → Int → List (List Int) → Option (List Int)
 | 0, _, _, _, _, _, _ => none
 | k + 1, x3, x4, x299000, x299001, x299002, x299003 => if x4 < (mn x299002 (x299001.length : Int)) then (if x3.length < 17592186044416 then (query_key.l0 k (x3 ++ [x4]) (wrap64 (x4 + 1)) x299000 x299001 x299002 x299003) else (none)) else (some x3)
def query_key.f (k : Nat) (a0_0 : ByteArray) (l0_1 : List ByteArray) (a0_2 : Int) (l0_3 : List (List Int)) : Option (List Int) := query_key.l0 k (([] : List Int)) 0 a0_0 l0_1 a0_2 l0_3
theorem query_key.mono_l : ∀ k, (∀ y0 y1 y2 y3 y4 y5, LeO (query_key.l0 k y0 y1 y2 y3 y4 y5) (query_key.l0 (k + 1) y0 y1 y2 y3 y4 y5))
 | 0 => fun _ _ _ _ _ _ r h => by simp [query_key.l0] at h
 | k + 1 => by
  have ih0 := query_key.mono_l k
  ·
   intro y0 y1 y2 y3 y4 y5
   unfold query_key.l0
   repeat' first
   | (with_reducible exact ih0 _ _ _ _ _ _)
   | (with_reducible exact LeO.refl _)
   | (with_reducible exact LeO.none _)
   | (with_reducible refine LeO.ite ?_ ?_)
   | (with_reducible refine LeO.bind ?_ (fun _ => ?_))
   | exact ih0 _ _ _ _ _ _
   | exact LeO.none _
   | refine LeO.ite ?_ ?_
   | refine LeO.bind ?_ (fun _ => ?_)
theorem query_key.mono : ∀ a0 a1 a2 a3 k, LeO (query_key.f k a0 a1 a2 a3) (query_key.f (k + 1) a0 a1 a2 a3) := by
 intro a0 a1 a2 a3 k
 have ih0 := query_key.mono_l k
 unfold query_key.f
 repeat' first
   | (with_reducible exact ih0 _ _ _ _ _ _)
   | (with_reducible exact LeO.refl _)
   | (with_reducible exact LeO.none _)
   | (with_reducible refine LeO.ite ?_ ?_)
   | (with_reducible refine LeO.bind ?_ (fun _ => ?_))
   | exact ih0 _ _ _ _ _ _
   | exact LeO.none _
   | refine LeO.ite ?_ ?_
   | refine LeO.bind ?_ (fun _ => ?_)
def cairnref32_place.l0 : Nat → List ByteArray → ByteArray → Int → Option (Int)
 | 0, _, _, _ => none
 | k + 1, x0, x1, x5 => if x5 < (x0.length : Int) then (if 0 ≤ x5 then (if (rdOf ByteArray.empty x0 x5).toList = x1.toList then (some x5) else (cairnref32_place.l0 k x0 x1 (wrap64 (x5 + 1)))) else (none)) else (some (-1))
def cairnref32_place.f (k : Nat) (l0 : List ByteArray) (a1 : ByteArray) : Option (Int) := cairnref32_place.l0 k l0 a1 0
theorem cairnref32_place.mono_l : ∀ k, (∀ y0 y1 y2, LeO (cairnref32_place.l0 k y0 y1 y2) (cairnref32_place.l0 (k + 1) y0 y1 y2))
 | 0 => fun _ _ _ r h => by simp [cairnref32_place.l0] at h
 | k + 1 => by
  have ih0 := cairnref32_place.mono_l k
  ·
   intro y0 y1 y2
   unfold cairnref32_place.l0
   repeat' first
   | (with_reducible exact ih0 _ _ _)
   | (with_reducible exact LeO.refl _)
   | (with_reducible exact LeO.none _)
   | (with_reducible refine LeO.ite ?_ ?_)
   | (with_reducible refine LeO.bind ?_ (fun _ => ?_))
   | exact ih0 _ _ _
   | exact LeO.none _
   | refine LeO.ite ?_ ?_
   | refine LeO.bind ?_ (fun _ => ?_)
theorem cairnref32_place.mono : ∀ a0 a1 k, LeO (cairnref32_place.f k a0 a1) (cairnref32_place.f (k + 1) a0 a1) := by
 intro a0 a1 k
 have ih0 := cairnref32_place.mono_l k
 unfold cairnref32_place.f
 repeat' first
   | (with_reducible exact ih0 _ _ _)
   | (with_reducible exact LeO.refl _)
   | (with_reducible exact LeO.none _)
   | (with_reducible refine LeO.ite ?_ ?_)
   | (with_reducible refine LeO.bind ?_ (fun _ => ?_))
   | exact ih0 _ _ _
   | exact LeO.none _
   | refine LeO.ite ?_ ?_
   | refine LeO.bind ?_ (fun _ => ?_)
mutual
def cairnref32_known.l0 : Nat → List ByteArray → Int → List ByteArray → ByteArray → List (S70) → ByteArray → Bool → Int → Option (Bool)
 | 0, _, _, _, _, _, _, _, _ => none
 | k + 1, x0, x5, x311000, x311001, x311002, x311003, x311004, x311005 => if x5 < (x311000.length : Int) then (if 0 ≤ x5 then ((cairnref32_place.f k x0 (rdOf ByteArray.empty x311000 x5)).bind fun t312 => (if t312 < 0 then (some false) else (cairnref32_known.l0 k x0 (wrap64 (x5 + 1)) x311000 x311001 x311002 x311003 x311004 x311005))) else (none)) else (cairnref32_known.l1 k x0 0 x311000 x311001 x311002 x311003 x311004 x311005)
def cairnref32_known.l1 : Nat → List ByteArray → Int → List ByteArray → ByteArray → List (S70) → ByteArray → Bool → Int → Option (Bool)
 | 0, _, _, _, _, _, _, _, _ => none
 | k + 1, x0, x6, x311000, x311001, x311002, x311003, x311004, x311005 => if x6 < (x311002.length : Int) then (if 0 ≤ x6 then ((cairnref32_place.f k x0 ((rd_T70 x311002 x6).f0)).bind fun t314 => (if t314 < 0 then (some false) else (cairnref32_known.l1 k x0 (wrap64 (x6 + 1)) x311000 x311001 x311002 x311003 x311004 x311005))) else (none)) else (if x311003.toList = ([] : List UInt8) then (some true) else ((cairnref32_place.f k x0 x311003).bind fun t315 => (some (decide (t315 ≥ 0)))))
end
def cairnref32_known.f (k : Nat) (l0 : List ByteArray) (l1_0 : List ByteArray) (a1_1 : ByteArray) (l1_2 : List (S70)) (a1_3 : ByteArray) (a1_4 : Bool) (a1_5 : Int) : Option (Bool) := cairnref32_known.l0 k l0 0 l1_0 a1_1 l1_2 a1_3 a1_4 a1_5
theorem cairnref32_known.mono_l : ∀ k, (∀ y0 y1 y2 y3 y4 y5 y6 y7, LeO (cairnref32_known.l0 k y0 y1 y2 y3 y4 y5 y6 y7) (cairnref32_known.l0 (k + 1) y0 y1 y2 y3 y4 y5 y6 y7)) ∧ (∀ y0 y1 y2 y3 y4 y5 y6 y7, LeO (cairnref32_known.l1 k y0 y1 y2 y3 y4 y5 y6 y7) (cairnref32_known.l1 (k + 1) y0 y1 y2 y3 y4 y5 y6 y7))
 | 0 => ⟨fun _ _ _ _ _ _ _ _ r h => by simp [cairnref32_known.l0] at h, fun _ _ _ _ _ _ _ _ r h => by simp [cairnref32_known.l1] at h⟩
 | k + 1 => by
  obtain ⟨ih0, ih1⟩ := cairnref32_known.mono_l k
  refine ⟨?_, ?_⟩
  ·
   intro y0 y1 y2 y3 y4 y5 y6 y7
   unfold cairnref32_known.l0
   repeat' first
   | (with_reducible exact ih0 _ _ _ _ _ _ _ _)
   | (with_reducible exact ih1 _ _ _ _ _ _ _ _)
   | (with_reducible exact cairnref32_place.mono _ _ _)
   | (with_reducible exact LeO.refl _)
   | (with_reducible exact LeO.none _)
   | (with_reducible refine LeO.ite ?_ ?_)
   | (with_reducible refine LeO.bind ?_ (fun _ => ?_))
   | exact ih0 _ _ _ _ _ _ _ _
   | exact ih1 _ _ _ _ _ _ _ _
   | exact cairnref32_place.mono _ _ _
   | exact LeO.none _
   | refine LeO.ite ?_ ?_
   | refine LeO.bind ?_ (fun _ => ?_)
  ·
   intro y0 y1 y2 y3 y4 y5 y6 y7
   unfold cairnref32_known.l1
   repeat' first
   | (with_reducible exact ih0 _ _ _ _ _ _ _ _)
   | (with_reducible exact ih1 _ _ _ _ _ _ _ _)
   | (with_reducible exact cairnref32_place.mono _ _ _)
   | (with_reducible exact LeO.refl _)
   | (with_reducible exact LeO.none _)
   | (with_reducible refine LeO.ite ?_ ?_)
   | (with_reducible refine LeO.bind ?_ (fun _ => ?_))
   | exact ih0 _ _ _ _ _ _ _ _
   | exact ih1 _ _ _ _ _ _ _ _
   | exact cairnref32_place.mono _ _ _
   | exact LeO.none _
   | refine LeO.ite ?_ ?_
   | refine LeO.bind ?_ (fun _ => ?_)
theorem cairnref32_known.mono : ∀ a0 a1 a2 a3 a4 a5 a6 k, LeO (cairnref32_known.f k a0 a1 a2 a3 a4 a5 a6) (cairnref32_known.f (k + 1) a0 a1 a2 a3 a4 a5 a6) := by
 intro a0 a1 a2 a3 a4 a5 a6 k
 obtain ⟨ih0, ih1⟩ := cairnref32_known.mono_l k
 unfold cairnref32_known.f
 repeat' first
   | (with_reducible exact ih0 _ _ _ _ _ _ _ _)
   | (with_reducible exact ih1 _ _ _ _ _ _ _ _)
   | (with_reducible exact cairnref32_place.mono _ _ _)
   | (with_reducible exact LeO.refl _)
   | (with_reducible exact LeO.none _)
   | (with_reducible refine LeO.ite ?_ ?_)
   | (with_reducible refine LeO.bind ?_ (fun _ => ?_))
   | exact ih0 _ _ _ _ _ _ _ _
   | exact ih1 _ _ _ _ _ _ _ _
   | exact cairnref32_place.mono _ _ _
   | exact LeO.none _
   | refine LeO.ite ?_ ?_
   | refine LeO.bind ?_ (fun _ => ?_)
def cairnref32_Asked.l0 : Nat → ByteArray → Int → List ByteArray → ByteArray → List (S70) → ByteArray → Bool → Int → Option (ByteArray × Bool)
 | 0, _, _, _, _, _, _, _, _ => none
 | k + 1, x1, x6, x317000, x317001, x317002, x317003, x317004, x317005 => if x6 < (x317002.length : Int) then (if 0 ≤ x6 then (if ((rd_T70 x317002 x6).f1) = 1 then (if ((rd_T70 x317002 x6).f0).toList = x1.toList then (some ((rd_T70 x317002 x6).f2, true)) else (cairnref32_Asked.l0 k x1 (wrap64 (x6 + 1)) x317000 x317001 x317002 x317003 x317004 x317005)) else (cairnref32_Asked.l0 k x1 (wrap64 (x6 + 1)) x317000 x317001 x317002 x317003 x317004 x317005)) else (none)) else (some ((⟨#[]⟩ : ByteArray), false))
def cairnref32_Asked.f (k : Nat) (l0_0 : List ByteArray) (a0_1 : ByteArray) (l0_2 : List (S70)) (a0_3 : ByteArray) (a0_4 : Bool) (a0_5 : Int) (a1 : ByteArray) : Option (ByteArray × Bool) := cairnref32_Asked.l0 k a1 0 l0_0 a0_1 l0_2 a0_3 a0_4 a0_5
theorem cairnref32_Asked.mono_l : ∀ k, (∀ y0 y1 y2 y3 y4 y5 y6 y7, LeO (cairnref32_Asked.l0 k y0 y1 y2 y3 y4 y5 y6 y7) (cairnref32_Asked.l0 (k + 1) y0 y1 y2 y3 y4 y5 y6 y7))
 | 0 => fun _ _ _ _ _ _ _ _ r h => by simp [cairnref32_Asked.l0] at h
 | k + 1 => by
  have ih0 := cairnref32_Asked.mono_l k
  ·
   intro y0 y1 y2 y3 y4 y5 y6 y7
   unfold cairnref32_Asked.l0
   repeat' first
   | (with_reducible exact ih0 _ _ _ _ _ _ _ _)
   | (with_reducible exact LeO.refl _)
   | (with_reducible exact LeO.none _)
   | (with_reducible refine LeO.ite ?_ ?_)
   | (with_reducible refine LeO.bind ?_ (fun _ => ?_))
   | exact ih0 _ _ _ _ _ _ _ _
   | exact LeO.none _
   | refine LeO.ite ?_ ?_
   | refine LeO.bind ?_ (fun _ => ?_)
theorem cairnref32_Asked.mono : ∀ a0 a1 a2 a3 a4 a5 a6 k, LeO (cairnref32_Asked.f k a0 a1 a2 a3 a4 a5 a6) (cairnref32_Asked.f (k + 1) a0 a1 a2 a3 a4 a5 a6) := by
 intro a0 a1 a2 a3 a4 a5 a6 k
 have ih0 := cairnref32_Asked.mono_l k
 unfold cairnref32_Asked.f
 repeat' first
   | (with_reducible exact ih0 _ _ _ _ _ _ _ _)
   | (with_reducible exact LeO.refl _)
   | (with_reducible exact LeO.none _)
   | (with_reducible refine LeO.ite ?_ ?_)
   | (with_reducible refine LeO.bind ?_ (fun _ => ?_))
   | exact ih0 _ _ _ _ _ _ _ _
   | exact LeO.none _
   | refine LeO.ite ?_ ?_
   | refine LeO.bind ?_ (fun _ => ?_)
end Go.Proofs.YthhemephaabblaaGreatDoor.Q
namespace Go.Proofs.YthhemephaabblaaGreatDoor.Q
open Go.RowKit  Go.Proofs.YthhemephaabblaaGreatDoorW.PrintWords Go.Proofs.YthhemephaabblaaGreatDoorW.PrintLast Go.Proofs.YthhemephaabblaaGreatDoorW.PrintMore
attribute [local go_sem] max2_int min2_int max_two min_two max_three min_three max_four min_four
set_option linter.unusedVariables false
set_option linter.unusedSimpArgs false
mutual
def cairnref32_count.l0 : Nat → List Int → Int → ByteArray → List ByteArray → Int → List (List Int) → List ByteArray → ByteArray → List (S70) → ByteArray → Bool → Int → Option (Int)
 | 0, _, _, _, _, _, _, _, _, _, _, _, _ => none
 | k + 1, x2, x7, x321000, x321001, x321002, x321003, x322000, x322001, x322002, x322003, x322004, x322005 => if x7 < (x2.length : Int) then (if 0 ≤ x7 then (if (rd x2 x7) ≥ 0 then (cairnref32_count.j1 k x2 x7 (decide ((rd x2 x7) < (x321001.length : Int))) x321000 x321001 x321002 x321003 x322000 x322001 x322002 x322003 x322004 x322005) else (cairnref32_count.j1 k x2 x7 false x321000 x321001 x321002 x321003 x322000 x322001 x322002 x322003 x322004 x322005)) else (none)) else (cairnref32_count.j1 k x2 x7 false x321000 x321001 x321002 x321003 x322000 x322001 x322002 x322003 x322004 x322005)
def cairnref32_count.j1 : Nat → List Int → Int → Bool → ByteArray → List ByteArray → Int → List (List Int) → List ByteArray → ByteArray → List (S70) → ByteArray → Bool → Int → Option (Int)
 | 0, _, _, _, _, _, _, _, _, _, _, _, _, _ => none
 | k + 1, x2, x7, x30, x321000, x321001, x321002, x321003, x322000, x322001, x322002, x322003, x322004, x322005 => if x30 = true then (if 0 ≤ x7 then (if x7 < (x2.length : Int) then (if 0 ≤ (rd x2 x7) then (if (rd x2 x7) < (x321001.length : Int) then ((cairnref32_Asked.f k x322000 x322001 x322002 x322003 x322004 x322005 (rdOf ByteArray.empty x321001 (rd x2 x7))).bind fun bt326 => (if bt326.2 = true then (cairnref32_count.l0 k x2 (wrap64 (x7 + 1)) x321000 x321001 x321002 x321003 x322000 x322001 x322002 x322003 x322004 x322005) else (some x7))) else (none)) else (none)) else (none)) else (none)) else (some x7)
end
def cairnref32_count.f (k : Nat) (a0_0 : ByteArray) (l0_1 : List ByteArray) (a0_2 : Int) (l0_3 : List (List Int)) (l1_0 : List ByteArray) (a1_1 : ByteArray) (l1_2 : List (S70)) (a1_3 : ByteArray) (a1_4 : Bool) (a1_5 : Int) (l2 : List Int) : Option (Int) := cairnref32_count.l0 k l2 0 a0_0 l0_1 a0_2 l0_3 l1_0 a1_1 l1_2 a1_3 a1_4 a1_5
theorem cairnref32_count.mono_l : ∀ k, (∀ y0 y1 y2 y3 y4 y5 y6 y7 y8 y9 y10 y11, LeO (cairnref32_count.l0 k y0 y1 y2 y3 y4 y5 y6 y7 y8 y9 y10 y11) (cairnref32_count.l0 (k + 1) y0 y1 y2 y3 y4 y5 y6 y7 y8 y9 y10 y11)) ∧ (∀ y0 y1 y2 y3 y4 y5 y6 y7 y8 y9 y10 y11 y12, LeO (cairnref32_count.j1 k y0 y1 y2 y3 y4 y5 y6 y7 y8 y9 y10 y11 y12) (cairnref32_count.j1 (k + 1) y0 y1 y2 y3 y4 y5 y6 y7 y8 y9 y10 y11 y12))
 | 0 => ⟨fun _ _ _ _ _ _ _ _ _ _ _ _ r h => by simp [cairnref32_count.l0] at h, fun _ _ _ _ _ _ _ _ _ _ _ _ _ r h => by simp [cairnref32_count.j1] at h⟩
 | k + 1 => by
  obtain ⟨ih0, ih1⟩ := cairnref32_count.mono_l k
  refine ⟨?_, ?_⟩
  ·
   intro y0 y1 y2 y3 y4 y5 y6 y7 y8 y9 y10 y11
   unfold cairnref32_count.l0
   repeat' first
   | (with_reducible exact ih0 _ _ _ _ _ _ _ _ _ _ _ _)
   | (with_reducible exact ih1 _ _ _ _ _ _ _ _ _ _ _ _ _)
   | (with_reducible exact cairnref32_Asked.mono _ _ _ _ _ _ _ _)
   | (with_reducible exact LeO.refl _)
   | (with_reducible exact LeO.none _)
   | (with_reducible refine LeO.ite ?_ ?_)
   | (with_reducible refine LeO.bind ?_ (fun _ => ?_))
   | exact ih0 _ _ _ _ _ _ _ _ _ _ _ _
   | exact ih1 _ _ _ _ _ _ _ _ _ _ _ _ _
   | exact cairnref32_Asked.mono _ _ _ _ _ _ _ _
   | exact LeO.none _
   | refine LeO.ite ?_ ?_
   | refine LeO.bind ?_ (fun _ => ?_)
  ·
   intro y0 y1 y2 y3 y4 y5 y6 y7 y8 y9 y10 y11 y12
   unfold cairnref32_count.j1
   repeat' first
   | (with_reducible exact ih0 _ _ _ _ _ _ _ _ _ _ _ _)
   | (with_reducible exact ih1 _ _ _ _ _ _ _ _ _ _ _ _ _)
   | (with_reducible exact cairnref32_Asked.mono _ _ _ _ _ _ _ _)
   | (with_reducible exact LeO.refl _)
   | (with_reducible exact LeO.none _)
   | (with_reducible refine LeO.ite ?_ ?_)
   | (with_reducible refine LeO.bind ?_ (fun _ => ?_))
   | exact ih0 _ _ _ _ _ _ _ _ _ _ _ _
   | exact ih1 _ _ _ _ _ _ _ _ _ _ _ _ _
   | exact cairnref32_Asked.mono _ _ _ _ _ _ _ _
   | exact LeO.none _
   | refine LeO.ite ?_ ?_
   | refine LeO.bind ?_ (fun _ => ?_)
theorem cairnref32_count.mono : ∀ a0 a1 a2 a3 a4 a5 a6 a7 a8 a9 a10 k, LeO (cairnref32_count.f k a0 a1 a2 a3 a4 a5 a6 a7 a8 a9 a10) (cairnref32_count.f (k + 1) a0 a1 a2 a3 a4 a5 a6 a7 a8 a9 a10) := by
 intro a0 a1 a2 a3 a4 a5 a6 a7 a8 a9 a10 k
 obtain ⟨ih0, ih1⟩ := cairnref32_count.mono_l k
 unfold cairnref32_count.f
 repeat' first
   | (with_reducible exact ih0 _ _ _ _ _ _ _ _ _ _ _ _)
   | (with_reducible exact ih1 _ _ _ _ _ _ _ _ _ _ _ _ _)
   | (with_reducible exact cairnref32_Asked.mono _ _ _ _ _ _ _ _)
   | (with_reducible exact LeO.refl _)
   | (with_reducible exact LeO.none _)
   | (with_reducible refine LeO.ite ?_ ?_)
   | (with_reducible refine LeO.bind ?_ (fun _ => ?_))
   | exact ih0 _ _ _ _ _ _ _ _ _ _ _ _
   | exact ih1 _ _ _ _ _ _ _ _ _ _ _ _ _
   | exact cairnref32_Asked.mono _ _ _ _ _ _ _ _
   | exact LeO.none _
   | refine LeO.ite ?_ ?_
   | refine LeO.bind ?_ (fun _ => ?_)
def cairnref32_count.B2 : List Nat := [0, 0, 2, 7, 15, 31, 31, 127, 255, 511, 1023, 2047, 4095, 4095, 16383, 32767, 4095, 69631, 200703, 524287, 1048575]
end Go.Proofs.YthhemephaabblaaGreatDoor.Q
namespace Go.Proofs.YthhemephaabblaaGreatDoor.Q
open Go.RowKit  Go.Proofs.YthhemephaabblaaGreatDoorW.PrintWords Go.Proofs.YthhemephaabblaaGreatDoorW.PrintLast Go.Proofs.YthhemephaabblaaGreatDoorW.PrintMore
attribute [local go_sem] max2_int min2_int max_two min_two max_three min_three max_four min_four
set_option linter.unusedVariables false
set_option linter.unusedSimpArgs false
def cairnref32_Keys.l0 : Nat → List Int → Int → ByteArray → List ByteArray → Int → List (List Int) → Option (List Int)
 | 0, _, _, _, _, _, _ => none
 | k + 1, x3, x4, x329000, x329001, x329002, x329003 => if x4 < x329002 then (if x4 < (x329001.length : Int) then (if x3.length < 17592186044416 then (cairnref32_Keys.l0 k (x3 ++ [x4]) (wrap64 (x4 + 1)) x329000 x329001 x329002 x329003) else (none)) else (some x3)) else (some x3)
def cairnref32_Keys.f (k : Nat) (a0_0 : ByteArray) (l0_1 : List ByteArray) (a0_2 : Int) (l0_3 : List (List Int)) : Option (List Int) := cairnref32_Keys.l0 k ([] : List Int) 0 a0_0 l0_1 a0_2 l0_3
theorem cairnref32_Keys.mono_l : ∀ k, (∀ y0 y1 y2 y3 y4 y5, LeO (cairnref32_Keys.l0 k y0 y1 y2 y3 y4 y5) (cairnref32_Keys.l0 (k + 1) y0 y1 y2 y3 y4 y5))
 | 0 => fun _ _ _ _ _ _ r h => by simp [cairnref32_Keys.l0] at h
 | k + 1 => by
  have ih0 := cairnref32_Keys.mono_l k
  ·
   intro y0 y1 y2 y3 y4 y5
   unfold cairnref32_Keys.l0
   repeat' first
   | (with_reducible exact ih0 _ _ _ _ _ _)
   | (with_reducible exact LeO.refl _)
   | (with_reducible exact LeO.none _)
   | (with_reducible refine LeO.ite ?_ ?_)
   | (with_reducible refine LeO.bind ?_ (fun _ => ?_))
   | exact ih0 _ _ _ _ _ _
   | exact LeO.none _
   | refine LeO.ite ?_ ?_
   | refine LeO.bind ?_ (fun _ => ?_)
theorem cairnref32_Keys.mono : ∀ a0 a1 a2 a3 k, LeO (cairnref32_Keys.f k a0 a1 a2 a3) (cairnref32_Keys.f (k + 1) a0 a1 a2 a3) := by
 intro a0 a1 a2 a3 k
 have ih0 := cairnref32_Keys.mono_l k
 unfold cairnref32_Keys.f
 repeat' first
   | (with_reducible exact ih0 _ _ _ _ _ _)
   | (with_reducible exact LeO.refl _)
   | (with_reducible exact LeO.none _)
   | (with_reducible refine LeO.ite ?_ ?_)
   | (with_reducible refine LeO.bind ?_ (fun _ => ?_))
   | exact ih0 _ _ _ _ _ _
   | exact LeO.none _
   | refine LeO.ite ?_ ?_
   | refine LeO.bind ?_ (fun _ => ?_)
end Go.Proofs.YthhemephaabblaaGreatDoor.Q
namespace Go.Proofs.YthhemephaabblaaGreatDoor.Q
open Go.RowKit  Go.Proofs.YthhemephaabblaaGreatDoorW.PrintWords Go.Proofs.YthhemephaabblaaGreatDoorW.PrintLast Go.Proofs.YthhemephaabblaaGreatDoorW.PrintMore
attribute [local go_sem] max2_int min2_int max_two min_two max_three min_three max_four min_four
set_option linter.unusedVariables false
set_option linter.unusedSimpArgs false
end Go.Proofs.YthhemephaabblaaGreatDoor.Q
namespace Go.Proofs.YthhemephaabblaaGreatDoor.Hq
open Go.RowKit Go.Proofs.YthhemephaabblaaGreatDoorW.PrintWords Go.Proofs.YthhemephaabblaaGreatDoorW.PrintLast Go.Proofs.YthhemephaabblaaGreatDoorW.PrintMore Go.Proofs.YthhemephaabblaaGreatDoor Go.Proofs.YthhemephaabblaaGreatDoor.Q
set_option linter.unusedVariables false
set_option linter.unusedSimpArgs false
theorem strB_data (b : ByteArray) : strB b.data.toList = b := by
  apply ByteArray.ext
  show b.data.toList.toArray = b.data
  simp
theorem w64n (i : Nat) (h : i < 4611686018427387904) : wrap64 ((i : Int) + 1) = ((i + 1 : Nat) : Int) := by unfold wrap64; omega
theorem bt_strB (s : List UInt8) (i : Nat) (h : i < s.length) : bt (strB s) (i : Int) = (s[i].toNat : Int) := by
  unfold bt
  rw [dif_pos (by rw [strB_size]; simpa using h)]
  rfl
theorem loop_toList (b : ByteArray) (n i : Nat) (r : List UInt8) (hn : b.size - i = n) : ByteArray.toList.loop b i r = r.reverse ++ b.data.toList.drop i := by
  induction n generalizing i r with
  | zero =>
    unfold ByteArray.toList.loop
    rw [if_neg (by omega), List.drop_eq_nil_of_le (by simp; show b.size ≤ i; omega), List.append_nil]
  | succ n ih =>
    unfold ByteArray.toList.loop
    have hlt : i < b.size := by omega
    rw [if_pos hlt, ih (i + 1) _ (by omega), List.reverse_cons, List.append_assoc]
    congr 1
    have h2 : i < b.data.toList.length := by simpa using hlt
    rw [List.drop_eq_getElem_cons h2]
    have e : b.get! i = b.data.toList[i] := by
      show b.data[i]! = _
      rw [getElem!_pos b.data i hlt, Array.getElem_toList]
    rw [e]
    rfl
theorem toList_strB (s : List UInt8) : (strB s).toList = s := by
  unfold ByteArray.toList
  rw [loop_toList (strB s) _ 0 [] rfl]
  rfl
theorem extract_strB (s : List UInt8) (i j : Nat) : (strB s).extract i j = strB ((s.drop i).take (j - i)) := by
  apply ByteArray.ext
  rw [ByteArray.data_extract]
  show s.toArray.extract i j = ((s.drop i).take (j - i)).toArray
  rw [List.extract_toArray, List.extract_eq_take_drop]
theorem append_strB (s t : List UInt8) : strB s ++ strB t = strB (s ++ t) := by
  apply ByteArray.ext
  rw [ByteArray.data_append]
  show s.toArray ++ t.toArray = (s ++ t).toArray
  simp
theorem smI (c : UInt8) : isSm c = decide (97 ≤ (c.toNat : Int) ∧ (c.toNat : Int) ≤ 122) := by
  unfold isSm
  rw [Bool.eq_iff_iff]
  simp only [decide_eq_true_eq, UInt8.le_iff_toNat_le]
  show (97 ≤ c.toNat ∧ c.toNat ≤ 122) ↔ _
  omega
theorem dgI (c : UInt8) : isDg c = decide (48 ≤ (c.toNat : Int) ∧ (c.toNat : Int) ≤ 57) := by
  unfold isDg
  rw [Bool.eq_iff_iff]
  simp only [decide_eq_true_eq, UInt8.le_iff_toNat_le]
  show (48 ≤ c.toNat ∧ c.toNat ≤ 57) ↔ _
  omega
theorem small_f (c : UInt8) : query_small.f (c.toNat : Int) = some (isSm c) := by
  unfold query_small.f
  rw [smI]
  by_cases h : 97 ≤ (c.toNat : Int)
  · rw [if_pos h]; simp [h]
  · rw [if_neg h]; simp [h]
theorem digit_f (c : UInt8) : query_digit.f (c.toNat : Int) = some (isDg c) := by
  unfold query_digit.f
  rw [dgI]
  by_cases h : 48 ≤ (c.toNat : Int)
  · rw [if_pos h]; simp [h]
  · rw [if_neg h]; simp [h]
theorem rsmall_f (c : UInt8) : cairnref32_small.f (c.toNat : Int) = some (isSm c) := small_f c
theorem rdigit_f (c : UInt8) : cairnref32_digit.f (c.toNat : Int) = some (isDg c) := digit_f c
theorem wd95 (c : UInt8) : isWd c = (isSm c || (isDg c || decide ((c.toNat : Int) = 95))) := by
  have h95 : (decide (c = 95)) = decide ((c.toNat : Int) = 95) := by rw [Bool.eq_iff_iff]; simp [← UInt8.toNat_inj]; omega
  unfold isWd
  rw [← h95]
  simp
def nmB (s : List UInt8) : Bool := match s with
  | [] => false
  | c :: _ => decide (s.length ≤ 16) && isSm c && s.all isWd
theorem named_l0 (s : List UInt8) (hs : s.length ≤ 1000000000000) : ∀ (n k i : Nat), s.length - i = n → n < k → i ≤ s.length → query_named.l0 k (strB s) (i : Int) = some ((s.drop i).all isWd)
  | n, 0, i, _, hk, _ => by omega
  | n, k + 1, i, hn, hk, hi => by
    rw [query_named.l0, strB_size]
    by_cases hlt : i < s.length
    · rw [if_pos (by omega), if_pos (by omega), bt_strB s i hlt, small_f, digit_f, w64n i (by omega), List.drop_eq_getElem_cons hlt, List.all_cons, wd95]
      have ih := named_l0 s hs (n - 1) k (i + 1) (by omega) (by omega) (by omega)
      rw [ih]
      simp only [Option.bind_some]
      cases isSm s[i] with
      | true => simp
      | false =>
        cases isDg s[i] with
        | true => simp
        | false =>
          by_cases h : (s[i].toNat : Int) = 95
          · simp [h]
          · simp [h]
    · obtain rfl : i = s.length := by omega
      rw [if_neg (by omega), List.drop_length]; rfl
theorem named_f (s : List UInt8) (hs : s.length ≤ 1000000000000) (k : Nat) (hk : 20 < k) : query_named.f k (strB s) = some (nmB s) := by
  obtain ⟨k, rfl⟩ : ∃ m, k = m + 1 := ⟨k - 1, by omega⟩
  unfold query_named.f
  rw [toList_strB, strB_size]
  match s, hs with
  | [], _ => simp [query_named.j0, nmB]
  | c :: l, hs =>
    rw [if_neg (by simp)]
    by_cases h16 : (c :: l).length ≤ 16
    · rw [if_neg (by omega), if_pos (by simp only [List.length_cons]; omega)]
      have hb : bt (strB (c :: l)) 0 = (c.toNat : Int) := bt_strB (c :: l) 0 (by simp)
      rw [hb, small_f]
      simp only [Option.bind_some, query_named.j0, nmB, decide_eq_true h16, Bool.true_and]
      cases hc : isSm c with
      | true =>
        have h1 := named_l0 (c :: l) hs _ k 1 rfl (by simp only [List.length_cons] at h16 ⊢; omega) (by simp)
        simp only [Bool.not_true, Bool.false_eq_true, if_false]
        rw [show (1 : Int) = ((1 : Nat) : Int) from rfl, h1]
        simp [isWd, hc]
      | false => simp
    · rw [if_pos (by omega)]
      simp [query_named.j0, nmB]
      intro h
      simp only [List.length_cons] at h16
      omega
theorem rname_l0 (s : List UInt8) (hs : s.length ≤ 1000000000000) : ∀ (n k i : Nat), s.length - i = n → n < k → i ≤ s.length → cairnref32_Name.l0 k (strB s) (i : Int) = some ((s.drop i).all isWd)
  | n, 0, i, _, hk, _ => by omega
  | n, k + 1, i, hn, hk, hi => by
    rw [cairnref32_Name.l0, strB_size]
    by_cases hlt : i < s.length
    · rw [if_pos (by omega), if_pos (by omega), bt_strB s i hlt, rsmall_f, rdigit_f, w64n i (by omega), List.drop_eq_getElem_cons hlt, List.all_cons, wd95]
      have ih := rname_l0 s hs (n - 1) k (i + 1) (by omega) (by omega) (by omega)
      rw [ih]
      simp only [Option.bind_some]
      cases isSm s[i] with
      | true => simp
      | false =>
        cases isDg s[i] with
        | true => simp
        | false =>
          by_cases h : (s[i].toNat : Int) = 95
          · simp [h]
          · simp [h]
    · obtain rfl : i = s.length := by omega
      rw [if_neg (by omega), List.drop_length]; rfl
theorem rname_f (s : List UInt8) (hs : s.length ≤ 1000000000000) (k : Nat) (hk : 20 < k) : cairnref32_Name.f k (strB s) = some (nmB s) := by
  obtain ⟨k, rfl⟩ : ∃ m, k = m + 1 := ⟨k - 1, by omega⟩
  unfold cairnref32_Name.f
  rw [strB_size]
  match s, hs with
  | [], _ => simp [cairnref32_Name.j0, nmB]
  | c :: l, hs =>
    rw [if_neg (by simp only [List.length_cons]; omega)]
    by_cases h16 : (c :: l).length ≤ 16
    · rw [if_neg (by omega), if_pos (by simp only [List.length_cons]; omega)]
      have hb : bt (strB (c :: l)) 0 = (c.toNat : Int) := bt_strB (c :: l) 0 (by simp)
      rw [hb, rsmall_f]
      simp only [Option.bind_some, cairnref32_Name.j0, nmB, decide_eq_true h16, Bool.true_and]
      cases hc : isSm c with
      | true =>
        have h1 := rname_l0 (c :: l) hs _ k 0 rfl (by simp only [List.length_cons] at h16 ⊢; omega) (by simp)
        simp only [Bool.not_true, Bool.false_eq_true, if_false]
        rw [show (0 : Int) = ((0 : Nat) : Int) from rfl, h1]
        simp
      | false => simp
    · rw [if_pos (by omega)]
      simp [cairnref32_Name.j0, nmB]
      intro h
      simp only [List.length_cons] at h16
      omega
structure Tst where
  col : List UInt8
  op : Int
  val : List UInt8
structure Qry where
  cols : List (List UInt8)
  tab : List UInt8
  wh : List Tst
  ord : List UInt8
  down : Bool
  lim : Int
def t37 (t : Tst) : S37 := ⟨strB t.col, t.op, strB t.val⟩
def t70 (t : Tst) : S70 := ⟨strB t.col, t.op, strB t.val⟩
def tstB (t : Tst) : Bool := nmB t.col && decide (1 ≤ t.op) && decide (t.op ≤ 6) && decide (t.val.length ≤ 1024)
def mayQ (q : Qry) : Bool := decide (q.cols.length ≤ 8) && decide (q.wh.length ≤ 8) && nmB q.tab && q.cols.all nmB && q.wh.all tstB && (if q.ord = [] then !q.down else nmB q.ord) && decide (0 ≤ q.lim) && decide (q.lim ≤ 999999999)
def okQ (q : Qry) : Prop := (∀ c ∈ q.cols, c.length ≤ 1000000000000) ∧ q.tab.length ≤ 1000000000000 ∧ (∀ t ∈ q.wh, t.col.length ≤ 1000000000000 ∧ t.val.length ≤ 1000000000000) ∧ q.ord.length ≤ 1000000000000 ∧ q.cols.length ≤ 1000000000000 ∧ q.wh.length ≤ 1000000000000
theorem rdOf_map (l : List (List UInt8)) (i : Nat) (h : i < l.length) : rdOf ByteArray.empty (l.map strB) (i : Int) = strB l[i] := by
  unfold rdOf
  rw [Int.toNat_natCast, List.getD_eq_getElem?_getD, List.getElem?_eq_getElem (by simpa using h)]
  simp
theorem rd37 (l : List Tst) (i : Nat) (h : i < l.length) : rd_T37 (l.map t37) (i : Int) = t37 l[i] := by
  unfold rd_T37
  rw [Int.toNat_natCast, List.getD_eq_getElem?_getD, List.getElem?_eq_getElem (by simpa using h)]
  simp
theorem rd70 (l : List Tst) (i : Nat) (h : i < l.length) : rd_T70 (l.map t70) (i : Int) = t70 l[i] := by
  unfold rd_T70
  rw [Int.toNat_natCast, List.getD_eq_getElem?_getD, List.getElem?_eq_getElem (by simpa using h)]
  simp
end Go.Proofs.YthhemephaabblaaGreatDoor.Hq
namespace Go.Proofs
open Go.Shelf
def Tryz.lays156_ren : Go.Shelf.Ren := ⟨fun | 156 => 27 | 165 => 50 | 166 => 51 | 169 => 52 | 240 => 74 | 241 => 75 | 276 => 88 | 277 => 89 | n => n, fun | 31 => 22 | 9 => 9 | 3 => 3 | 4 => 4 | 0 => 0 | 20 => 20 | 72 => 97 | 76 => 92 | 70 => 94 | 37 => 95 | 75 => 91 | 127 => 125 | 164 => 137 | 5 => 5 | 80 => 68 | n => n, fun | n => n⟩
theorem Tryz.lays156 : Go.Proofs.Lays.n156 Tryz.prog Tryz.lays156_ren := {
  mixed := by kernel_rfl
  f156 := Tryz.func27.trans (congrArg some (by kernel_rfl))
  f165 := Tryz.func50.trans (congrArg some (by kernel_rfl))
  f166 := Tryz.func51.trans (congrArg some (by kernel_rfl))
  f169 := Tryz.func52.trans (congrArg some (by kernel_rfl))
  f240 := Tryz.func74.trans (congrArg some (by kernel_rfl))
  f241 := Tryz.func75.trans (congrArg some (by kernel_rfl))
  f276 := Tryz.func88.trans (congrArg some (by kernel_rfl))
  f277 := Tryz.func89.trans (congrArg some (by kernel_rfl))
  t0 := Tryz.underlying0
  a0 := Tryz.isAgg0
  z0 := Tryz.sizeOf0
  v0 := Tryz.zeroValue0
  t3 := Tryz.underlying3
  a3 := Tryz.isAgg3
  z3 := Tryz.sizeOf3
  v3 := Tryz.zeroValue3
  t4 := Tryz.underlying4
  a4 := Tryz.isAgg4
  z4 := Tryz.sizeOf4
  v4 := Tryz.zeroValue4
  t9 := Tryz.underlying9
  a9 := Tryz.isAgg9
  z9 := Tryz.sizeOf9
  v9 := Tryz.zeroValue9
  t20 := Tryz.underlying20
  a20 := Tryz.isAgg20
  z20 := Tryz.sizeOf20
  v20 := Tryz.zeroValue20
  t31 := Tryz.underlying22
  a31 := Tryz.isAgg22
  z31 := Tryz.sizeOf22
  v31 := Tryz.zeroValue22
  t37 := Tryz.underlying95
  a37 := Tryz.isAgg95
  z37 := Tryz.sizeOf95
  v37 := Tryz.zeroValue95
  t70 := Tryz.underlying94
  a70 := Tryz.isAgg94
  z70 := Tryz.sizeOf94
  v70 := Tryz.zeroValue94
  t72 := Tryz.underlying97
  a72 := Tryz.isAgg97
  z72 := Tryz.sizeOf97
  v72 := Tryz.zeroValue97
  t75 := Tryz.underlying91
  a75 := Tryz.isAgg91
  z75 := Tryz.sizeOf91
  v75 := Tryz.zeroValue91
  t76 := Tryz.underlying92
  a76 := Tryz.isAgg92
  z76 := Tryz.sizeOf92
  v76 := Tryz.zeroValue92
  t127 := Tryz.underlying125
  a127 := Tryz.isAgg125
  z127 := Tryz.sizeOf125
  v127 := Tryz.zeroValue125
  t164 := Tryz.underlying137
  a164 := Tryz.isAgg137
  z164 := Tryz.sizeOf137
  v164 := Tryz.zeroValue137 }
theorem Tryz.Builder_Extra_156 : Builder.Extra Tryz.prog Tryz.lays156_ren := {
  sizeBuilder := by kernel_rfl
  liesBuilder := by kernel_rfl
  t5 := Tryz.underlying5
  a5 := Tryz.isAgg5
  z5 := Tryz.sizeOf5
  v5 := Tryz.zeroValue5
  infoByte := by kernel_rfl
  cellsByte := by kernel_rfl
  sizeByte := by kernel_rfl
  neB5 := by decide }
open Go.RowKit in
theorem Tryz.strings_Join (bk o c : Nat) (xs : List ByteArray) (sep : ByteArray) (w : World)
    (hcells : ∀ (j : Nat) x, xs[j]? = some x → w.cell? ⟨bk, o + j, none⟩ = some (.string x))
    (hbk : bk < w.heap.size) (hN : xs.length ≤ 140737488355328) (hcap : xs.length ≤ c)
    (hlen : (Lib.join (xs.map (·.data.toList)) sep.data.toList).length ≤ 281474976710656) :
    Calls Tryz.prog 27 #[.slice (some ⟨bk, o, none⟩) xs.length c, .string sep] w fun e w' => e = .returned (.string ⟨(Lib.join (xs.map (·.data.toList)) sep.data.toList).toArray⟩) ∧ Below w.heap.size w w' := Any.strings_Join_48 Tryz.lays156 Tryz.Builder_Extra_156 bk o c xs sep w hcells hbk hN hcap hlen
def Tryz.laysM171_ren : Go.Shelf.Ren := ⟨fun | 171 => 31 | 243 => 55 | 246 => 79 | 283 => 96 | 284 => 97 | 285 => 98 | 286 => 99 | 129 => 111 | 317 => 110 | 318 => 112 | 319 => 113 | 320 => 114 | 337 => 126 | 338 => 127 | n => n, fun | 3 => 3 | 9 => 9 | 2 => 2 | 4 => 4 | 171 => 155 | 0 => 0 | 53 => 156 | 37 => 95 | 5 => 5 | 173 => 159 | 212 => 183 | 51 => 102 | 20 => 20 | 213 => 184 | 46 => 163 | 232 => 205 | 233 => 206 | n => n, fun | 17 => 3 | 18 => 4 | 19 => 5 | n => n⟩
theorem Tryz.laysM171 : Go.Proofs.LaysM.n171 Tryz.prog Tryz.laysM171_ren := {
  mixed := by kernel_rfl
  f129 := Tryz.func111.trans (congrArg some (by kernel_rfl))
  f171 := Tryz.func31.trans (congrArg some (by kernel_rfl))
  f243 := Tryz.func55.trans (congrArg some (by kernel_rfl))
  f246 := Tryz.func79.trans (congrArg some (by kernel_rfl))
  f283 := Tryz.func96.trans (congrArg some (by kernel_rfl))
  f284 := Tryz.func97.trans (congrArg some (by kernel_rfl))
  f285 := Tryz.func98.trans (congrArg some (by kernel_rfl))
  f286 := Tryz.func99.trans (congrArg some (by kernel_rfl))
  f317 := Tryz.func110.trans (congrArg some (by kernel_rfl))
  f318 := Tryz.func112.trans (congrArg some (by kernel_rfl))
  f319 := Tryz.func113.trans (congrArg some (by kernel_rfl))
  f320 := Tryz.func114.trans (congrArg some (by kernel_rfl))
  f337 := Tryz.func126.trans (congrArg some (by kernel_rfl))
  f338 := Tryz.func127.trans (congrArg some (by kernel_rfl))
  t0 := Tryz.underlying0
  a0 := Tryz.isAgg0
  z0 := Tryz.sizeOf0
  v0 := Tryz.zeroValue0
  t2 := Tryz.underlying2
  a2 := Tryz.isAgg2
  z2 := Tryz.sizeOf2
  v2 := Tryz.zeroValue2
  t3 := Tryz.underlying3
  a3 := Tryz.isAgg3
  z3 := Tryz.sizeOf3
  v3 := Tryz.zeroValue3
  t4 := Tryz.underlying4
  a4 := Tryz.isAgg4
  z4 := Tryz.sizeOf4
  v4 := Tryz.zeroValue4
  t5 := Tryz.underlying5
  a5 := Tryz.isAgg5
  z5 := Tryz.sizeOf5
  v5 := Tryz.zeroValue5
  t9 := Tryz.underlying9
  a9 := Tryz.isAgg9
  z9 := Tryz.sizeOf9
  v9 := Tryz.zeroValue9
  t20 := Tryz.underlying20
  a20 := Tryz.isAgg20
  z20 := Tryz.sizeOf20
  v20 := Tryz.zeroValue20
  t37 := Tryz.underlying95
  a37 := Tryz.isAgg95
  z37 := Tryz.sizeOf95
  v37 := Tryz.zeroValue95
  t46 := Tryz.underlying163
  a46 := Tryz.isAgg163
  z46 := Tryz.sizeOf163
  v46 := Tryz.zeroValue163
  t51 := Tryz.underlying102
  a51 := Tryz.isAgg102
  z51 := Tryz.sizeOf102
  v51 := Tryz.zeroValue102
  t53 := Tryz.underlying156
  a53 := Tryz.isAgg156
  z53 := Tryz.sizeOf156
  v53 := Tryz.zeroValue156
  t171 := Tryz.underlying155
  a171 := Tryz.isAgg155
  z171 := Tryz.sizeOf155
  v171 := Tryz.zeroValue155
  t173 := Tryz.underlying159
  a173 := Tryz.isAgg159
  z173 := Tryz.sizeOf159
  v173 := Tryz.zeroValue159
  t212 := Tryz.underlying183
  a212 := Tryz.isAgg183
  z212 := Tryz.sizeOf183
  v212 := Tryz.zeroValue183
  t213 := Tryz.underlying184
  a213 := Tryz.isAgg184
  z213 := Tryz.sizeOf184
  t232 := Tryz.underlying205
  a232 := Tryz.isAgg205
  z232 := Tryz.sizeOf205
  v232 := Tryz.zeroValue205
  t233 := Tryz.underlying206
  a233 := Tryz.isAgg206
  z233 := Tryz.sizeOf206
  v233 := Tryz.zeroValue206
  g17 := by kernel_rfl
  g18 := by kernel_rfl
  g19 := by kernel_rfl
  i0 := by kernel_rfl
  i2 := by kernel_rfl
  i3 := by kernel_rfl
  i4 := by kernel_rfl
  i5 := by kernel_rfl
  i9 := by kernel_rfl
  i20 := by kernel_rfl
  i37 := by kernel_rfl
  i46 := by kernel_rfl
  i51 := by kernel_rfl
  i53 := by kernel_rfl
  i171 := by kernel_rfl
  i173 := by kernel_rfl
  i212 := by kernel_rfl
  i232 := by kernel_rfl
  i233 := by kernel_rfl
  m17 := by kernel_rfl
  m18 := by kernel_rfl
  m19 := by kernel_rfl }
open Go.RowKit Go.Sort Go.Lib in
theorem Tryz.strconv_Itoa (n : Int) (h0 : -9223372036854775808 ≤ n) (h1 : n ≤ 9223372036854775807) (w : World) (htab : Lib.TabIs Tryz.prog w "internal/strconv.uint64pow10" .u64 Lib.pow10Tab) :
    Calls Tryz.prog 31 #[.int .i64 n] w fun e w' => e = .returned (.string ⟨(Lib.itoa n).toArray⟩) ∧ ∃ k os, w' = grow (w.drewN k) os := Any.strconv_Itoa Tryz.laysM171 n h0 h1 w htab
def Tryz.lays172_ren : Go.Shelf.Ren := ⟨fun | 172 => 48 | 244 => 72 | 245 => 73 | 247 => 83 | 279 => 84 | 280 => 85 | 281 => 86 | 282 => 87 | 287 => 101 | 316 => 102 | 171 => 31 | 205 => 103 | 321 => 115 | 322 => 116 | 243 => 55 | 246 => 79 | 283 => 96 | 284 => 97 | 285 => 98 | 286 => 99 | 129 => 111 | 317 => 110 | 318 => 112 | 319 => 113 | 320 => 114 | 337 => 126 | 338 => 127 | n => n, fun | 9 => 9 | 3 => 3 | 75 => 91 | 76 => 92 | 4 => 4 | 5 => 5 | 167 => 131 | 37 => 95 | 0 => 0 | 85 => 132 | 2 => 2 | 168 => 134 | 53 => 156 | 175 => 161 | 46 => 163 | 210 => 165 | 127 => 125 | 145 => 190 | 143 => 188 | 21 => 21 | 171 => 155 | 173 => 159 | 212 => 183 | 51 => 102 | 20 => 20 | 213 => 184 | 232 => 205 | 233 => 206 | 80 => 68 | n => n, fun | 15 => 0 | 16 => 1 | 17 => 3 | 18 => 4 | 19 => 5 | n => n⟩
theorem Tryz.lays172 : Go.Proofs.Lays.n172 Tryz.prog Tryz.lays172_ren := {
  mixed := by kernel_rfl
  f129 := Tryz.func111.trans (congrArg some (by kernel_rfl))
  f171 := Tryz.func31.trans (congrArg some (by kernel_rfl))
  f172 := Tryz.func48.trans (congrArg some (by kernel_rfl))
  f205 := Tryz.func103.trans (congrArg some (by kernel_rfl))
  f243 := Tryz.func55.trans (congrArg some (by kernel_rfl))
  f244 := Tryz.func72.trans (congrArg some (by kernel_rfl))
  f245 := Tryz.func73.trans (congrArg some (by kernel_rfl))
  f246 := Tryz.func79.trans (congrArg some (by kernel_rfl))
  f247 := Tryz.func83.trans (congrArg some (by kernel_rfl))
  f279 := Tryz.func84.trans (congrArg some (by kernel_rfl))
  f280 := Tryz.func85.trans (congrArg some (by kernel_rfl))
  f281 := Tryz.func86.trans (congrArg some (by kernel_rfl))
  f282 := Tryz.func87.trans (congrArg some (by kernel_rfl))
  f283 := Tryz.func96.trans (congrArg some (by kernel_rfl))
  f284 := Tryz.func97.trans (congrArg some (by kernel_rfl))
  f285 := Tryz.func98.trans (congrArg some (by kernel_rfl))
  f286 := Tryz.func99.trans (congrArg some (by kernel_rfl))
  f287 := Tryz.func101.trans (congrArg some (by kernel_rfl))
  f316 := Tryz.func102.trans (congrArg some (by kernel_rfl))
  f317 := Tryz.func110.trans (congrArg some (by kernel_rfl))
  f318 := Tryz.func112.trans (congrArg some (by kernel_rfl))
  f319 := Tryz.func113.trans (congrArg some (by kernel_rfl))
  f320 := Tryz.func114.trans (congrArg some (by kernel_rfl))
  f321 := Tryz.func115.trans (congrArg some (by kernel_rfl))
  f322 := Tryz.func116.trans (congrArg some (by kernel_rfl))
  f337 := Tryz.func126.trans (congrArg some (by kernel_rfl))
  f338 := Tryz.func127.trans (congrArg some (by kernel_rfl))
  t0 := Tryz.underlying0
  a0 := Tryz.isAgg0
  z0 := Tryz.sizeOf0
  v0 := Tryz.zeroValue0
  t2 := Tryz.underlying2
  a2 := Tryz.isAgg2
  z2 := Tryz.sizeOf2
  v2 := Tryz.zeroValue2
  t3 := Tryz.underlying3
  a3 := Tryz.isAgg3
  z3 := Tryz.sizeOf3
  v3 := Tryz.zeroValue3
  t4 := Tryz.underlying4
  a4 := Tryz.isAgg4
  z4 := Tryz.sizeOf4
  v4 := Tryz.zeroValue4
  t5 := Tryz.underlying5
  a5 := Tryz.isAgg5
  z5 := Tryz.sizeOf5
  v5 := Tryz.zeroValue5
  t9 := Tryz.underlying9
  a9 := Tryz.isAgg9
  z9 := Tryz.sizeOf9
  v9 := Tryz.zeroValue9
  t20 := Tryz.underlying20
  a20 := Tryz.isAgg20
  z20 := Tryz.sizeOf20
  v20 := Tryz.zeroValue20
  t21 := Tryz.underlying21
  a21 := Tryz.isAgg21
  z21 := Tryz.sizeOf21
  v21 := Tryz.zeroValue21
  t37 := Tryz.underlying95
  a37 := Tryz.isAgg95
  z37 := Tryz.sizeOf95
  v37 := Tryz.zeroValue95
  t46 := Tryz.underlying163
  a46 := Tryz.isAgg163
  z46 := Tryz.sizeOf163
  v46 := Tryz.zeroValue163
  t51 := Tryz.underlying102
  a51 := Tryz.isAgg102
  z51 := Tryz.sizeOf102
  v51 := Tryz.zeroValue102
  t53 := Tryz.underlying156
  a53 := Tryz.isAgg156
  z53 := Tryz.sizeOf156
  v53 := Tryz.zeroValue156
  t75 := Tryz.underlying91
  a75 := Tryz.isAgg91
  z75 := Tryz.sizeOf91
  v75 := Tryz.zeroValue91
  t76 := Tryz.underlying92
  a76 := Tryz.isAgg92
  z76 := Tryz.sizeOf92
  v76 := Tryz.zeroValue92
  t85 := Tryz.underlying132
  a85 := Tryz.isAgg132
  z85 := Tryz.sizeOf132
  v85 := Tryz.zeroValue132
  t127 := Tryz.underlying125
  a127 := Tryz.isAgg125
  z127 := Tryz.sizeOf125
  v127 := Tryz.zeroValue125
  t143 := Tryz.underlying188
  a143 := Tryz.isAgg188
  z143 := Tryz.sizeOf188
  v143 := Tryz.zeroValue188
  t145 := Tryz.underlying190
  a145 := Tryz.isAgg190
  z145 := Tryz.sizeOf190
  v145 := Tryz.zeroValue190
  t167 := Tryz.underlying131
  a167 := Tryz.isAgg131
  z167 := Tryz.sizeOf131
  v167 := Tryz.zeroValue131
  t168 := Tryz.underlying134
  a168 := Tryz.isAgg134
  z168 := Tryz.sizeOf134
  v168 := Tryz.zeroValue134
  t171 := Tryz.underlying155
  a171 := Tryz.isAgg155
  z171 := Tryz.sizeOf155
  v171 := Tryz.zeroValue155
  t173 := Tryz.underlying159
  a173 := Tryz.isAgg159
  z173 := Tryz.sizeOf159
  v173 := Tryz.zeroValue159
  t175 := Tryz.underlying161
  a175 := Tryz.isAgg161
  z175 := Tryz.sizeOf161
  v175 := Tryz.zeroValue161
  t210 := Tryz.underlying165
  a210 := Tryz.isAgg165
  z210 := Tryz.sizeOf165
  v210 := Tryz.zeroValue165
  t212 := Tryz.underlying183
  a212 := Tryz.isAgg183
  z212 := Tryz.sizeOf183
  v212 := Tryz.zeroValue183
  t213 := Tryz.underlying184
  a213 := Tryz.isAgg184
  z213 := Tryz.sizeOf184
  t232 := Tryz.underlying205
  a232 := Tryz.isAgg205
  z232 := Tryz.sizeOf205
  v232 := Tryz.zeroValue205
  t233 := Tryz.underlying206
  a233 := Tryz.isAgg206
  z233 := Tryz.sizeOf206
  v233 := Tryz.zeroValue206
  g15 := by kernel_rfl
  g16 := by kernel_rfl
  g17 := by kernel_rfl
  g18 := by kernel_rfl
  g19 := by kernel_rfl }
theorem Tryz.strconv_Atoi (s : ByteArray) (n : Int) (hl : s.size ≤ 18) (h : Lib.atoi s.data.toList = some n) (w : World) :
    Calls Tryz.prog 48 #[.string s] w fun e w' => e = .returned (.tuple #[.int .i64 n, .nilIface]) ∧ ∃ t, w' = Lib.bytesWorld w 5 t := Any.strconv_Atoi Tryz.lays172 s n hl h w
def Tryz.lays138_ren : Go.Shelf.Ren := ⟨fun | 138 => 164 | 195 => 165 | 218 => 166 | 143 => 167 | 219 => 168 | 217 => 169 | 225 => 170 | 224 => 171 | 267 => 172 | 266 => 173 | 314 => 174 | n => n, fun | 9 => 9 | 3 => 3 | 4 => 4 | 5 => 5 | 0 => 0 | 46 => 163 | 146 => 235 | 51 => 102 | n => n, fun | 1 => 2 | n => n⟩
theorem Tryz.lays138 : Go.Proofs.Lays.n138 Tryz.prog Tryz.lays138_ren := {
  mixed := by kernel_rfl
  f138 := Tryz.func164.trans (congrArg some (by kernel_rfl))
  f143 := Tryz.func167.trans (congrArg some (by kernel_rfl))
  f195 := Tryz.func165.trans (congrArg some (by kernel_rfl))
  f217 := Tryz.func169.trans (congrArg some (by kernel_rfl))
  f218 := Tryz.func166.trans (congrArg some (by kernel_rfl))
  f219 := Tryz.func168.trans (congrArg some (by kernel_rfl))
  f224 := Tryz.func171.trans (congrArg some (by kernel_rfl))
  f225 := Tryz.func170.trans (congrArg some (by kernel_rfl))
  f266 := Tryz.func173.trans (congrArg some (by kernel_rfl))
  f267 := Tryz.func172.trans (congrArg some (by kernel_rfl))
  f314 := Tryz.func174.trans (congrArg some (by kernel_rfl))
  t0 := Tryz.underlying0
  a0 := Tryz.isAgg0
  z0 := Tryz.sizeOf0
  v0 := Tryz.zeroValue0
  t3 := Tryz.underlying3
  a3 := Tryz.isAgg3
  z3 := Tryz.sizeOf3
  v3 := Tryz.zeroValue3
  t4 := Tryz.underlying4
  a4 := Tryz.isAgg4
  z4 := Tryz.sizeOf4
  v4 := Tryz.zeroValue4
  t5 := Tryz.underlying5
  a5 := Tryz.isAgg5
  z5 := Tryz.sizeOf5
  v5 := Tryz.zeroValue5
  t9 := Tryz.underlying9
  a9 := Tryz.isAgg9
  z9 := Tryz.sizeOf9
  v9 := Tryz.zeroValue9
  t46 := Tryz.underlying163
  a46 := Tryz.isAgg163
  z46 := Tryz.sizeOf163
  v46 := Tryz.zeroValue163
  t51 := Tryz.underlying102
  a51 := Tryz.isAgg102
  z51 := Tryz.sizeOf102
  v51 := Tryz.zeroValue102
  t146 := Tryz.underlying235
  a146 := Tryz.isAgg235
  z146 := Tryz.sizeOf235
  v146 := Tryz.zeroValue235
  g1 := by kernel_rfl }
theorem Tryz.strings_Count_one (s : ByteArray) (c : UInt8) (w : World) :
    Calls Tryz.prog 164 #[.string s, .string ⟨#[c]⟩] w fun e w' => e = .returned (.int .i64 (Lib.countByte s.data.toList c)) ∧ w' = w := Any.strings_Count_one Tryz.lays138 s c w
def Tryz.laysC172_ren : Go.Shelf.Ren := ⟨fun | 172 => 48 | 244 => 72 | 245 => 73 | 247 => 83 | 279 => 84 | 280 => 85 | 281 => 86 | 282 => 87 | 287 => 101 | 316 => 102 | 171 => 31 | 205 => 103 | 321 => 115 | 322 => 116 | 243 => 55 | 246 => 79 | 283 => 96 | 284 => 97 | 285 => 98 | 286 => 99 | 129 => 111 | 317 => 110 | 318 => 112 | 319 => 113 | 320 => 114 | 337 => 126 | 338 => 127 | n => n, fun | 9 => 9 | 3 => 3 | 75 => 91 | 76 => 92 | 4 => 4 | 5 => 5 | 167 => 131 | 37 => 95 | 0 => 0 | 85 => 132 | 2 => 2 | 168 => 134 | 53 => 156 | 175 => 161 | 46 => 163 | 210 => 165 | 127 => 125 | 145 => 190 | 143 => 188 | 21 => 21 | 171 => 155 | 173 => 159 | 212 => 183 | 51 => 102 | 20 => 20 | 213 => 184 | 232 => 205 | 233 => 206 | 80 => 68 | n => n, fun | 15 => 0 | 16 => 1 | 17 => 3 | 18 => 4 | 19 => 5 | n => n⟩
theorem Tryz.laysC172 : Go.Proofs.LaysC.n172 Tryz.prog Tryz.laysC172_ren := {
  mixed := by kernel_rfl
  f129 := Tryz.func111.trans (congrArg some (by kernel_rfl))
  f171 := Tryz.func31.trans (congrArg some (by kernel_rfl))
  f172 := Tryz.func48.trans (congrArg some (by kernel_rfl))
  f205 := Tryz.func103.trans (congrArg some (by kernel_rfl))
  f243 := Tryz.func55.trans (congrArg some (by kernel_rfl))
  f244 := Tryz.func72.trans (congrArg some (by kernel_rfl))
  f245 := Tryz.func73.trans (congrArg some (by kernel_rfl))
  f246 := Tryz.func79.trans (congrArg some (by kernel_rfl))
  f247 := Tryz.func83.trans (congrArg some (by kernel_rfl))
  f279 := Tryz.func84.trans (congrArg some (by kernel_rfl))
  f280 := Tryz.func85.trans (congrArg some (by kernel_rfl))
  f281 := Tryz.func86.trans (congrArg some (by kernel_rfl))
  f282 := Tryz.func87.trans (congrArg some (by kernel_rfl))
  f283 := Tryz.func96.trans (congrArg some (by kernel_rfl))
  f284 := Tryz.func97.trans (congrArg some (by kernel_rfl))
  f285 := Tryz.func98.trans (congrArg some (by kernel_rfl))
  f286 := Tryz.func99.trans (congrArg some (by kernel_rfl))
  f287 := Tryz.func101.trans (congrArg some (by kernel_rfl))
  f316 := Tryz.func102.trans (congrArg some (by kernel_rfl))
  f317 := Tryz.func110.trans (congrArg some (by kernel_rfl))
  f318 := Tryz.func112.trans (congrArg some (by kernel_rfl))
  f319 := Tryz.func113.trans (congrArg some (by kernel_rfl))
  f320 := Tryz.func114.trans (congrArg some (by kernel_rfl))
  f321 := Tryz.func115.trans (congrArg some (by kernel_rfl))
  f322 := Tryz.func116.trans (congrArg some (by kernel_rfl))
  f337 := Tryz.func126.trans (congrArg some (by kernel_rfl))
  f338 := Tryz.func127.trans (congrArg some (by kernel_rfl))
  t0 := Tryz.underlying0
  a0 := Tryz.isAgg0
  z0 := Tryz.sizeOf0
  v0 := Tryz.zeroValue0
  t2 := Tryz.underlying2
  a2 := Tryz.isAgg2
  z2 := Tryz.sizeOf2
  v2 := Tryz.zeroValue2
  t3 := Tryz.underlying3
  a3 := Tryz.isAgg3
  z3 := Tryz.sizeOf3
  v3 := Tryz.zeroValue3
  t4 := Tryz.underlying4
  a4 := Tryz.isAgg4
  z4 := Tryz.sizeOf4
  v4 := Tryz.zeroValue4
  t5 := Tryz.underlying5
  a5 := Tryz.isAgg5
  z5 := Tryz.sizeOf5
  v5 := Tryz.zeroValue5
  t9 := Tryz.underlying9
  a9 := Tryz.isAgg9
  z9 := Tryz.sizeOf9
  v9 := Tryz.zeroValue9
  t20 := Tryz.underlying20
  a20 := Tryz.isAgg20
  z20 := Tryz.sizeOf20
  v20 := Tryz.zeroValue20
  t21 := Tryz.underlying21
  a21 := Tryz.isAgg21
  z21 := Tryz.sizeOf21
  v21 := Tryz.zeroValue21
  t37 := Tryz.underlying95
  a37 := Tryz.isAgg95
  z37 := Tryz.sizeOf95
  v37 := Tryz.zeroValue95
  t46 := Tryz.underlying163
  a46 := Tryz.isAgg163
  z46 := Tryz.sizeOf163
  v46 := Tryz.zeroValue163
  t51 := Tryz.underlying102
  a51 := Tryz.isAgg102
  z51 := Tryz.sizeOf102
  v51 := Tryz.zeroValue102
  t53 := Tryz.underlying156
  a53 := Tryz.isAgg156
  z53 := Tryz.sizeOf156
  v53 := Tryz.zeroValue156
  t75 := Tryz.underlying91
  a75 := Tryz.isAgg91
  z75 := Tryz.sizeOf91
  v75 := Tryz.zeroValue91
  t76 := Tryz.underlying92
  a76 := Tryz.isAgg92
  z76 := Tryz.sizeOf92
  v76 := Tryz.zeroValue92
  t85 := Tryz.underlying132
  a85 := Tryz.isAgg132
  z85 := Tryz.sizeOf132
  v85 := Tryz.zeroValue132
  t127 := Tryz.underlying125
  a127 := Tryz.isAgg125
  z127 := Tryz.sizeOf125
  v127 := Tryz.zeroValue125
  t143 := Tryz.underlying188
  a143 := Tryz.isAgg188
  z143 := Tryz.sizeOf188
  v143 := Tryz.zeroValue188
  t145 := Tryz.underlying190
  a145 := Tryz.isAgg190
  z145 := Tryz.sizeOf190
  v145 := Tryz.zeroValue190
  t167 := Tryz.underlying131
  a167 := Tryz.isAgg131
  z167 := Tryz.sizeOf131
  v167 := Tryz.zeroValue131
  t168 := Tryz.underlying134
  a168 := Tryz.isAgg134
  z168 := Tryz.sizeOf134
  v168 := Tryz.zeroValue134
  t171 := Tryz.underlying155
  a171 := Tryz.isAgg155
  z171 := Tryz.sizeOf155
  v171 := Tryz.zeroValue155
  t173 := Tryz.underlying159
  a173 := Tryz.isAgg159
  z173 := Tryz.sizeOf159
  v173 := Tryz.zeroValue159
  t175 := Tryz.underlying161
  a175 := Tryz.isAgg161
  z175 := Tryz.sizeOf161
  v175 := Tryz.zeroValue161
  t210 := Tryz.underlying165
  a210 := Tryz.isAgg165
  z210 := Tryz.sizeOf165
  v210 := Tryz.zeroValue165
  t212 := Tryz.underlying183
  a212 := Tryz.isAgg183
  z212 := Tryz.sizeOf183
  v212 := Tryz.zeroValue183
  t213 := Tryz.underlying184
  a213 := Tryz.isAgg184
  z213 := Tryz.sizeOf184
  t232 := Tryz.underlying205
  a232 := Tryz.isAgg205
  z232 := Tryz.sizeOf205
  v232 := Tryz.zeroValue205
  t233 := Tryz.underlying206
  a233 := Tryz.isAgg206
  z233 := Tryz.sizeOf206
  v233 := Tryz.zeroValue206
  g15 := by kernel_rfl
  g16 := by kernel_rfl
  g17 := by kernel_rfl
  g18 := by kernel_rfl
  g19 := by kernel_rfl
  t80 := Tryz.underlying68
  a80 := Tryz.isAgg68
  z80 := Tryz.sizeOf68
  v80 := Tryz.zeroValue68
  i0 := by kernel_rfl
  i2 := by kernel_rfl
  i3 := by kernel_rfl
  i4 := by kernel_rfl
  i5 := by kernel_rfl
  i9 := by kernel_rfl
  i20 := by kernel_rfl
  i21 := by kernel_rfl
  i37 := by kernel_rfl
  i46 := by kernel_rfl
  i51 := by kernel_rfl
  i53 := by kernel_rfl
  i75 := by kernel_rfl
  i76 := by kernel_rfl
  i80 := by kernel_rfl
  i85 := by kernel_rfl
  i127 := by kernel_rfl
  i143 := by kernel_rfl
  i145 := by kernel_rfl
  i167 := by kernel_rfl
  i168 := by kernel_rfl
  i171 := by kernel_rfl
  i173 := by kernel_rfl
  i175 := by kernel_rfl
  i210 := by kernel_rfl
  i212 := by kernel_rfl
  i232 := by kernel_rfl
  i233 := by kernel_rfl
  m15 := by kernel_rfl
  m16 := by kernel_rfl
  m17 := by kernel_rfl
  m18 := by kernel_rfl
  m19 := by kernel_rfl
  c0 := by kernel_rfl
  c2 := by kernel_rfl
  c3 := by kernel_rfl
  c4 := by kernel_rfl
  c5 := by kernel_rfl
  c9 := by kernel_rfl
  c20 := by kernel_rfl
  c21 := by kernel_rfl
  c37 := by kernel_rfl
  c46 := by kernel_rfl
  c51 := by kernel_rfl
  c53 := by kernel_rfl
  c75 := by kernel_rfl
  c76 := by kernel_rfl
  c80 := by kernel_rfl
  c85 := by kernel_rfl
  c127 := by kernel_rfl
  c143 := by kernel_rfl
  c145 := by kernel_rfl
  c167 := by kernel_rfl
  c168 := by kernel_rfl
  c171 := by kernel_rfl
  c173 := by kernel_rfl
  c175 := by kernel_rfl
  c210 := by kernel_rfl
  c212 := by kernel_rfl
  c213 := by kernel_rfl
  c232 := by kernel_rfl
  c233 := by kernel_rfl }
end Go.Proofs
namespace Go.Proofs.YthhemephaabblaaGreatDoor.Hq
open Go.RowKit Go.Proofs.YthhemephaabblaaGreatDoorW.PrintWords Go.Proofs.YthhemephaabblaaGreatDoorW.PrintMore
set_option linter.unusedVariables false
set_option linter.unusedSimpArgs false
theorem disable (w : World) : (callFunc 117 #[]).run Tryz.prog w = .ok (.value (.tuple #[])) w := run_call_mark0 Tryz.func117 (by kernel_rfl) (by kernel_rfl) (by kernel_rfl) .disable (by kernel_rfl) w
theorem enable (w : World) : (callFunc 119 #[]).run Tryz.prog w = .ok (.value (.tuple #[])) w := run_call_mark0 Tryz.func119 (by kernel_rfl) (by kernel_rfl) (by kernel_rfl) .enable (by kernel_rfl) w
theorem acquire (a : Addr) (w : World) : (callFunc 120 #[.pointer (some a)]).run Tryz.prog w = .ok (.value (.tuple #[])) w := run_call_marked Tryz.func120 (by kernel_rfl) (by kernel_rfl) (by kernel_rfl) .acquire (by kernel_rfl) a w
theorem releaseMerge (a : Addr) (w : World) : (callFunc 122 #[.pointer (some a)]).run Tryz.prog w = .ok (.value (.tuple #[])) w := run_call_marked Tryz.func122 (by kernel_rfl) (by kernel_rfl) (by kernel_rfl) .releaseMerge (by kernel_rfl) a w
set_option maxRecDepth 100000 in
set_option maxHeartbeats 1600000 in
theorem store_deferred (a : Addr) (x : Value) (u : FrameMode) (w : World) (hc : w.cell? a = some x) (hz : w.frozen? a = false) :
    CallsD Tryz.prog 93 #[.pointer (some a), .bool true] u w fun e u' w' => u' = u ∧ (e = .returned (.tuple #[]) ∧ w' = w.drew.setCell a (.int .u32 1)) := by
  have hc' : w.drew.cell? a = some x := by go_simp
  have hz' : w.drew.frozen? a = false := by go_simp
  have hst := run_call_store (P := Tryz.prog) Tryz.func106 (by kernel_rfl) (by kernel_rfl) (by kernel_rfl) (by kernel_rfl) (k := .u32) (y := 1) hc' hz'
  go_enter_d Tryz.func93, Tryz.ntmps93
  go_wp2
  go_region_calls
  all_goals (go_end0; exact ⟨rfl, rfl⟩)
set_option maxRecDepth 100000 in
set_option maxHeartbeats 1600000 in
theorem unlock_deferred (a : Addr) (u : FrameMode) (w : World) (hc : w.cell? a = some (.int .i32 1)) (hz : w.frozen? a = false) :
    CallsD Tryz.prog 92 #[.pointer (some a)] u w fun e u' w' => u' = u ∧ (e = .returned (.tuple #[]) ∧ w' = w.setCell a (.int .i32 0)) := by
  have hd := disable
  have he := enable
  have hr := releaseMerge
  have hadd := run_call_add (P := Tryz.prog) Tryz.func123 (by kernel_rfl) (by kernel_rfl) (by kernel_rfl) .i32 (by kernel_rfl) (y := -1) (s := 0) hc hz (by simp [go_sem]; rfl)
  have hcv := run_convert_to_unsafe (P := Tryz.prog) (src := 191) (dst := 137) Tryz.underlying191 Tryz.underlying137 (by kernel_rfl) hc
  go_enter_d Tryz.func92, Tryz.ntmps92
  go_wp2
  go_end0
  go_wp2
  go_end0
  exact ⟨rfl, rfl⟩
set_option maxRecDepth 100000 in
set_option maxHeartbeats 1600000 in
theorem lock_free (a : Addr) (w : World) (hc : w.cell? a = some (.int .i32 0)) (hz : w.frozen? a = false) :
    Calls Tryz.prog 91 #[.pointer (some a)] w fun e w' => e = .returned (.tuple #[]) ∧ w' = w.setCell a (.int .i32 1) := by
  have hd := disable
  have he := enable
  have ha := acquire
  have hcas := run_call_cas_hit (P := Tryz.prog) Tryz.func118 (by kernel_rfl) (by kernel_rfl) (by kernel_rfl) .i32 (by kernel_rfl) (y := 1) hc hz
  have hc' : (w.setCell a (.int .i32 1)).cell? a = some (.int .i32 1) := World.cell?_setCell_same w a _ hc
  have hcv := run_convert_to_unsafe (P := Tryz.prog) (src := 191) (dst := 137) Tryz.underlying191 Tryz.underlying137 (by kernel_rfl) hc'
  go_enter Tryz.func91, Tryz.ntmps91
  go_wp2
  first | go_end0 | (simp only [Exit.inBlock, Exit.then]; refine bodyPost_ret (results_none rfl _ _ _) rfl ?_) | refine bodyPost_ret (results_none rfl _ _ _) rfl ?_
  go_wp2
  go_end0
  exact ⟨rfl, rfl⟩
def RepB (w : World) (g : Nat) (d st : Int) (r on : Value) : Prop := w.heap[g]? = some (.cells #[.int .u32 d, .int .i32 st, .int .u32 0, r, on] 114 (0, 0))
theorem RepB.c0 {w : World} {g : Nat} {d st : Int} {r on : Value} (h : RepB w g d st r on) : w.cell? ⟨g, 0, none⟩ = some (.int .u32 d) := (blk_cell h 0).trans rfl
theorem RepB.c1 {w : World} {g : Nat} {d st : Int} {r on : Value} (h : RepB w g d st r on) : w.cell? ⟨g, 1, none⟩ = some (.int .i32 st) := (blk_cell h 1).trans rfl
theorem RepB.c3 {w : World} {g : Nat} {d st : Int} {r on : Value} (h : RepB w g d st r on) : w.cell? ⟨g, 3, none⟩ = some r := (blk_cell h 3).trans rfl
theorem RepB.c4 {w : World} {g : Nat} {d st : Int} {r on : Value} (h : RepB w g d st r on) : w.cell? ⟨g, 4, none⟩ = some on := (blk_cell h 4).trans rfl
theorem RepB.fz {w : World} {g : Nat} {d st : Int} {r on : Value} (h : RepB w g d st r on) (i : Nat) : w.frozen? ⟨g, i, none⟩ = false := blk_frozen h i
theorem RepB.set0 {w : World} {g : Nat} {d st : Int} {r on : Value} (h : RepB w g d st r on) (x : Int) : RepB (w.setCell ⟨g, 0, none⟩ (.int .u32 x)) g x st r on := by
  have := blk_set h 0 (.int .u32 x)
  simpa [RepB] using this
theorem RepB.set1 {w : World} {g : Nat} {d st : Int} {r on : Value} (h : RepB w g d st r on) (x : Int) : RepB (w.setCell ⟨g, 1, none⟩ (.int .i32 x)) g d x r on := by
  have := blk_set h 1 (.int .i32 x)
  simpa [RepB] using this
theorem RepB.set3 {w : World} {g : Nat} {d st : Int} {r on : Value} (h : RepB w g d st r on) (x : Value) : RepB (w.setCell ⟨g, 3, none⟩ x) g d st x on := by
  have := blk_set h 3 x
  simpa [RepB] using this
theorem RepB.set4 {w : World} {g : Nat} {d st : Int} {r on : Value} (h : RepB w g d st r on) (x : Value) : RepB (w.setCell ⟨g, 4, none⟩ x) g d st r x := by
  have := blk_set h 4 x
  simpa [RepB] using this
theorem RepB.drew {w : World} {g : Nat} {d st : Int} {r on : Value} (h : RepB w g d st r on) : RepB w.drew g d st r on := h
set_option maxRecDepth 100000 in
set_option maxHeartbeats 1600000 in
theorem slow_calls (g : Nat) (r on : Value) (Q : World → Prop) (w : World) (h : RepB w g 0 0 r on)
    (hf : Calls Tryz.prog 54 #[.pointer (some ⟨g, 0, none⟩)] (w.setCell ⟨g, 1, none⟩ (.int .i32 1)) fun e w' => e = .returned (.tuple #[]) ∧ ∃ r' on', RepB w' g 0 1 r' on' ∧ Q w') :
    Calls Tryz.prog 77 #[.pointer (some ⟨g, 0, none⟩), .func (.func 54) #[.pointer (some ⟨g, 0, none⟩)] #[]] w fun e w' => e = .returned (.tuple #[]) ∧
      ∃ w2, Q w2 ∧ w' = (w2.drew.setCell ⟨g, 0, none⟩ (.int .u32 1)).setCell ⟨g, 1, none⟩ (.int .i32 0) := by
  have h1 := h.set1 1
  have hl := run_call_load (P := Tryz.prog) Tryz.func90 (by kernel_rfl) (by kernel_rfl) (by kernel_rfl) .u32 (by kernel_rfl) (w := w.setCell ⟨g, 1, none⟩ (.int .i32 1)) (a := ⟨g, 0, none⟩) (x := 0) h1.c0
  have hnot : ∀ (x : Bool) (w : World), (Op.unary .not (.bool x)).run Tryz.prog w = .ok (.bool (!x)) w := fun _ _ => rfl
  go_enter_defers Tryz.func77, Tryz.ntmps77
  go_wp2_with (go_at_call 91; refine (lock_free ⟨g, 1, none⟩ _ h.c1 (h.fz 1)).mono ?_; rintro e w' ⟨rfl, rfl⟩)
  go_wp2_with (first | (go_at_call 54; refine hf.mono ?_; rintro e w2 ⟨rfl, r', on', hR, hQ⟩) | (go_at_call 76; go_in))
  go_wp2
  refine leaves_cons (f := 93) (args := #[.pointer (some ⟨g, 0, none⟩), .bool true]) (by simp) (by simp [go_sem]) ?_
  refine (store_deferred ⟨g, 0, none⟩ (.int .u32 0) .returning _ hR.c0 (hR.fz 0)).mono ?_
  rintro e u' w'' ⟨rfl, rfl, rfl⟩
  refine leaves_cons (f := 92) (args := #[.pointer (some ⟨g, 1, none⟩)]) (by simp [settle]) (by simp [go_sem]) ?_
  refine (unlock_deferred ⟨g, 1, none⟩ _ _ (hR.drew.set0 1).c1 ((hR.drew.set0 1).fz 1)).mono ?_
  rintro e u' w'' ⟨rfl, rfl, rfl⟩
  simp [Leaves, settle, results, Tryz.results77]
  exact ⟨w2, hQ, rfl⟩
set_option maxRecDepth 100000 in
set_option maxHeartbeats 1600000 in
theorem do_calls (g : Nat) (r on : Value) (Q : World → Prop) (w : World) (h : RepB w g 0 0 r on)
    (hf : Calls Tryz.prog 54 #[.pointer (some ⟨g, 0, none⟩)] (w.setCell ⟨g, 1, none⟩ (.int .i32 1)) fun e w' => e = .returned (.tuple #[]) ∧ ∃ r' on', RepB w' g 0 1 r' on' ∧ Q w') :
    Calls Tryz.prog 53 #[.pointer (some ⟨g, 0, none⟩), .func (.func 54) #[.pointer (some ⟨g, 0, none⟩)] #[]] w fun e w' => e = .returned (.tuple #[]) ∧
      ∃ w2, Q w2 ∧ w' = (w2.drew.setCell ⟨g, 0, none⟩ (.int .u32 1)).setCell ⟨g, 1, none⟩ (.int .i32 0) := by
  have hl := run_call_load (P := Tryz.prog) Tryz.func90 (by kernel_rfl) (by kernel_rfl) (by kernel_rfl) .u32 (by kernel_rfl) h.c0
  have hnot : ∀ (x : Bool) (w : World), (Op.unary .not (.bool x)).run Tryz.prog w = .ok (.bool (!x)) w := fun _ _ => rfl
  go_enter Tryz.func53, Tryz.ntmps53
  go_wp2_with (first | (go_at_call 77; refine (slow_calls g r on Q w h hf).mono ?_; rintro e w' ⟨rfl, w2, hQ, rfl⟩) | (go_at_call 76; go_in))
  go_end0
  exact ⟨rfl, w2, hQ, rfl⟩
end Go.Proofs.YthhemephaabblaaGreatDoor.Hq
namespace Go.Proofs.YthhemephaabblaaGreatDoor.Hq
open Go.RowKit Go.Proofs.YthhemephaabblaaGreatDoorW.PrintWords Go.Proofs.YthhemephaabblaaGreatDoorW.PrintLast Go.Proofs.YthhemephaabblaaGreatDoorW.PrintMore Go.Proofs.YthhemephaabblaaGreatDoor
set_option linter.unusedVariables false
set_option linter.unusedSimpArgs false
theorem info9 : (Tryz.prog.info? 9).map (fun i => (i.zero, i.size, i.bytes)) = some (some (.string ⟨#[]⟩), 1, 16) := by kernel_rfl
theorem own_string_open {w : World} {B : Nat} {ok : Nat → Prop} {v : Value} {xs : List ByteArray} (h : Kd.string.R 9 w B ok v xs) : ∃ A c, v = .slice A xs.length c ∧ xs.length ≤ c ∧ Kd.C Kd.string w A xs.length xs := by
  obtain ⟨A, c, rfl⟩ := Kd.V_slice (Kd.R_V (base' := B) h)
  have := Kd.R_reads' h
  exact ⟨A, c, rfl, by omega, this.2.2⟩
set_option maxRecDepth 100000 in
set_option maxHeartbeats 1600000 in
theorem newRep_calls (A : Option Addr) (c : Nat) (x0 x1 x2 x3 : ByteArray) (w : World) (hr : Kd.C Kd.string w A 4 [x0, x1, x2, x3]) :
    Calls Tryz.prog 28 #[.slice A 4 c] w fun e w' => ∃ g A' c', e = .returned (.pointer (some ⟨g, 0, none⟩)) ∧ RepB w' g 0 0 .nilIface (.slice A' 4 c') ∧ Kd.C Kd.string w' A' 4 [x0, x1, x2, x3] ∧ (∀ ad, A' = some ad → ad.block < g) ∧ w.heap.size ≤ g ∧ Below w.heap.size w w' := by
  go_enter Tryz.func28, Tryz.ntmps28
  go_wp2_with (first | ((with_reducible refine gate_dst (N := 9) rfl ?_); refine Aside0.out ?_))
  refine Aside0.mk ?_
  refine Kd.R_append_rows Kd.string w.heap.size rfl (.const (.slice none 0 0)) (.tmp 8) 22 9 (.string ⟨#[]⟩) 16 rfl Tryz.underlying22 info9 rfl (by decide) (by omega) (.slice none 0 0) [] [x0, x1, x2, x3] A 4 c (fun _ => True) (fun _ => False) rfl rfl ?aO ?aR (fun _ _ h => h) (fun _ h => h.elim) ?aF (Below.refl _ _) (Nat.le_refl _) ?aL ?_
  case aO => exact Kd.R_nil _ _ _ _ _
  case aR => exact hr
  case aF => exact fun _ _ => trivial
  case aL => decide
  intro v1 w1 ho hb hg hat
  obtain ⟨A', c', rfl, hc', hC⟩ := own_string_open ho
  have hlt := Kd.R_lt ho
  go_wp2
  go_ret
  exact ⟨w1.heap.size, A', c', rfl, heap_alloc_new _ _, Kd.C_alloc hC _, fun ad h => hlt _ (by subst h; rfl), hb.size, below_alloc hb _⟩
end Go.Proofs.YthhemephaabblaaGreatDoor.Hq
