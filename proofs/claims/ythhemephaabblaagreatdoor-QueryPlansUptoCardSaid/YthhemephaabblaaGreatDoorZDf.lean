
import Derived.Test.YthhemephaabblaaGreatDoorZDc
import Derived.Test.YthhemephaabblaaGreatDoorZDe
import Derived.Test.YthhemephaabblaaGreatDoorZDd
import Derived.Shelf.LaysM
import Derived.Shelf.LaysC
import Derived.Room.Shelf.Join48
import Derived.Shelf.Strconv.Itoa3
import Derived.Shelf.Strconv.Atoi
import Derived.Shelf.Strings.Prefix
import Derived.Shelf.Strings.Count
import Derived.Shelf.Slices.Turned
import Derived.Test.YthhemephaabblaaGreatDoorProg
import Derived.Test.YthhemephaabblaaGreatDoorZDb
import Derived.WalkKit
import Derived.Defers
import Derived.Laws.Pointers
import Derived.Laws.LoneSync
import Derived.RegionCalls
import Derived.BigQuiet
import Derived.Test.YthhemephaabblaaGreatDoorZDa
namespace Go.Proofs.YthhemephaabblaaGreatDoor.Q
open Go.RowKit  Go.Proofs.YthhemephaabblaaGreatDoorW.PrintWords Go.Proofs.YthhemephaabblaaGreatDoorW.PrintLast Go.Proofs.YthhemephaabblaaGreatDoorW.PrintMore
attribute [local go_sem] max2_int min2_int max_two min_two max_three min_three max_four min_four
set_option linter.unusedVariables false
set_option linter.unusedSimpArgs false
def query_key.l0 : Nat → List Int → Int → ByteArray → List ByteArray → Int → List (List Int) → Option (List Int)
 | 0, _, _, _, _, _, _ => none
 | k + 1, x3, x4, x299000, x299001, x299002, x299003 => if x4 < (mn x299002 (x299001.length : Int)) then (if x3.length < 17592186044416 then (query_key.l0 k (x3 ++ [x4]) (wrap64 (x4 + 1)) x299000 x299001 x299002 x299003) else (none)) else (some x3)
def query_key.f (k : Nat) (a0_0 : ByteArray) (l0_1 : List ByteArray) (a0_2 : Int) (l0_3 : List (List Int)) : Option (List Int) := query_key.l0 k (([] : List Int)) 0 a0_0 l0_1 a0_2 l0_3
set_option maxHeartbeats 8000000 in
set_option maxRecDepth 100000 in
theorem query_key.calls (k : Nat) (a0_0 : ByteArray) (A0_1 : Option Addr) (c0_1 : Nat) (l0_1 : List ByteArray) (a0_2 : Int) (A0_3 : Option Addr) (c0_3 : Nat) (l0_3 : List (List Int)) (r : List Int) (w : World) (hr0_1 : Kd.C Kd.string w A0_1 l0_1.length l0_1) (hc0_1 : l0_1.length ≤ c0_1) (hr0_3 : Kd.C (Kd.slice 3 (Kd.int .i64)) w A0_3 l0_3.length l0_3) (hc0_3 : l0_3.length ≤ c0_3) (h : query_key.f k a0_0 l0_1 a0_2 l0_3 = some r) :
  Calls Tryz.prog 58 #[.agg #[.string a0_0, .slice A0_1 l0_1.length c0_1, .int .i64 a0_2, .slice A0_3 l0_3.length c0_3]] w fun e w' => ∃ v0_ : Value, e = .returned (v0_) ∧ Kd.R (Kd.int .i64) 3 w' w.heap.size (fun _ => True) v0_ r ∧ Below w.heap.size w w' := by
 have hu49 := Tryz.underlying49
 have HR0_1 := Aside0.mk hr0_1
 have HC0_1 := Aside0.mk hc0_1
 clear hr0_1 hc0_1
 have HR0_3 := Aside0.mk hr0_3
 have HC0_3 := Aside0.mk hc0_3
 clear hr0_3 hc0_3
 have HB := Aside0.mk (Below.refl w.heap.size w)
 have H : (query_key.l0 k (([] : List Int)) 0 a0_0 l0_1 a0_2 l0_3) = some r := h
 clear h
 obtain ⟨y299, hy299⟩ : ∃ y_ : List Int, y_ = (([] : List Int)) := ⟨_, rfl⟩
 replace H : (query_key.l0 k y299 0 a0_0 l0_1 a0_2 l0_3) = some r := by first | (rw [hy299]; with_reducible exact H) | (have H2_ := (Option.bind_some _ _).symm.trans H; rw [hy299]; with_reducible exact H2_) | (have H2_ := (Option.bind_some _ _).symm.trans H; with_reducible exact H2_) | with_reducible exact H | (rw [hy299]; exact H) | exact H
 have Ny299 := Aside0.mk hy299
 clear hy299
 have H' := Aside0.mk H
 clear H
 go_enter Tryz.func58, Tryz.ntmps58
 go_wp2_with (first | ((with_reducible refine gate_dst (N := 1) rfl ?_); refine box_event ?hg (N := 1) ?hd (cs := #[.string a0_0, .slice A0_1 l0_1.length c0_1, .int .i64 a0_2, .slice A0_3 l0_3.length c0_3]) (t := 49) ?hr ?_; (case hd => rfl); (case hg => rfl); (case hr => first | (go_simp; done) | (go_simp; rfl)); intro gb298 hg w2 hbox hb; have n0_ := Aside0.mk (below_step (by repeat (first | (with_reducible first | exact HB.out | apply below_alloc | apply pw_below_drewN | apply below_drew1) | exact HB.out)) hb); have n1_ := Aside0.mk (hbox); have n2_ := Aside0.mk ((by rw [hg]; exact (below_size (by repeat (first | (with_reducible first | exact HB.out | apply below_alloc | apply pw_below_drewN | apply below_drew1) | exact HB.out))) : w.heap.size ≤ gb298)); have n3_ := Aside0.mk ((by rw [hg]; exact (below_size (by repeat (first | (with_reducible first | exact HB.out | apply below_alloc | apply pw_below_drewN | apply below_drew1) | exact HB.out))) : w.heap.size ≤ gb298)); clear HB; have HB := n0_; have BK298 := n1_; have GW298 := n2_; have GE298 := n3_; clear n0_ n1_ n2_ n3_; clear hb hbox hg) | ((with_reducible refine gate_dst (N := 5) rfl ?_); refine Kd.R_lit (Kd.int .i64) _ 3 ?hg (N := 5) ?hd (xs := ([] : List Int)) (inner := []) (ok := fun _ => True) (okp := fun _ => True) ?hr ?hp (fun _ hk => hk) trivial (Below.refl _ _) (Nat.le_refl _) (by simp) ?_; (case hd => rfl); (case hg => rfl); (case hr => first | (go_simp; done) | (go_simp; rfl)); (case hp => exact (Reps.none _ _)); intro v300 w3 ho4 hb hg_ hnew_; clear hg_ hnew_; (first | rw [← Ny299.out] at ho4 | (simp only [Int.reduceToNat] at ho4; rw [← Ny299.out] at ho4)); have n0_ := Aside0.mk (Kd.R_lower ho4 (below_size (by repeat (first | (with_reducible first | exact HB.out | apply below_alloc | apply pw_below_drewN | apply below_drew1 | refine below_set ?_ GE298.out) | exact HB.out)))); have n1_ := Aside0.mk (blk_below (g := gb298) (o := .cells #[.string a0_0, .slice A0_1 l0_1.length c0_1, .int .i64 a0_2, .slice A0_3 l0_3.length c0_3] 49 (0, 0)) (by (with_reducible repeat (first | refine blk_drewN ?_ _ | refine blk_drew ?_ | refine blk_alloc ?_ _)); exact BK298.out) hb); have n2_ := Aside0.mk (below_step (by repeat (first | (with_reducible first | exact HB.out | apply below_alloc | apply pw_below_drewN | apply below_drew1 | refine below_set ?_ GE298.out) | exact HB.out)) hb); clear BK298; clear HB; have HO301 := n0_; have BK298 := n1_; have HB := n2_; clear n0_ n1_ n2_; clear hb ho4))
 go_loopg [3, 4] k (fun kq v3 v4 w' => ∃ (x3_1 : List Int) (x4_1 : Int), v4 = .int .i64 x4_1 ∧ Aside0 (query_key.l0 kq x3_1 x4_1 a0_0 l0_1 a0_2 l0_3 = some r) ∧ Aside0 (kq ≤ k) ∧ Aside0 (Kd.R (Kd.int .i64) 3 w' w.heap.size (fun _ => True) v3 x3_1) ∧ Aside0 (w'.heap[gb298]? = some (.cells #[.string a0_0, (.slice A0_1 l0_1.length c0_1), .int .i64 a0_2, (.slice A0_3 l0_3.length c0_3)] 49 (0, 0))) ∧ Aside0 (Below w.heap.size w w'))
 case atStart => exact ⟨(y299), (0), (by first | rfl | (simp; done) | (simp [*]; done)), H', ⟨Nat.le_refl _⟩, ⟨by (with_reducible repeat (first | apply Kd.R_alloc | apply Kd.R_drewN | apply Kd.R_drew)); exact HO301.out⟩, ⟨by (with_reducible repeat (first | refine blk_drewN ?_ _ | refine blk_drew ?_ | refine blk_alloc ?_ _)); exact BK298.out⟩, ⟨by repeat (first | (with_reducible first | exact HB.out | apply below_alloc | apply pw_below_drewN | apply below_drew1 | refine below_set ?_ GE298.out) | exact HB.out)⟩⟩
 case round =>
  clear H'
  obtain ⟨x3_1, x4_1, rfl, HA, HK1, HO_3, BK298, HB⟩ := hrel
  cases gk with
  | zero => exact absurd HA.out (by simp [query_key.l0])
  | succ k1 =>
   have H := HA.out
   clear HA
   simp only [query_key.l0] at H
   obtain ⟨ji5, hji5⟩ : ∃ j_ : Int, (mn a0_2 (l0_1.length : Int)) = j_ := ⟨_, rfl⟩
   replace H : (if x4_1 < (ji5) then (if x3_1.length < 17592186044416 then (query_key.l0 k1 (x3_1 ++ [x4_1]) (wrap64 (x4_1 + 1)) a0_0 l0_1 a0_2 l0_3) else (none)) else (some x3_1)) = some r := by first | (rw [hji5] at H; exact H) | (simp only [hji5] at H ⊢; exact H)
   have hji5_ : (if (l0_1.length : Int) < a0_2 then (l0_1.length : Int) else a0_2) = ji5 := hji5
   by_cases c6 : x4_1 < (ji5)
   ·
    rw [if_pos c6] at H
    have c6b0 : decide (x4_1 < (ji5)) = true := decide_eq_true c6
    clear c6
    by_cases c7 : x3_1.length < 17592186044416
    ·
     rw [if_pos c7] at H
     have LMc7 := Aside0.mk c7
     clear c7
     obtain ⟨y302, hy302⟩ : ∃ y_ : List Int, y_ = (x3_1 ++ [x4_1]) := ⟨_, rfl⟩
     replace H : (query_key.l0 k1 y302 (wrap64 (x4_1 + 1)) a0_0 l0_1 a0_2 l0_3) = some r := by first | (rw [hy302]; with_reducible exact H) | (have H2_ := (Option.bind_some _ _).symm.trans H; rw [hy302]; with_reducible exact H2_) | (have H2_ := (Option.bind_some _ _).symm.trans H; with_reducible exact H2_) | with_reducible exact H | (rw [hy302]; exact H) | exact H
     have Ny302 := Aside0.mk hy302
     clear hy302
     have H' := Aside0.mk H
     clear H
     have hcz8_0 : wr.cell? ⟨gb298, 0, none⟩ = some (.string a0_0) := (blk_cell BK298.out 0).trans rfl
     have hcz8_1 : wr.cell? ⟨gb298, 1, none⟩ = some (.slice A0_1 l0_1.length c0_1) := (blk_cell BK298.out 1).trans rfl
     have hcz8_2 : wr.cell? ⟨gb298, 2, none⟩ = some (.int .i64 a0_2) := (blk_cell BK298.out 2).trans rfl
     have hcz8_3 : wr.cell? ⟨gb298, 3, none⟩ = some (.slice A0_3 l0_3.length c0_3) := (blk_cell BK298.out 3).trans rfl
     have hfz8_0 := blk_frozen BK298.out 0
     have hfz8_1 := blk_frozen BK298.out 1
     have hfz8_2 := blk_frozen BK298.out 2
     have hfz8_3 := blk_frozen BK298.out 3
     go_wp2_with (first | ((with_reducible refine gate_builtin (b := .append) (xs := #[.tmp 16, .tmp 18]) rfl ?_); at_builtin; refine Kd.R_append (Kd.int .i64) (w0 := w) w.heap.size rfl (.tmp 16) (.tmp 18) 50 3 (.int .i64 0) 8 rfl Tryz.underlying50 info3 rfl (by decide) (by omega) u3 x3_1 x4_1 [.int .i64 x4_1] (fun _ => True) (fun _ => False) rfl rfl ?aP (fun _ hk => hk.elim) ?aF ?aO ?aB ?aS ?aL ?_; (case aP => exact rfl); (case aB => exact (by repeat (first | (with_reducible first | exact HB.out | apply below_alloc | apply pw_below_drewN | apply below_drew1 | refine below_set ?_ GE298.out) | exact HB.out))); (case aF => exact (fun _ _ => trivial)); (case aO => exact (by (with_reducible repeat (first | apply Kd.R_alloc | apply Kd.R_drewN | apply Kd.R_drew)); exact HO_3.out)); (case aS => exact (below_size (by repeat (first | (with_reducible first | exact HB.out | apply below_alloc | apply pw_below_drewN | apply below_drew1 | refine below_set ?_ GE298.out) | exact HB.out)))); (case aL => have := LMc7.out; omega); intro v303 w9 ho hb hg hat; rw [← Ny302.out] at ho; have n0_ := Aside0.mk (blk_grown (g := gb298) (o := .cells #[.string a0_0, .slice A0_1 l0_1.length c0_1, .int .i64 a0_2, .slice A0_3 l0_3.length c0_3] 49 (0, 0)) (by (with_reducible repeat (first | refine blk_drewN ?_ _ | refine blk_drew ?_ | refine blk_alloc ?_ _)); exact BK298.out) hg (Kd.R_ne HO_3.out BK298.out (by decide))); have n1_ := Aside0.mk (hb); have n2_ := Aside0.mk (ho); clear BK298; clear HB; clear HO_3; have BK298 := n0_; have HB := n1_; have HO304 := n2_; clear n0_ n1_ n2_; clear ho hb hg hat))
     go_roundg k1
     case measure => have := HK1.out; omega
     case rel => exact ⟨(y302), (wrap64 (x4_1 + 1)), (by first | rfl | (simp; done) | (simp [*]; done)), H', ⟨by have := HK1.out; omega⟩, ⟨by (with_reducible repeat (first | apply Kd.R_alloc | apply Kd.R_drewN | apply Kd.R_drew)); exact HO304.out⟩, ⟨by (with_reducible repeat (first | refine blk_drewN ?_ _ | refine blk_drew ?_ | refine blk_alloc ?_ _)); exact BK298.out⟩, ⟨by repeat (first | (with_reducible first | exact HB.out | apply below_alloc | apply pw_below_drewN | apply below_drew1 | refine below_set ?_ GE298.out) | exact HB.out)⟩⟩
    ·
     rw [if_neg c7] at H
     exact absurd H (by simp)
   ·
    rw [if_neg c6] at H
    have c6b0 : decide (x4_1 < (ji5)) = false := decide_eq_false c6
    clear c6
    obtain rfl := Option.some.inj H
    have hcz10_0 : wr.cell? ⟨gb298, 0, none⟩ = some (.string a0_0) := (blk_cell BK298.out 0).trans rfl
    have hcz10_1 : wr.cell? ⟨gb298, 1, none⟩ = some (.slice A0_1 l0_1.length c0_1) := (blk_cell BK298.out 1).trans rfl
    have hcz10_2 : wr.cell? ⟨gb298, 2, none⟩ = some (.int .i64 a0_2) := (blk_cell BK298.out 2).trans rfl
    have hcz10_3 : wr.cell? ⟨gb298, 3, none⟩ = some (.slice A0_3 l0_3.length c0_3) := (blk_cell BK298.out 3).trans rfl
    have hfz10_0 := blk_frozen BK298.out 0
    have hfz10_1 := blk_frozen BK298.out 1
    have hfz10_2 := blk_frozen BK298.out 2
    have hfz10_3 := blk_frozen BK298.out 3
    go_wp2
    go_ret
    exact ⟨_, by first | rfl | (simp [errW_none, errW_some] <;> rfl) | (simp only [← hji5]; first | rfl | (simp [errW_none, errW_some] <;> rfl)) | (simp [*, errW_none, errW_some] <;> rfl), by (with_reducible repeat (first | apply Kd.R_alloc | apply Kd.R_drewN | apply Kd.R_drew)); exact HO_3.out, by repeat (first | (with_reducible first | exact HB.out | apply below_alloc | apply pw_below_drewN | apply below_drew1 | refine below_set ?_ GE298.out) | exact HB.out)⟩
def cairnref32_place.l0 : Nat → List ByteArray → ByteArray → Int → Option (Int)
 | 0, _, _, _ => none
 | k + 1, x0, x1, x5 => if x5 < (x0.length : Int) then (if 0 ≤ x5 then (if (rdOf ByteArray.empty x0 x5).toList = x1.toList then (some x5) else (cairnref32_place.l0 k x0 x1 (wrap64 (x5 + 1)))) else (none)) else (some (-1))
def cairnref32_place.f (k : Nat) (l0 : List ByteArray) (a1 : ByteArray) : Option (Int) := cairnref32_place.l0 k l0 a1 0
set_option maxHeartbeats 8000000 in
set_option maxRecDepth 100000 in
theorem cairnref32_place.calls (k : Nat) (A0 : Option Addr) (c0 : Nat) (l0 : List ByteArray) (a1 : ByteArray) (r : Int) (w : World) (hr0 : Kd.C Kd.string w A0 l0.length l0) (hc0 : l0.length ≤ c0) (h : cairnref32_place.f k l0 a1 = some r) :
  Calls Tryz.prog 59 #[.slice A0 l0.length c0, .string a1] w fun e w' => e = .returned (.int .i64 r) ∧ Drawn0 w w' := by
 have HR0 := Aside0.mk hr0
 have HC0 := Aside0.mk hc0
 clear hr0 hc0
 have H : (cairnref32_place.l0 k l0 a1 0) = some r := h
 clear h
 have H' := Aside0.mk H
 clear H
 go_enter Tryz.func59, Tryz.ntmps59
 go_wp2
 go_loopg [5] k (fun kq v5 w' => ∃ (x5_1 : Int), v5 = .int .i64 x5_1 ∧ Aside0 (cairnref32_place.l0 kq l0 a1 x5_1 = some r) ∧ Aside0 (kq ≤ k) ∧ Drawn0 w w')
 case atStart => exact ⟨(0), (by first | rfl | (simp; done) | (simp [*]; done)), H', ⟨Nat.le_refl _⟩, by repeat (first | exact Drawn0.refl _ | apply Drawn0.step)⟩
 case round =>
  clear H'
  obtain ⟨x5_1, rfl, HA, HK1, ⟨m1, rfl⟩⟩ := hrel
  cases gk with
  | zero => exact absurd HA.out (by simp [cairnref32_place.l0])
  | succ k1 =>
   have H := HA.out
   clear HA
   simp only [cairnref32_place.l0] at H
   by_cases c3 : x5_1 < (l0.length : Int)
   ·
    rw [if_pos c3] at H
    have c3b0 : decide (x5_1 < (l0.length : Int)) = true := decide_eq_true c3
    clear c3
    by_cases c4 : 0 ≤ x5_1
    ·
     rw [if_pos c4] at H
     have c4b0 : decide (0 ≤ x5_1) = true := decide_eq_true c4
     clear c4
     by_cases c5 : (rdOf ByteArray.empty l0 x5_1).toList = a1.toList
     ·
      rw [if_pos c5] at H
      have c5b0 : ((rdOf ByteArray.empty l0 x5_1).toList == a1.toList) = true := beq_iff_eq.mpr c5
      have c5b1 : ((rdOf ByteArray.empty l0 x5_1).toList != a1.toList) = false := bne_eq_false_iff_eq.mpr c5
      clear c5
      obtain rfl := Option.some.inj H
      have p309 : 0 ≤ (x5_1 : Int) := of_decide_eq_true (by first | (with_reducible assumption) | assumption)
      have q309 : x5_1 < (l0.length : Int) := of_decide_eq_true (by first | (with_reducible assumption) | assumption)
      obtain ⟨ad309, e309, hx309_0⟩ := Kd.at_string HR0.out x5_1 p309 q309
      cases e309
      replace p309 := eq_true p309
      replace q309 := eq_true q309
      go_wp2
      go_ret
      exact ⟨by first | rfl | (simp; done) | (simp [*]; done), by repeat (first | exact Drawn0.refl _ | apply Drawn0.step)⟩
     ·
      rw [if_neg c5] at H
      have c5b0 : ((rdOf ByteArray.empty l0 x5_1).toList == a1.toList) = false := beq_eq_false_iff_ne.mpr c5
      have c5b1 : ((rdOf ByteArray.empty l0 x5_1).toList != a1.toList) = true := bne_iff_ne.mpr c5
      have H' := Aside0.mk H
      clear H
      have p309 : 0 ≤ (x5_1 : Int) := of_decide_eq_true (by first | (with_reducible assumption) | assumption)
      have q309 : x5_1 < (l0.length : Int) := of_decide_eq_true (by first | (with_reducible assumption) | assumption)
      obtain ⟨ad309, e309, hx309_0⟩ := Kd.at_string HR0.out x5_1 p309 q309
      cases e309
      replace p309 := eq_true p309
      replace q309 := eq_true q309
      go_wp2
      go_roundg k1
      case measure => have := HK1.out; omega
      case rel => exact ⟨(wrap64 (x5_1 + 1)), (by first | rfl | (simp; done) | (simp [*]; done)), H', ⟨by have := HK1.out; omega⟩, by repeat (first | exact Drawn0.refl _ | apply Drawn0.step)⟩
    ·
     rw [if_neg c4] at H
     exact absurd H (by simp)
   ·
    rw [if_neg c3] at H
    have c3b0 : decide (x5_1 < (l0.length : Int)) = false := decide_eq_false c3
    clear c3
    obtain rfl := Option.some.inj H
    go_wp2
    go_ret
    exact ⟨by first | rfl | (simp; done) | (simp [*]; done), by repeat (first | exact Drawn0.refl _ | apply Drawn0.step)⟩
mutual
def cairnref32_known.l0 : Nat → List ByteArray → Int → List ByteArray → ByteArray → List (S70) → ByteArray → Bool → Int → Option (Bool)
 | 0, _, _, _, _, _, _, _, _ => none
 | k + 1, x0, x5, x311000, x311001, x311002, x311003, x311004, x311005 => if x5 < (x311000.length : Int) then (if 0 ≤ x5 then ((cairnref32_place.f k x0 (rdOf ByteArray.empty x311000 x5)).bind fun t312 => (if t312 < 0 then (some false) else (cairnref32_known.l0 k x0 (wrap64 (x5 + 1)) x311000 x311001 x311002 x311003 x311004 x311005))) else (none)) else (cairnref32_known.l1 k x0 0 x311000 x311001 x311002 x311003 x311004 x311005)
def cairnref32_known.l1 : Nat → List ByteArray → Int → List ByteArray → ByteArray → List (S70) → ByteArray → Bool → Int → Option (Bool)
 | 0, _, _, _, _, _, _, _, _ => none
 | k + 1, x0, x6, x311000, x311001, x311002, x311003, x311004, x311005 => if x6 < (x311002.length : Int) then (if 0 ≤ x6 then ((cairnref32_place.f k x0 ((rd_T70 x311002 x6).f0)).bind fun t314 => (if t314 < 0 then (some false) else (cairnref32_known.l1 k x0 (wrap64 (x6 + 1)) x311000 x311001 x311002 x311003 x311004 x311005))) else (none)) else (if x311003.toList = ([] : List UInt8) then (some true) else ((cairnref32_place.f k x0 x311003).bind fun t315 => (some (decide (t315 ≥ 0)))))
end
def cairnref32_known.f (k : Nat) (l0 : List ByteArray) (l1_0 : List ByteArray) (a1_1 : ByteArray) (l1_2 : List (S70)) (a1_3 : ByteArray) (a1_4 : Bool) (a1_5 : Int) : Option (Bool) := cairnref32_known.l0 k l0 0 l1_0 a1_1 l1_2 a1_3 a1_4 a1_5
set_option maxHeartbeats 8000000 in
set_option maxRecDepth 100000 in
theorem cairnref32_known.calls (k : Nat) (A0 : Option Addr) (c0 : Nat) (l0 : List ByteArray) (A1_0 : Option Addr) (c1_0 : Nat) (l1_0 : List ByteArray) (a1_1 : ByteArray) (A1_2 : Option Addr) (c1_2 : Nat) (l1_2 : List (S70)) (a1_3 : ByteArray) (a1_4 : Bool) (a1_5 : Int) (r : Bool) (w : World) (hr0 : Kd.C Kd.string w A0 l0.length l0) (hc0 : l0.length ≤ c0) (hr1_0 : Kd.C Kd.string w A1_0 l1_0.length l1_0) (hc1_0 : l1_0.length ≤ c1_0) (hr1_2 : Kd.C k70 w A1_2 l1_2.length l1_2) (hc1_2 : l1_2.length ≤ c1_2) (h : cairnref32_known.f k l0 l1_0 a1_1 l1_2 a1_3 a1_4 a1_5 = some r) :
  Calls Tryz.prog 36 #[.slice A0 l0.length c0, .agg #[.slice A1_0 l1_0.length c1_0, .string a1_1, .slice A1_2 l1_2.length c1_2, .string a1_3, .bool a1_4, .int .i64 a1_5]] w fun e w' => e = .returned (.bool r) ∧ Below w.heap.size w w' := by
 have hu31 := Tryz.underlying31
 have HR0 := Aside0.mk hr0
 have HC0 := Aside0.mk hc0
 clear hr0 hc0
 have HR1_0 := Aside0.mk hr1_0
 have HC1_0 := Aside0.mk hc1_0
 clear hr1_0 hc1_0
 have HR1_2 := Aside0.mk hr1_2
 have HC1_2 := Aside0.mk hc1_2
 clear hr1_2 hc1_2
 have HB := Aside0.mk (Below.refl w.heap.size w)
 have H : (cairnref32_known.l0 k l0 0 l1_0 a1_1 l1_2 a1_3 a1_4 a1_5) = some r := h
 clear h
 have H' := Aside0.mk H
 clear H
 go_enter Tryz.func36, Tryz.ntmps36
 go_wp2_with (first | ((with_reducible refine gate_dst (N := 3) rfl ?_); refine box_event ?hg (N := 3) ?hd (cs := #[.slice A1_0 l1_0.length c1_0, .string a1_1, .slice A1_2 l1_2.length c1_2, .string a1_3, .bool a1_4, .int .i64 a1_5]) (t := 31) ?hr ?_; (case hd => rfl); (case hg => rfl); (case hr => first | (go_simp; done) | (go_simp; rfl)); intro gb310 hg w3 hbox hb; have n0_ := Aside0.mk (below_step (by repeat (first | (with_reducible first | exact HB.out | apply below_alloc | apply pw_below_drewN | apply below_drew1) | exact HB.out)) hb); have n1_ := Aside0.mk (hbox); have n2_ := Aside0.mk ((by rw [hg]; exact (below_size (by repeat (first | (with_reducible first | exact HB.out | apply below_alloc | apply pw_below_drewN | apply below_drew1) | exact HB.out))) : w.heap.size ≤ gb310)); have n3_ := Aside0.mk ((by rw [hg]; exact (below_size (by repeat (first | (with_reducible first | exact HB.out | apply below_alloc | apply pw_below_drewN | apply below_drew1) | exact HB.out))) : w.heap.size ≤ gb310)); clear HB; have HB := n0_; have BK310 := n1_; have GW310 := n2_; have GE310 := n3_; clear n0_ n1_ n2_ n3_; clear hb hbox hg))
 go_loopg [5] k (fun kq v5 w' => ∃ (x5_1 : Int), v5 = .int .i64 x5_1 ∧ Aside0 (cairnref32_known.l0 kq l0 x5_1 l1_0 a1_1 l1_2 a1_3 a1_4 a1_5 = some r) ∧ Aside0 (kq ≤ k) ∧ Aside0 (w'.heap[gb310]? = some (.cells #[(.slice A1_0 l1_0.length c1_0), .string a1_1, (.slice A1_2 l1_2.length c1_2), .string a1_3, .bool a1_4, .int .i64 a1_5] 31 (0, 0))) ∧ Aside0 (Below w.heap.size w w'))
 case atStart => exact ⟨(0), (by first | rfl | (simp; done) | (simp [*]; done)), H', ⟨Nat.le_refl _⟩, ⟨by (with_reducible repeat (first | refine blk_drewN ?_ _ | refine blk_drew ?_ | refine blk_alloc ?_ _)); exact BK310.out⟩, ⟨by repeat (first | (with_reducible first | exact HB.out | apply below_alloc | apply pw_below_drewN | apply below_drew1 | refine below_set ?_ GE310.out) | exact HB.out)⟩⟩
 case round =>
  clear H'
  obtain ⟨x5_1, rfl, HA, HK1, BK310, HB⟩ := hrel
  cases gk with
  | zero => exact absurd HA.out (by simp [cairnref32_known.l0])
  | succ k1 =>
   have H := HA.out
   clear HA
   simp only [cairnref32_known.l0] at H
   by_cases c4 : x5_1 < (l1_0.length : Int)
   ·
    rw [if_pos c4] at H
    have c4b0 : decide (x5_1 < (l1_0.length : Int)) = true := decide_eq_true c4
    clear c4
    by_cases c5 : 0 ≤ x5_1
    ·
     rw [if_pos c5] at H
     have c5b0 : decide (0 ≤ x5_1) = true := decide_eq_true c5
     clear c5
     replace H := Option.bind_eq_some_iff.mp H
     obtain ⟨t312, A60, H⟩ := H
     replace H : (if t312 < 0 then (some false) else (cairnref32_known.l0 k1 l0 (wrap64 (x5_1 + 1)) l1_0 a1_1 l1_2 a1_3 a1_4 a1_5)) = some r := H
     have A6 := Aside0.mk A60
     clear A60
     by_cases c7 : t312 < 0
     ·
      rw [if_pos c7] at H
      have c7b0 : decide (t312 < 0) = true := decide_eq_true c7
      clear c7
      obtain rfl := Option.some.inj H
      have hcz8_0 : wr.cell? ⟨gb310, 0, none⟩ = some (.slice A1_0 l1_0.length c1_0) := (blk_cell BK310.out 0).trans rfl
      have hcz8_1 : wr.cell? ⟨gb310, 1, none⟩ = some (.string a1_1) := (blk_cell BK310.out 1).trans rfl
      have hcz8_2 : wr.cell? ⟨gb310, 2, none⟩ = some (.slice A1_2 l1_2.length c1_2) := (blk_cell BK310.out 2).trans rfl
      have hcz8_3 : wr.cell? ⟨gb310, 3, none⟩ = some (.string a1_3) := (blk_cell BK310.out 3).trans rfl
      have hcz8_4 : wr.cell? ⟨gb310, 4, none⟩ = some (.bool a1_4) := (blk_cell BK310.out 4).trans rfl
      have hcz8_5 : wr.cell? ⟨gb310, 5, none⟩ = some (.int .i64 a1_5) := (blk_cell BK310.out 5).trans rfl
      have hfz8_0 := blk_frozen BK310.out 0
      have hfz8_1 := blk_frozen BK310.out 1
      have hfz8_2 := blk_frozen BK310.out 2
      have hfz8_3 := blk_frozen BK310.out 3
      have hfz8_4 := blk_frozen BK310.out 4
      have hfz8_5 := blk_frozen BK310.out 5
      have p311 : 0 ≤ (x5_1 : Int) := of_decide_eq_true (by first | (with_reducible assumption) | assumption)
      have q311 : x5_1 < (l1_0.length : Int) := of_decide_eq_true (by first | (with_reducible assumption) | assumption)
      obtain ⟨ad311, e311, hx311_0⟩ := Kd.at_string HR1_0.out x5_1 p311 q311
      cases e311
      replace hx311_0 := (HB.out.cell (World.block_lt_of_cell? w _ hx311_0)).trans hx311_0
      replace p311 := eq_true p311
      replace q311 := eq_true q311
      go_wp2_with (first | ((with_reducible refine gate_callee (f := 59) rfl ?_); refine goesL_ (some 20) rfl rfl Tryz.func59 (by kernel_rfl) rfl #[.slice A0 l0.length c0, .string (rdOf ByteArray.empty l1_0 x5_1)] rfl (by (try simp only [List.map_toArray, List.map_cons, List.map_nil]); first | done | rfl | (simp only [List.length_drop, List.length_take]; rfl)) ?_; (with_reducible refine (cairnref32_place.calls k1 _ _ l0 (rdOf ByteArray.empty l1_0 x5_1) t312 _ ?side1 ?side2 A6.out).mono ?_); (case side1 => repeat (first | exact (Kd.C_below HR0.out HB.out) | (with_reducible refine Kd.C_alloc ?_ _) | (with_reducible refine Kd.C_drewN ?_ _) | (with_reducible refine Kd.C_drew ?_))); (case side2 => exact HC0.out); rintro e w' ⟨rfl, ⟨nd, rfl⟩⟩; refine ⟨_, rfl, ?_⟩))
      go_ret
      exact ⟨by first | rfl | (simp [errW_none, errW_some] <;> rfl) | (simp [*, errW_none, errW_some] <;> rfl), by repeat (first | (with_reducible first | exact HB.out | apply below_alloc | apply pw_below_drewN | apply below_drew1 | refine below_set ?_ GE310.out) | exact HB.out)⟩
     ·
      rw [if_neg c7] at H
      have c7b0 : decide (t312 < 0) = false := decide_eq_false c7
      clear c7
      have H' := Aside0.mk H
      clear H
      have hcz9_0 : wr.cell? ⟨gb310, 0, none⟩ = some (.slice A1_0 l1_0.length c1_0) := (blk_cell BK310.out 0).trans rfl
      have hcz9_1 : wr.cell? ⟨gb310, 1, none⟩ = some (.string a1_1) := (blk_cell BK310.out 1).trans rfl
      have hcz9_2 : wr.cell? ⟨gb310, 2, none⟩ = some (.slice A1_2 l1_2.length c1_2) := (blk_cell BK310.out 2).trans rfl
      have hcz9_3 : wr.cell? ⟨gb310, 3, none⟩ = some (.string a1_3) := (blk_cell BK310.out 3).trans rfl
      have hcz9_4 : wr.cell? ⟨gb310, 4, none⟩ = some (.bool a1_4) := (blk_cell BK310.out 4).trans rfl
      have hcz9_5 : wr.cell? ⟨gb310, 5, none⟩ = some (.int .i64 a1_5) := (blk_cell BK310.out 5).trans rfl
      have hfz9_0 := blk_frozen BK310.out 0
      have hfz9_1 := blk_frozen BK310.out 1
      have hfz9_2 := blk_frozen BK310.out 2
      have hfz9_3 := blk_frozen BK310.out 3
      have hfz9_4 := blk_frozen BK310.out 4
      have hfz9_5 := blk_frozen BK310.out 5
      have p311 : 0 ≤ (x5_1 : Int) := of_decide_eq_true (by first | (with_reducible assumption) | assumption)
      have q311 : x5_1 < (l1_0.length : Int) := of_decide_eq_true (by first | (with_reducible assumption) | assumption)
      obtain ⟨ad311, e311, hx311_0⟩ := Kd.at_string HR1_0.out x5_1 p311 q311
      cases e311
      replace hx311_0 := (HB.out.cell (World.block_lt_of_cell? w _ hx311_0)).trans hx311_0
      replace p311 := eq_true p311
      replace q311 := eq_true q311
      go_wp2_with (first | ((with_reducible refine gate_callee (f := 59) rfl ?_); refine goesL_ (some 20) rfl rfl Tryz.func59 (by kernel_rfl) rfl #[.slice A0 l0.length c0, .string (rdOf ByteArray.empty l1_0 x5_1)] rfl (by (try simp only [List.map_toArray, List.map_cons, List.map_nil]); first | done | rfl | (simp only [List.length_drop, List.length_take]; rfl)) ?_; (with_reducible refine (cairnref32_place.calls k1 _ _ l0 (rdOf ByteArray.empty l1_0 x5_1) t312 _ ?side1 ?side2 A6.out).mono ?_); (case side1 => repeat (first | exact (Kd.C_below HR0.out HB.out) | (with_reducible refine Kd.C_alloc ?_ _) | (with_reducible refine Kd.C_drewN ?_ _) | (with_reducible refine Kd.C_drew ?_))); (case side2 => exact HC0.out); rintro e w' ⟨rfl, ⟨nd, rfl⟩⟩; refine ⟨_, rfl, ?_⟩))
      go_roundg k1
      case measure => have := HK1.out; omega
      case rel => exact ⟨(wrap64 (x5_1 + 1)), (by first | rfl | (simp; done) | (simp [*]; done)), H', ⟨by have := HK1.out; omega⟩, ⟨by (with_reducible repeat (first | refine blk_drewN ?_ _ | refine blk_drew ?_ | refine blk_alloc ?_ _)); exact BK310.out⟩, ⟨by repeat (first | (with_reducible first | exact HB.out | apply below_alloc | apply pw_below_drewN | apply below_drew1 | refine below_set ?_ GE310.out) | exact HB.out)⟩⟩
    ·
     rw [if_neg c5] at H
     exact absurd H (by simp)
   ·
    rw [if_neg c4] at H
    have c4b0 : decide (x5_1 < (l1_0.length : Int)) = false := decide_eq_false c4
    clear c4
    have H' := Aside0.mk H
    clear H
    have hcz10_0 : wr.cell? ⟨gb310, 0, none⟩ = some (.slice A1_0 l1_0.length c1_0) := (blk_cell BK310.out 0).trans rfl
    have hcz10_1 : wr.cell? ⟨gb310, 1, none⟩ = some (.string a1_1) := (blk_cell BK310.out 1).trans rfl
    have hcz10_2 : wr.cell? ⟨gb310, 2, none⟩ = some (.slice A1_2 l1_2.length c1_2) := (blk_cell BK310.out 2).trans rfl
    have hcz10_3 : wr.cell? ⟨gb310, 3, none⟩ = some (.string a1_3) := (blk_cell BK310.out 3).trans rfl
    have hcz10_4 : wr.cell? ⟨gb310, 4, none⟩ = some (.bool a1_4) := (blk_cell BK310.out 4).trans rfl
    have hcz10_5 : wr.cell? ⟨gb310, 5, none⟩ = some (.int .i64 a1_5) := (blk_cell BK310.out 5).trans rfl
    have hfz10_0 := blk_frozen BK310.out 0
    have hfz10_1 := blk_frozen BK310.out 1
    have hfz10_2 := blk_frozen BK310.out 2
    have hfz10_3 := blk_frozen BK310.out 3
    have hfz10_4 := blk_frozen BK310.out 4
    have hfz10_5 := blk_frozen BK310.out 5
    go_wp2
    go_loopg [6] k1 (fun kq v6 w' => ∃ (x6_2 : Int), v6 = .int .i64 x6_2 ∧ Aside0 (cairnref32_known.l1 kq l0 x6_2 l1_0 a1_1 l1_2 a1_3 a1_4 a1_5 = some r) ∧ Aside0 (kq ≤ k1) ∧ Aside0 (w'.heap[gb310]? = some (.cells #[(.slice A1_0 l1_0.length c1_0), .string a1_1, (.slice A1_2 l1_2.length c1_2), .string a1_3, .bool a1_4, .int .i64 a1_5] 31 (0, 0))) ∧ Aside0 (Below w.heap.size w w'))
    case atStart => exact ⟨(0), (by first | rfl | (simp; done) | (simp [*]; done)), H', ⟨Nat.le_refl _⟩, ⟨by (with_reducible repeat (first | refine blk_drewN ?_ _ | refine blk_drew ?_ | refine blk_alloc ?_ _)); exact BK310.out⟩, ⟨by repeat (first | (with_reducible first | exact HB.out | apply below_alloc | apply pw_below_drewN | apply below_drew1 | refine below_set ?_ GE310.out) | exact HB.out)⟩⟩
    case round =>
     clear H'
     try clear c4
     try clear c4b0
     try clear hcz10_0
     try clear hcz10_1
     try clear hcz10_2
     try clear hcz10_3
     try clear hcz10_4
     try clear hcz10_5
     try clear hfz10_0
     try clear hfz10_1
     try clear hfz10_2
     try clear hfz10_3
     try clear hfz10_4
     try clear hfz10_5
     obtain ⟨x6_2, rfl, HA, HK2, BK310, HB⟩ := hrel
     cases gk with
     | zero => exact absurd HA.out (by simp [cairnref32_known.l1])
     | succ k2 =>
      have H := HA.out
      clear HA
      simp only [cairnref32_known.l1] at H
      by_cases c11 : x6_2 < (l1_2.length : Int)
      ·
       rw [if_pos c11] at H
       have c11b0 : decide (x6_2 < (l1_2.length : Int)) = true := decide_eq_true c11
       clear c11
       by_cases c12 : 0 ≤ x6_2
       ·
        rw [if_pos c12] at H
        have c12b0 : decide (0 ≤ x6_2) = true := decide_eq_true c12
        clear c12
        replace H := Option.bind_eq_some_iff.mp H
        obtain ⟨t314, A130, H⟩ := H
        replace H : (if t314 < 0 then (some false) else (cairnref32_known.l1 k2 l0 (wrap64 (x6_2 + 1)) l1_0 a1_1 l1_2 a1_3 a1_4 a1_5)) = some r := H
        have A13 := Aside0.mk A130
        clear A130
        by_cases c14 : t314 < 0
        ·
         rw [if_pos c14] at H
         have c14b0 : decide (t314 < 0) = true := decide_eq_true c14
         clear c14
         obtain rfl := Option.some.inj H
         have hcz15_0 : wr.cell? ⟨gb310, 0, none⟩ = some (.slice A1_0 l1_0.length c1_0) := (blk_cell BK310.out 0).trans rfl
         have hcz15_1 : wr.cell? ⟨gb310, 1, none⟩ = some (.string a1_1) := (blk_cell BK310.out 1).trans rfl
         have hcz15_2 : wr.cell? ⟨gb310, 2, none⟩ = some (.slice A1_2 l1_2.length c1_2) := (blk_cell BK310.out 2).trans rfl
         have hcz15_3 : wr.cell? ⟨gb310, 3, none⟩ = some (.string a1_3) := (blk_cell BK310.out 3).trans rfl
         have hcz15_4 : wr.cell? ⟨gb310, 4, none⟩ = some (.bool a1_4) := (blk_cell BK310.out 4).trans rfl
         have hcz15_5 : wr.cell? ⟨gb310, 5, none⟩ = some (.int .i64 a1_5) := (blk_cell BK310.out 5).trans rfl
         have hfz15_0 := blk_frozen BK310.out 0
         have hfz15_1 := blk_frozen BK310.out 1
         have hfz15_2 := blk_frozen BK310.out 2
         have hfz15_3 := blk_frozen BK310.out 3
         have hfz15_4 := blk_frozen BK310.out 4
         have hfz15_5 := blk_frozen BK310.out 5
         have p313 : 0 ≤ (x6_2 : Int) := of_decide_eq_true (by first | (with_reducible assumption) | assumption)
         have q313 : x6_2 < (l1_2.length : Int) := of_decide_eq_true (by first | (with_reducible assumption) | assumption)
         obtain ⟨ad313, e313, hx313_0, hx313_1, hx313_2⟩ := at_T70 HR1_2.out x6_2 p313 q313
         cases e313
         replace hx313_0 := (HB.out.cell (World.block_lt_of_cell? w _ hx313_0)).trans hx313_0
         replace hx313_1 := (HB.out.cell (World.block_lt_of_cell? w _ hx313_1)).trans hx313_1
         replace hx313_2 := (HB.out.cell (World.block_lt_of_cell? w _ hx313_2)).trans hx313_2
         replace p313 := eq_true p313
         replace q313 := eq_true q313
         go_wp2_with (first | ((with_reducible refine gate_callee (f := 59) rfl ?_); refine goesL_ (some 36) rfl rfl Tryz.func59 (by kernel_rfl) rfl #[.slice A0 l0.length c0, .string ((rd_T70 l1_2 x6_2).f0)] rfl (by (try simp only [List.map_toArray, List.map_cons, List.map_nil]); first | done | rfl | (simp only [List.length_drop, List.length_take]; rfl)) ?_; (with_reducible refine (cairnref32_place.calls k2 _ _ l0 ((rd_T70 l1_2 x6_2).f0) t314 _ ?side1 ?side2 A13.out).mono ?_); (case side1 => repeat (first | exact (Kd.C_below HR0.out HB.out) | (with_reducible refine Kd.C_alloc ?_ _) | (with_reducible refine Kd.C_drewN ?_ _) | (with_reducible refine Kd.C_drew ?_))); (case side2 => exact HC0.out); rintro e w' ⟨rfl, ⟨nd, rfl⟩⟩; refine ⟨_, rfl, ?_⟩))
         go_ret
         exact ⟨by first | rfl | (simp [errW_none, errW_some] <;> rfl) | (simp [*, errW_none, errW_some] <;> rfl), by repeat (first | (with_reducible first | exact HB.out | apply below_alloc | apply pw_below_drewN | apply below_drew1 | refine below_set ?_ GE310.out) | exact HB.out)⟩
        ·
         rw [if_neg c14] at H
         have c14b0 : decide (t314 < 0) = false := decide_eq_false c14
         clear c14
         have H' := Aside0.mk H
         clear H
         have hcz16_0 : wr.cell? ⟨gb310, 0, none⟩ = some (.slice A1_0 l1_0.length c1_0) := (blk_cell BK310.out 0).trans rfl
         have hcz16_1 : wr.cell? ⟨gb310, 1, none⟩ = some (.string a1_1) := (blk_cell BK310.out 1).trans rfl
         have hcz16_2 : wr.cell? ⟨gb310, 2, none⟩ = some (.slice A1_2 l1_2.length c1_2) := (blk_cell BK310.out 2).trans rfl
         have hcz16_3 : wr.cell? ⟨gb310, 3, none⟩ = some (.string a1_3) := (blk_cell BK310.out 3).trans rfl
         have hcz16_4 : wr.cell? ⟨gb310, 4, none⟩ = some (.bool a1_4) := (blk_cell BK310.out 4).trans rfl
         have hcz16_5 : wr.cell? ⟨gb310, 5, none⟩ = some (.int .i64 a1_5) := (blk_cell BK310.out 5).trans rfl
         have hfz16_0 := blk_frozen BK310.out 0
         have hfz16_1 := blk_frozen BK310.out 1
         have hfz16_2 := blk_frozen BK310.out 2
         have hfz16_3 := blk_frozen BK310.out 3
         have hfz16_4 := blk_frozen BK310.out 4
         have hfz16_5 := blk_frozen BK310.out 5
         have p313 : 0 ≤ (x6_2 : Int) := of_decide_eq_true (by first | (with_reducible assumption) | assumption)
         have q313 : x6_2 < (l1_2.length : Int) := of_decide_eq_true (by first | (with_reducible assumption) | assumption)
         obtain ⟨ad313, e313, hx313_0, hx313_1, hx313_2⟩ := at_T70 HR1_2.out x6_2 p313 q313
         cases e313
         replace hx313_0 := (HB.out.cell (World.block_lt_of_cell? w _ hx313_0)).trans hx313_0
         replace hx313_1 := (HB.out.cell (World.block_lt_of_cell? w _ hx313_1)).trans hx313_1
         replace hx313_2 := (HB.out.cell (World.block_lt_of_cell? w _ hx313_2)).trans hx313_2
         replace p313 := eq_true p313
         replace q313 := eq_true q313
         go_wp2_with (first | ((with_reducible refine gate_callee (f := 59) rfl ?_); refine goesL_ (some 36) rfl rfl Tryz.func59 (by kernel_rfl) rfl #[.slice A0 l0.length c0, .string ((rd_T70 l1_2 x6_2).f0)] rfl (by (try simp only [List.map_toArray, List.map_cons, List.map_nil]); first | done | rfl | (simp only [List.length_drop, List.length_take]; rfl)) ?_; (with_reducible refine (cairnref32_place.calls k2 _ _ l0 ((rd_T70 l1_2 x6_2).f0) t314 _ ?side1 ?side2 A13.out).mono ?_); (case side1 => repeat (first | exact (Kd.C_below HR0.out HB.out) | (with_reducible refine Kd.C_alloc ?_ _) | (with_reducible refine Kd.C_drewN ?_ _) | (with_reducible refine Kd.C_drew ?_))); (case side2 => exact HC0.out); rintro e w' ⟨rfl, ⟨nd, rfl⟩⟩; refine ⟨_, rfl, ?_⟩))
         go_roundg k2
         case measure => have := HK1.out; have := HK2.out; omega
         case rel => exact ⟨(wrap64 (x6_2 + 1)), (by first | rfl | (simp; done) | (simp [*]; done)), H', ⟨by have := HK1.out; have := HK2.out; omega⟩, ⟨by (with_reducible repeat (first | refine blk_drewN ?_ _ | refine blk_drew ?_ | refine blk_alloc ?_ _)); exact BK310.out⟩, ⟨by repeat (first | (with_reducible first | exact HB.out | apply below_alloc | apply pw_below_drewN | apply below_drew1 | refine below_set ?_ GE310.out) | exact HB.out)⟩⟩
       ·
        rw [if_neg c12] at H
        exact absurd H (by simp)
      ·
       rw [if_neg c11] at H
       have c11b0 : decide (x6_2 < (l1_2.length : Int)) = false := decide_eq_false c11
       clear c11
       by_cases c17 : a1_3.toList = ([] : List UInt8)
       ·
        rw [if_pos c17] at H
        have c17b0 : (a1_3.toList == ([] : List UInt8)) = true := beq_iff_eq.mpr c17
        have c17b1 : (a1_3.toList != ([] : List UInt8)) = false := bne_eq_false_iff_eq.mpr c17
        clear c17
        obtain rfl := Option.some.inj H
        have hcz18_0 : wr.cell? ⟨gb310, 0, none⟩ = some (.slice A1_0 l1_0.length c1_0) := (blk_cell BK310.out 0).trans rfl
        have hcz18_1 : wr.cell? ⟨gb310, 1, none⟩ = some (.string a1_1) := (blk_cell BK310.out 1).trans rfl
        have hcz18_2 : wr.cell? ⟨gb310, 2, none⟩ = some (.slice A1_2 l1_2.length c1_2) := (blk_cell BK310.out 2).trans rfl
        have hcz18_3 : wr.cell? ⟨gb310, 3, none⟩ = some (.string a1_3) := (blk_cell BK310.out 3).trans rfl
        have hcz18_4 : wr.cell? ⟨gb310, 4, none⟩ = some (.bool a1_4) := (blk_cell BK310.out 4).trans rfl
        have hcz18_5 : wr.cell? ⟨gb310, 5, none⟩ = some (.int .i64 a1_5) := (blk_cell BK310.out 5).trans rfl
        have hfz18_0 := blk_frozen BK310.out 0
        have hfz18_1 := blk_frozen BK310.out 1
        have hfz18_2 := blk_frozen BK310.out 2
        have hfz18_3 := blk_frozen BK310.out 3
        have hfz18_4 := blk_frozen BK310.out 4
        have hfz18_5 := blk_frozen BK310.out 5
        go_wp2
        go_ret
        exact ⟨by first | rfl | (simp [errW_none, errW_some] <;> rfl) | (simp [*, errW_none, errW_some] <;> rfl), by repeat (first | (with_reducible first | exact HB.out | apply below_alloc | apply pw_below_drewN | apply below_drew1 | refine below_set ?_ GE310.out) | exact HB.out)⟩
       ·
        rw [if_neg c17] at H
        have c17b0 : (a1_3.toList == ([] : List UInt8)) = false := beq_eq_false_iff_ne.mpr c17
        have c17b1 : (a1_3.toList != ([] : List UInt8)) = true := bne_iff_ne.mpr c17
        replace H := Option.bind_eq_some_iff.mp H
        obtain ⟨t315, A190, H⟩ := H
        replace H : (some (decide (t315 ≥ 0))) = some r := H
        have A19 := Aside0.mk A190
        clear A190
        obtain rfl := Option.some.inj H
        have hcz20_0 : wr.cell? ⟨gb310, 0, none⟩ = some (.slice A1_0 l1_0.length c1_0) := (blk_cell BK310.out 0).trans rfl
        have hcz20_1 : wr.cell? ⟨gb310, 1, none⟩ = some (.string a1_1) := (blk_cell BK310.out 1).trans rfl
        have hcz20_2 : wr.cell? ⟨gb310, 2, none⟩ = some (.slice A1_2 l1_2.length c1_2) := (blk_cell BK310.out 2).trans rfl
        have hcz20_3 : wr.cell? ⟨gb310, 3, none⟩ = some (.string a1_3) := (blk_cell BK310.out 3).trans rfl
        have hcz20_4 : wr.cell? ⟨gb310, 4, none⟩ = some (.bool a1_4) := (blk_cell BK310.out 4).trans rfl
        have hcz20_5 : wr.cell? ⟨gb310, 5, none⟩ = some (.int .i64 a1_5) := (blk_cell BK310.out 5).trans rfl
        have hfz20_0 := blk_frozen BK310.out 0
        have hfz20_1 := blk_frozen BK310.out 1
        have hfz20_2 := blk_frozen BK310.out 2
        have hfz20_3 := blk_frozen BK310.out 3
        have hfz20_4 := blk_frozen BK310.out 4
        have hfz20_5 := blk_frozen BK310.out 5
        go_wp2_with (first | (go_at_call 59; (with_reducible refine (cairnref32_place.calls k2 _ _ l0 a1_3 t315 _ ?side1 ?side2 A19.out).mono ?_); (case side1 => repeat (first | exact (Kd.C_below HR0.out HB.out) | (with_reducible refine Kd.C_alloc ?_ _) | (with_reducible refine Kd.C_drewN ?_ _) | (with_reducible refine Kd.C_drew ?_))); (case side2 => exact HC0.out); rintro e w' ⟨rfl, ⟨nd, rfl⟩⟩))
        go_ret
        exact ⟨by first | rfl | (simp [errW_none, errW_some] <;> rfl) | (simp [*, errW_none, errW_some] <;> rfl), by repeat (first | (with_reducible first | exact HB.out | apply below_alloc | apply pw_below_drewN | apply below_drew1 | refine below_set ?_ GE310.out) | exact HB.out)⟩
def cairnref32_Asked.l0 : Nat → ByteArray → Int → List ByteArray → ByteArray → List (S70) → ByteArray → Bool → Int → Option (ByteArray × Bool)
 | 0, _, _, _, _, _, _, _, _ => none
 | k + 1, x1, x6, x317000, x317001, x317002, x317003, x317004, x317005 => if x6 < (x317002.length : Int) then (if 0 ≤ x6 then (if ((rd_T70 x317002 x6).f1) = 1 then (if ((rd_T70 x317002 x6).f0).toList = x1.toList then (some ((rd_T70 x317002 x6).f2, true)) else (cairnref32_Asked.l0 k x1 (wrap64 (x6 + 1)) x317000 x317001 x317002 x317003 x317004 x317005)) else (cairnref32_Asked.l0 k x1 (wrap64 (x6 + 1)) x317000 x317001 x317002 x317003 x317004 x317005)) else (none)) else (some ((⟨#[]⟩ : ByteArray), false))
def cairnref32_Asked.f (k : Nat) (l0_0 : List ByteArray) (a0_1 : ByteArray) (l0_2 : List (S70)) (a0_3 : ByteArray) (a0_4 : Bool) (a0_5 : Int) (a1 : ByteArray) : Option (ByteArray × Bool) := cairnref32_Asked.l0 k a1 0 l0_0 a0_1 l0_2 a0_3 a0_4 a0_5
set_option maxHeartbeats 8000000 in
set_option maxRecDepth 100000 in
theorem cairnref32_Asked.calls (k : Nat) (A0_0 : Option Addr) (c0_0 : Nat) (l0_0 : List ByteArray) (a0_1 : ByteArray) (A0_2 : Option Addr) (c0_2 : Nat) (l0_2 : List (S70)) (a0_3 : ByteArray) (a0_4 : Bool) (a0_5 : Int) (a1 : ByteArray) (r1 : ByteArray) (r2 : Bool) (w : World) (hr0_0 : Kd.C Kd.string w A0_0 l0_0.length l0_0) (hc0_0 : l0_0.length ≤ c0_0) (hr0_2 : Kd.C k70 w A0_2 l0_2.length l0_2) (hc0_2 : l0_2.length ≤ c0_2) (h : cairnref32_Asked.f k l0_0 a0_1 l0_2 a0_3 a0_4 a0_5 a1 = some (r1, r2)) :
  Calls Tryz.prog 60 #[.agg #[.slice A0_0 l0_0.length c0_0, .string a0_1, .slice A0_2 l0_2.length c0_2, .string a0_3, .bool a0_4, .int .i64 a0_5], .string a1] w fun e w' => e = .returned (.tuple #[.string r1, .bool r2]) ∧ Below w.heap.size w w' := by
 have hu31 := Tryz.underlying31
 have HR0_0 := Aside0.mk hr0_0
 have HC0_0 := Aside0.mk hc0_0
 clear hr0_0 hc0_0
 have HR0_2 := Aside0.mk hr0_2
 have HC0_2 := Aside0.mk hc0_2
 clear hr0_2 hc0_2
 have HB := Aside0.mk (Below.refl w.heap.size w)
 have H : (cairnref32_Asked.l0 k a1 0 l0_0 a0_1 l0_2 a0_3 a0_4 a0_5) = some (r1, r2) := h
 clear h
 have H' := Aside0.mk H
 clear H
 go_enter Tryz.func60, Tryz.ntmps60
 go_wp2_with (first | ((with_reducible refine gate_dst (N := 2) rfl ?_); refine box_event ?hg (N := 2) ?hd (cs := #[.slice A0_0 l0_0.length c0_0, .string a0_1, .slice A0_2 l0_2.length c0_2, .string a0_3, .bool a0_4, .int .i64 a0_5]) (t := 31) ?hr ?_; (case hd => rfl); (case hg => rfl); (case hr => first | (go_simp; done) | (go_simp; rfl)); intro gb316 hg w3 hbox hb; have n0_ := Aside0.mk (below_step (by repeat (first | (with_reducible first | exact HB.out | apply below_alloc | apply pw_below_drewN | apply below_drew1) | exact HB.out)) hb); have n1_ := Aside0.mk (hbox); have n2_ := Aside0.mk ((by rw [hg]; exact (below_size (by repeat (first | (with_reducible first | exact HB.out | apply below_alloc | apply pw_below_drewN | apply below_drew1) | exact HB.out))) : w.heap.size ≤ gb316)); have n3_ := Aside0.mk ((by rw [hg]; exact (below_size (by repeat (first | (with_reducible first | exact HB.out | apply below_alloc | apply pw_below_drewN | apply below_drew1) | exact HB.out))) : w.heap.size ≤ gb316)); clear HB; have HB := n0_; have BK316 := n1_; have GW316 := n2_; have GE316 := n3_; clear n0_ n1_ n2_ n3_; clear hb hbox hg))
 go_loopg [6] k (fun kq v6 w' => ∃ (x6_1 : Int), v6 = .int .i64 x6_1 ∧ Aside0 (cairnref32_Asked.l0 kq a1 x6_1 l0_0 a0_1 l0_2 a0_3 a0_4 a0_5 = some (r1, r2)) ∧ Aside0 (kq ≤ k) ∧ Aside0 (w'.heap[gb316]? = some (.cells #[(.slice A0_0 l0_0.length c0_0), .string a0_1, (.slice A0_2 l0_2.length c0_2), .string a0_3, .bool a0_4, .int .i64 a0_5] 31 (0, 0))) ∧ Aside0 (Below w.heap.size w w'))
 case atStart => exact ⟨(0), (by first | rfl | (simp; done) | (simp [*]; done)), H', ⟨Nat.le_refl _⟩, ⟨by (with_reducible repeat (first | refine blk_drewN ?_ _ | refine blk_drew ?_ | refine blk_alloc ?_ _)); exact BK316.out⟩, ⟨by repeat (first | (with_reducible first | exact HB.out | apply below_alloc | apply pw_below_drewN | apply below_drew1 | refine below_set ?_ GE316.out) | exact HB.out)⟩⟩
 case round =>
  clear H'
  obtain ⟨x6_1, rfl, HA, HK1, BK316, HB⟩ := hrel
  cases gk with
  | zero => exact absurd HA.out (by simp [cairnref32_Asked.l0])
  | succ k1 =>
   have H := HA.out
   clear HA
   simp only [cairnref32_Asked.l0] at H
   by_cases c4 : x6_1 < (l0_2.length : Int)
   ·
    rw [if_pos c4] at H
    have c4b0 : decide (x6_1 < (l0_2.length : Int)) = true := decide_eq_true c4
    clear c4
    by_cases c5 : 0 ≤ x6_1
    ·
     rw [if_pos c5] at H
     have c5b0 : decide (0 ≤ x6_1) = true := decide_eq_true c5
     clear c5
     by_cases c6 : ((rd_T70 l0_2 x6_1).f1) = 1
     ·
      rw [if_pos c6] at H
      have c6b0 : (((rd_T70 l0_2 x6_1).f1) == 1) = true := beq_iff_eq.mpr c6
      have c6b1 : (((rd_T70 l0_2 x6_1).f1) != 1) = false := bne_eq_false_iff_eq.mpr c6
      clear c6
      by_cases c7 : ((rd_T70 l0_2 x6_1).f0).toList = a1.toList
      ·
       rw [if_pos c7] at H
       have c7b0 : (((rd_T70 l0_2 x6_1).f0).toList == a1.toList) = true := beq_iff_eq.mpr c7
       have c7b1 : (((rd_T70 l0_2 x6_1).f0).toList != a1.toList) = false := bne_eq_false_iff_eq.mpr c7
       clear c7
       simp only [Option.some.injEq, Prod.mk.injEq] at H
       obtain ⟨rfl, rfl⟩ := H
       have hcz8_0 : wr.cell? ⟨gb316, 0, none⟩ = some (.slice A0_0 l0_0.length c0_0) := (blk_cell BK316.out 0).trans rfl
       have hcz8_1 : wr.cell? ⟨gb316, 1, none⟩ = some (.string a0_1) := (blk_cell BK316.out 1).trans rfl
       have hcz8_2 : wr.cell? ⟨gb316, 2, none⟩ = some (.slice A0_2 l0_2.length c0_2) := (blk_cell BK316.out 2).trans rfl
       have hcz8_3 : wr.cell? ⟨gb316, 3, none⟩ = some (.string a0_3) := (blk_cell BK316.out 3).trans rfl
       have hcz8_4 : wr.cell? ⟨gb316, 4, none⟩ = some (.bool a0_4) := (blk_cell BK316.out 4).trans rfl
       have hcz8_5 : wr.cell? ⟨gb316, 5, none⟩ = some (.int .i64 a0_5) := (blk_cell BK316.out 5).trans rfl
       have hfz8_0 := blk_frozen BK316.out 0
       have hfz8_1 := blk_frozen BK316.out 1
       have hfz8_2 := blk_frozen BK316.out 2
       have hfz8_3 := blk_frozen BK316.out 3
       have hfz8_4 := blk_frozen BK316.out 4
       have hfz8_5 := blk_frozen BK316.out 5
       have p317 : 0 ≤ (x6_1 : Int) := of_decide_eq_true (by first | (with_reducible assumption) | assumption)
       have q317 : x6_1 < (l0_2.length : Int) := of_decide_eq_true (by first | (with_reducible assumption) | assumption)
       obtain ⟨ad317, e317, hx317_0, hx317_1, hx317_2⟩ := at_T70 HR0_2.out x6_1 p317 q317
       cases e317
       replace hx317_0 := (HB.out.cell (World.block_lt_of_cell? w _ hx317_0)).trans hx317_0
       replace hx317_1 := (HB.out.cell (World.block_lt_of_cell? w _ hx317_1)).trans hx317_1
       replace hx317_2 := (HB.out.cell (World.block_lt_of_cell? w _ hx317_2)).trans hx317_2
       replace p317 := eq_true p317
       replace q317 := eq_true q317
       have p318 : 0 ≤ (x6_1 : Int) := of_decide_eq_true (by first | (with_reducible assumption) | assumption)
       have q318 : x6_1 < (l0_2.length : Int) := of_decide_eq_true (by first | (with_reducible assumption) | assumption)
       obtain ⟨ad318, e318, hx318_0, hx318_1, hx318_2⟩ := at_T70 HR0_2.out x6_1 p318 q318
       obtain rfl : ad317 = ad318 := (by injection e318)
       replace hx318_0 := (HB.out.cell (World.block_lt_of_cell? w _ hx318_0)).trans hx318_0
       replace hx318_1 := (HB.out.cell (World.block_lt_of_cell? w _ hx318_1)).trans hx318_1
       replace hx318_2 := (HB.out.cell (World.block_lt_of_cell? w _ hx318_2)).trans hx318_2
       replace p318 := eq_true p318
       replace q318 := eq_true q318
       have p319 : 0 ≤ (x6_1 : Int) := of_decide_eq_true (by first | (with_reducible assumption) | assumption)
       have q319 : x6_1 < (l0_2.length : Int) := of_decide_eq_true (by first | (with_reducible assumption) | assumption)
       obtain ⟨ad319, e319, hx319_0, hx319_1, hx319_2⟩ := at_T70 HR0_2.out x6_1 p319 q319
       obtain rfl : ad317 = ad319 := (by injection e319)
       replace hx319_0 := (HB.out.cell (World.block_lt_of_cell? w _ hx319_0)).trans hx319_0
       replace hx319_1 := (HB.out.cell (World.block_lt_of_cell? w _ hx319_1)).trans hx319_1
       replace hx319_2 := (HB.out.cell (World.block_lt_of_cell? w _ hx319_2)).trans hx319_2
       replace p319 := eq_true p319
       replace q319 := eq_true q319
       go_wp2
       go_ret2
       exact ⟨by first | rfl | (simp [errW_none, errW_some] <;> rfl) | (simp [*, errW_none, errW_some] <;> rfl), by repeat (first | (with_reducible first | exact HB.out | apply below_alloc | apply pw_below_drewN | apply below_drew1 | refine below_set ?_ GE316.out) | exact HB.out)⟩
      ·
       rw [if_neg c7] at H
       have c7b0 : (((rd_T70 l0_2 x6_1).f0).toList == a1.toList) = false := beq_eq_false_iff_ne.mpr c7
       have c7b1 : (((rd_T70 l0_2 x6_1).f0).toList != a1.toList) = true := bne_iff_ne.mpr c7
       have H' := Aside0.mk H
       clear H
       have hcz9_0 : wr.cell? ⟨gb316, 0, none⟩ = some (.slice A0_0 l0_0.length c0_0) := (blk_cell BK316.out 0).trans rfl
       have hcz9_1 : wr.cell? ⟨gb316, 1, none⟩ = some (.string a0_1) := (blk_cell BK316.out 1).trans rfl
       have hcz9_2 : wr.cell? ⟨gb316, 2, none⟩ = some (.slice A0_2 l0_2.length c0_2) := (blk_cell BK316.out 2).trans rfl
       have hcz9_3 : wr.cell? ⟨gb316, 3, none⟩ = some (.string a0_3) := (blk_cell BK316.out 3).trans rfl
       have hcz9_4 : wr.cell? ⟨gb316, 4, none⟩ = some (.bool a0_4) := (blk_cell BK316.out 4).trans rfl
       have hcz9_5 : wr.cell? ⟨gb316, 5, none⟩ = some (.int .i64 a0_5) := (blk_cell BK316.out 5).trans rfl
       have hfz9_0 := blk_frozen BK316.out 0
       have hfz9_1 := blk_frozen BK316.out 1
       have hfz9_2 := blk_frozen BK316.out 2
       have hfz9_3 := blk_frozen BK316.out 3
       have hfz9_4 := blk_frozen BK316.out 4
       have hfz9_5 := blk_frozen BK316.out 5
       have p317 : 0 ≤ (x6_1 : Int) := of_decide_eq_true (by first | (with_reducible assumption) | assumption)
       have q317 : x6_1 < (l0_2.length : Int) := of_decide_eq_true (by first | (with_reducible assumption) | assumption)
       obtain ⟨ad317, e317, hx317_0, hx317_1, hx317_2⟩ := at_T70 HR0_2.out x6_1 p317 q317
       cases e317
       replace hx317_0 := (HB.out.cell (World.block_lt_of_cell? w _ hx317_0)).trans hx317_0
       replace hx317_1 := (HB.out.cell (World.block_lt_of_cell? w _ hx317_1)).trans hx317_1
       replace hx317_2 := (HB.out.cell (World.block_lt_of_cell? w _ hx317_2)).trans hx317_2
       replace p317 := eq_true p317
       replace q317 := eq_true q317
       have p318 : 0 ≤ (x6_1 : Int) := of_decide_eq_true (by first | (with_reducible assumption) | assumption)
       have q318 : x6_1 < (l0_2.length : Int) := of_decide_eq_true (by first | (with_reducible assumption) | assumption)
       obtain ⟨ad318, e318, hx318_0, hx318_1, hx318_2⟩ := at_T70 HR0_2.out x6_1 p318 q318
       obtain rfl : ad317 = ad318 := (by injection e318)
       replace hx318_0 := (HB.out.cell (World.block_lt_of_cell? w _ hx318_0)).trans hx318_0
       replace hx318_1 := (HB.out.cell (World.block_lt_of_cell? w _ hx318_1)).trans hx318_1
       replace hx318_2 := (HB.out.cell (World.block_lt_of_cell? w _ hx318_2)).trans hx318_2
       replace p318 := eq_true p318
       replace q318 := eq_true q318
       go_wp2
       go_roundg k1
       case measure => have := HK1.out; omega
       case rel => exact ⟨(wrap64 (x6_1 + 1)), (by first | rfl | (simp; done) | (simp [*]; done)), H', ⟨by have := HK1.out; omega⟩, ⟨by (with_reducible repeat (first | refine blk_drewN ?_ _ | refine blk_drew ?_ | refine blk_alloc ?_ _)); exact BK316.out⟩, ⟨by repeat (first | (with_reducible first | exact HB.out | apply below_alloc | apply pw_below_drewN | apply below_drew1 | refine below_set ?_ GE316.out) | exact HB.out)⟩⟩
     ·
      rw [if_neg c6] at H
      have c6b0 : (((rd_T70 l0_2 x6_1).f1) == 1) = false := beq_eq_false_iff_ne.mpr c6
      have c6b1 : (((rd_T70 l0_2 x6_1).f1) != 1) = true := bne_iff_ne.mpr c6
      have H' := Aside0.mk H
      clear H
      have hcz10_0 : wr.cell? ⟨gb316, 0, none⟩ = some (.slice A0_0 l0_0.length c0_0) := (blk_cell BK316.out 0).trans rfl
      have hcz10_1 : wr.cell? ⟨gb316, 1, none⟩ = some (.string a0_1) := (blk_cell BK316.out 1).trans rfl
      have hcz10_2 : wr.cell? ⟨gb316, 2, none⟩ = some (.slice A0_2 l0_2.length c0_2) := (blk_cell BK316.out 2).trans rfl
      have hcz10_3 : wr.cell? ⟨gb316, 3, none⟩ = some (.string a0_3) := (blk_cell BK316.out 3).trans rfl
      have hcz10_4 : wr.cell? ⟨gb316, 4, none⟩ = some (.bool a0_4) := (blk_cell BK316.out 4).trans rfl
      have hcz10_5 : wr.cell? ⟨gb316, 5, none⟩ = some (.int .i64 a0_5) := (blk_cell BK316.out 5).trans rfl
      have hfz10_0 := blk_frozen BK316.out 0
      have hfz10_1 := blk_frozen BK316.out 1
      have hfz10_2 := blk_frozen BK316.out 2
      have hfz10_3 := blk_frozen BK316.out 3
      have hfz10_4 := blk_frozen BK316.out 4
      have hfz10_5 := blk_frozen BK316.out 5
      have p317 : 0 ≤ (x6_1 : Int) := of_decide_eq_true (by first | (with_reducible assumption) | assumption)
      have q317 : x6_1 < (l0_2.length : Int) := of_decide_eq_true (by first | (with_reducible assumption) | assumption)
      obtain ⟨ad317, e317, hx317_0, hx317_1, hx317_2⟩ := at_T70 HR0_2.out x6_1 p317 q317
      cases e317
      replace hx317_0 := (HB.out.cell (World.block_lt_of_cell? w _ hx317_0)).trans hx317_0
      replace hx317_1 := (HB.out.cell (World.block_lt_of_cell? w _ hx317_1)).trans hx317_1
      replace hx317_2 := (HB.out.cell (World.block_lt_of_cell? w _ hx317_2)).trans hx317_2
      replace p317 := eq_true p317
      replace q317 := eq_true q317
      go_wp2
      go_roundg k1
      case measure => have := HK1.out; omega
      case rel => exact ⟨(wrap64 (x6_1 + 1)), (by first | rfl | (simp; done) | (simp [*]; done)), H', ⟨by have := HK1.out; omega⟩, ⟨by (with_reducible repeat (first | refine blk_drewN ?_ _ | refine blk_drew ?_ | refine blk_alloc ?_ _)); exact BK316.out⟩, ⟨by repeat (first | (with_reducible first | exact HB.out | apply below_alloc | apply pw_below_drewN | apply below_drew1 | refine below_set ?_ GE316.out) | exact HB.out)⟩⟩
    ·
     rw [if_neg c5] at H
     exact absurd H (by simp)
   ·
    rw [if_neg c4] at H
    have c4b0 : decide (x6_1 < (l0_2.length : Int)) = false := decide_eq_false c4
    clear c4
    simp only [Option.some.injEq, Prod.mk.injEq] at H
    obtain ⟨rfl, rfl⟩ := H
    have hcz11_0 : wr.cell? ⟨gb316, 0, none⟩ = some (.slice A0_0 l0_0.length c0_0) := (blk_cell BK316.out 0).trans rfl
    have hcz11_1 : wr.cell? ⟨gb316, 1, none⟩ = some (.string a0_1) := (blk_cell BK316.out 1).trans rfl
    have hcz11_2 : wr.cell? ⟨gb316, 2, none⟩ = some (.slice A0_2 l0_2.length c0_2) := (blk_cell BK316.out 2).trans rfl
    have hcz11_3 : wr.cell? ⟨gb316, 3, none⟩ = some (.string a0_3) := (blk_cell BK316.out 3).trans rfl
    have hcz11_4 : wr.cell? ⟨gb316, 4, none⟩ = some (.bool a0_4) := (blk_cell BK316.out 4).trans rfl
    have hcz11_5 : wr.cell? ⟨gb316, 5, none⟩ = some (.int .i64 a0_5) := (blk_cell BK316.out 5).trans rfl
    have hfz11_0 := blk_frozen BK316.out 0
    have hfz11_1 := blk_frozen BK316.out 1
    have hfz11_2 := blk_frozen BK316.out 2
    have hfz11_3 := blk_frozen BK316.out 3
    have hfz11_4 := blk_frozen BK316.out 4
    have hfz11_5 := blk_frozen BK316.out 5
    go_wp2
    go_ret2
    exact ⟨by first | rfl | (simp [errW_none, errW_some] <;> rfl) | (simp [*, errW_none, errW_some] <;> rfl), by repeat (first | (with_reducible first | exact HB.out | apply below_alloc | apply pw_below_drewN | apply below_drew1 | refine below_set ?_ GE316.out) | exact HB.out)⟩
end Go.Proofs.YthhemephaabblaaGreatDoor.Q
namespace Go.Proofs.YthhemephaabblaaGreatDoor.Q
open Go.RowKit  Go.Proofs.YthhemephaabblaaGreatDoorW.PrintWords Go.Proofs.YthhemephaabblaaGreatDoorW.PrintLast Go.Proofs.YthhemephaabblaaGreatDoorW.PrintMore
attribute [local go_sem] max2_int min2_int max_two min_two max_three min_three max_four min_four
set_option linter.unusedVariables false
set_option linter.unusedSimpArgs false
end Go.Proofs.YthhemephaabblaaGreatDoor.Q
namespace Go.Proofs.YthhemephaabblaaGreatDoor.Q
open Go.RowKit  Go.Proofs.YthhemephaabblaaGreatDoorW.PrintWords Go.Proofs.YthhemephaabblaaGreatDoorW.PrintLast Go.Proofs.YthhemephaabblaaGreatDoorW.PrintMore
attribute [local go_sem] max2_int min2_int max_two min_two max_three min_three max_four min_four
set_option linter.unusedVariables false
set_option linter.unusedSimpArgs false
def cairnref32_Keys.l0 : Nat → List Int → Int → ByteArray → List ByteArray → Int → List (List Int) → Option (List Int)
 | 0, _, _, _, _, _, _ => none
 | k + 1, x3, x4, x329000, x329001, x329002, x329003 => if x4 < x329002 then (if x4 < (x329001.length : Int) then (if x3.length < 17592186044416 then (cairnref32_Keys.l0 k (x3 ++ [x4]) (wrap64 (x4 + 1)) x329000 x329001 x329002 x329003) else (none)) else (some x3)) else (some x3)
def cairnref32_Keys.f (k : Nat) (a0_0 : ByteArray) (l0_1 : List ByteArray) (a0_2 : Int) (l0_3 : List (List Int)) : Option (List Int) := cairnref32_Keys.l0 k ([] : List Int) 0 a0_0 l0_1 a0_2 l0_3
set_option maxHeartbeats 8000000 in
set_option maxRecDepth 100000 in
theorem cairnref32_Keys.calls (k : Nat) (a0_0 : ByteArray) (A0_1 : Option Addr) (c0_1 : Nat) (l0_1 : List ByteArray) (a0_2 : Int) (A0_3 : Option Addr) (c0_3 : Nat) (l0_3 : List (List Int)) (r : List Int) (w : World) (hr0_1 : Kd.C Kd.string w A0_1 l0_1.length l0_1) (hc0_1 : l0_1.length ≤ c0_1) (hr0_3 : Kd.C (Kd.slice 3 (Kd.int .i64)) w A0_3 l0_3.length l0_3) (hc0_3 : l0_3.length ≤ c0_3) (h : cairnref32_Keys.f k a0_0 l0_1 a0_2 l0_3 = some r) :
  Calls Tryz.prog 38 #[.agg #[.string a0_0, .slice A0_1 l0_1.length c0_1, .int .i64 a0_2, .slice A0_3 l0_3.length c0_3]] w fun e w' => ∃ v0_ : Value, e = .returned (v0_) ∧ Kd.R (Kd.int .i64) 3 w' w.heap.size (fun _ => True) v0_ r ∧ Below w.heap.size w w' := by
 have hu49 := Tryz.underlying49
 have HR0_1 := Aside0.mk hr0_1
 have HC0_1 := Aside0.mk hc0_1
 clear hr0_1 hc0_1
 have HR0_3 := Aside0.mk hr0_3
 have HC0_3 := Aside0.mk hc0_3
 clear hr0_3 hc0_3
 have HB := Aside0.mk (Below.refl w.heap.size w)
 have H : (cairnref32_Keys.l0 k ([] : List Int) 0 a0_0 l0_1 a0_2 l0_3) = some r := h
 clear h
 have H' := Aside0.mk H
 clear H
 go_enter Tryz.func38, Tryz.ntmps38
 go_wp2_with (first | ((with_reducible refine gate_dst (N := 1) rfl ?_); (try (refine gate_guard (by rfl) ?_; dsimp only)); refine box_event ?hg (N := 1) ?hd (cs := #[.string a0_0, .slice A0_1 l0_1.length c0_1, .int .i64 a0_2, .slice A0_3 l0_3.length c0_3]) (t := 49) ?hr ?_; (case hd => rfl); (case hg => rfl); (case hr => first | (go_simp; done) | (go_simp; rfl)); intro gb328 hg w2 hbox hb; have n0_ := Aside0.mk (below_step (by repeat (first | (with_reducible first | exact HB.out | apply below_alloc | apply pw_below_drewN | apply below_drew1) | exact HB.out)) hb); have n1_ := Aside0.mk (hbox); have n2_ := Aside0.mk ((by rw [hg]; exact (below_size (by repeat (first | (with_reducible first | exact HB.out | apply below_alloc | apply pw_below_drewN | apply below_drew1) | exact HB.out))) : w.heap.size ≤ gb328)); have n3_ := Aside0.mk ((by rw [hg]; exact (below_size (by repeat (first | (with_reducible first | exact HB.out | apply below_alloc | apply pw_below_drewN | apply below_drew1) | exact HB.out))) : w.heap.size ≤ gb328)); clear HB; have HB := n0_; have BK328 := n1_; have GW328 := n2_; have GE328 := n3_; clear n0_ n1_ n2_ n3_; clear hb hbox hg))
 go_loopg [3, 4] k (fun kq v3 v4 w' => ∃ (x3_1 : List Int) (x4_1 : Int), v4 = .int .i64 x4_1 ∧ Aside0 (cairnref32_Keys.l0 kq x3_1 x4_1 a0_0 l0_1 a0_2 l0_3 = some r) ∧ Aside0 (kq ≤ k) ∧ Aside0 (Kd.R (Kd.int .i64) 3 w' w.heap.size (fun _ => True) v3 x3_1) ∧ Aside0 (w'.heap[gb328]? = some (.cells #[.string a0_0, (.slice A0_1 l0_1.length c0_1), .int .i64 a0_2, (.slice A0_3 l0_3.length c0_3)] 49 (0, 0))) ∧ Aside0 (Below w.heap.size w w'))
 case atStart => exact ⟨(([] : List Int)), (0), (by first | rfl | (simp; done) | (simp [*]; done)), H', ⟨Nat.le_refl _⟩, ⟨by first | exact Kd.R_nil _ _ _ _ _ | exact Kd.N_nil _ _ _ _ _ | exact Kd.V_nil _ _ _ _ _ | exact Kd.Q_nil _ _ _ _ _ | exact Kd.S_nil _ _ _ _ _⟩, ⟨by (with_reducible repeat (first | refine blk_drewN ?_ _ | refine blk_drew ?_ | refine blk_alloc ?_ _)); exact BK328.out⟩, ⟨by repeat (first | (with_reducible first | exact HB.out | apply below_alloc | apply pw_below_drewN | apply below_drew1 | refine below_set ?_ GE328.out) | exact HB.out)⟩⟩
 case round =>
  clear H'
  obtain ⟨x3_1, x4_1, rfl, HA, HK1, HO_3, BK328, HB⟩ := hrel
  cases gk with
  | zero => exact absurd HA.out (by simp [cairnref32_Keys.l0])
  | succ k1 =>
   have H := HA.out
   clear HA
   simp only [cairnref32_Keys.l0] at H
   by_cases c3 : x4_1 < a0_2
   ·
    rw [if_pos c3] at H
    have c3b0 : decide (x4_1 < a0_2) = true := decide_eq_true c3
    clear c3
    by_cases c4 : x4_1 < (l0_1.length : Int)
    ·
     rw [if_pos c4] at H
     have c4b0 : decide (x4_1 < (l0_1.length : Int)) = true := decide_eq_true c4
     clear c4
     by_cases c5 : x3_1.length < 17592186044416
     ·
      rw [if_pos c5] at H
      have LMc5 := Aside0.mk c5
      clear c5
      obtain ⟨y329, hy329⟩ : ∃ y_ : List Int, y_ = (x3_1 ++ [x4_1]) := ⟨_, rfl⟩
      replace H : (cairnref32_Keys.l0 k1 y329 (wrap64 (x4_1 + 1)) a0_0 l0_1 a0_2 l0_3) = some r := by first | (rw [hy329]; with_reducible exact H) | (have H2_ := (Option.bind_some _ _).symm.trans H; rw [hy329]; with_reducible exact H2_) | (have H2_ := (Option.bind_some _ _).symm.trans H; with_reducible exact H2_) | with_reducible exact H | (rw [hy329]; exact H) | exact H
      have Ny329 := Aside0.mk hy329
      clear hy329
      have H' := Aside0.mk H
      clear H
      have hcz6_0 : wr.cell? ⟨gb328, 0, none⟩ = some (.string a0_0) := (blk_cell BK328.out 0).trans rfl
      have hcz6_1 : wr.cell? ⟨gb328, 1, none⟩ = some (.slice A0_1 l0_1.length c0_1) := (blk_cell BK328.out 1).trans rfl
      have hcz6_2 : wr.cell? ⟨gb328, 2, none⟩ = some (.int .i64 a0_2) := (blk_cell BK328.out 2).trans rfl
      have hcz6_3 : wr.cell? ⟨gb328, 3, none⟩ = some (.slice A0_3 l0_3.length c0_3) := (blk_cell BK328.out 3).trans rfl
      have hfz6_0 := blk_frozen BK328.out 0
      have hfz6_1 := blk_frozen BK328.out 1
      have hfz6_2 := blk_frozen BK328.out 2
      have hfz6_3 := blk_frozen BK328.out 3
      go_wp2_with (first | ((with_reducible refine gate_builtin (b := .append) (xs := #[.tmp 18, .tmp 20]) rfl ?_); (try (refine gate_guard (by rfl) ?_; dsimp only)); at_builtin; refine Kd.R_append (Kd.int .i64) (w0 := w) w.heap.size rfl (.tmp 18) (.tmp 20) 50 3 (.int .i64 0) 8 rfl Tryz.underlying50 info3 rfl (by decide) (by omega) u3 x3_1 x4_1 [.int .i64 x4_1] (fun _ => True) (fun _ => False) rfl rfl ?aP (fun _ hk => hk.elim) ?aF ?aO ?aB ?aS ?aL ?_; (case aP => exact rfl); (case aB => exact (by repeat (first | (with_reducible first | exact HB.out | apply below_alloc | apply pw_below_drewN | apply below_drew1 | refine below_set ?_ GE328.out) | exact HB.out))); (case aF => exact (fun _ _ => trivial)); (case aO => exact (by (with_reducible repeat (first | apply Kd.R_alloc | apply Kd.R_drewN | apply Kd.R_drew)); exact HO_3.out)); (case aS => exact (below_size (by repeat (first | (with_reducible first | exact HB.out | apply below_alloc | apply pw_below_drewN | apply below_drew1 | refine below_set ?_ GE328.out) | exact HB.out)))); (case aL => have := LMc5.out; omega); intro v330 w7 ho hb hg hat; rw [← Ny329.out] at ho; have n0_ := Aside0.mk (blk_grown (g := gb328) (o := .cells #[.string a0_0, .slice A0_1 l0_1.length c0_1, .int .i64 a0_2, .slice A0_3 l0_3.length c0_3] 49 (0, 0)) (by (with_reducible repeat (first | refine blk_drewN ?_ _ | refine blk_drew ?_ | refine blk_alloc ?_ _)); exact BK328.out) hg (Kd.R_ne HO_3.out BK328.out (by decide))); have n1_ := Aside0.mk (hb); have n2_ := Aside0.mk (ho); clear BK328; clear HB; clear HO_3; have BK328 := n0_; have HB := n1_; have HO331 := n2_; clear n0_ n1_ n2_; clear ho hb hg hat))
      go_roundg k1
      case measure => have := HK1.out; omega
      case rel => exact ⟨(y329), (wrap64 (x4_1 + 1)), (by first | rfl | (simp; done) | (simp [*]; done)), H', ⟨by have := HK1.out; omega⟩, ⟨by (with_reducible repeat (first | apply Kd.R_alloc | apply Kd.R_drewN | apply Kd.R_drew)); exact HO331.out⟩, ⟨by (with_reducible repeat (first | refine blk_drewN ?_ _ | refine blk_drew ?_ | refine blk_alloc ?_ _)); exact BK328.out⟩, ⟨by repeat (first | (with_reducible first | exact HB.out | apply below_alloc | apply pw_below_drewN | apply below_drew1 | refine below_set ?_ GE328.out) | exact HB.out)⟩⟩
     ·
      rw [if_neg c5] at H
      exact absurd H (by simp)
    ·
     rw [if_neg c4] at H
     have c4b0 : decide (x4_1 < (l0_1.length : Int)) = false := decide_eq_false c4
     clear c4
     obtain rfl := Option.some.inj H
     have hcz8_0 : wr.cell? ⟨gb328, 0, none⟩ = some (.string a0_0) := (blk_cell BK328.out 0).trans rfl
     have hcz8_1 : wr.cell? ⟨gb328, 1, none⟩ = some (.slice A0_1 l0_1.length c0_1) := (blk_cell BK328.out 1).trans rfl
     have hcz8_2 : wr.cell? ⟨gb328, 2, none⟩ = some (.int .i64 a0_2) := (blk_cell BK328.out 2).trans rfl
     have hcz8_3 : wr.cell? ⟨gb328, 3, none⟩ = some (.slice A0_3 l0_3.length c0_3) := (blk_cell BK328.out 3).trans rfl
     have hfz8_0 := blk_frozen BK328.out 0
     have hfz8_1 := blk_frozen BK328.out 1
     have hfz8_2 := blk_frozen BK328.out 2
     have hfz8_3 := blk_frozen BK328.out 3
     go_wp2
     go_ret
     exact ⟨_, by first | rfl | (simp [errW_none, errW_some] <;> rfl) | (simp [*, errW_none, errW_some] <;> rfl), by (with_reducible repeat (first | apply Kd.R_alloc | apply Kd.R_drewN | apply Kd.R_drew)); exact HO_3.out, by repeat (first | (with_reducible first | exact HB.out | apply below_alloc | apply pw_below_drewN | apply below_drew1 | refine below_set ?_ GE328.out) | exact HB.out)⟩
   ·
    rw [if_neg c3] at H
    have c3b0 : decide (x4_1 < a0_2) = false := decide_eq_false c3
    clear c3
    obtain rfl := Option.some.inj H
    have hcz9_0 : wr.cell? ⟨gb328, 0, none⟩ = some (.string a0_0) := (blk_cell BK328.out 0).trans rfl
    have hcz9_1 : wr.cell? ⟨gb328, 1, none⟩ = some (.slice A0_1 l0_1.length c0_1) := (blk_cell BK328.out 1).trans rfl
    have hcz9_2 : wr.cell? ⟨gb328, 2, none⟩ = some (.int .i64 a0_2) := (blk_cell BK328.out 2).trans rfl
    have hcz9_3 : wr.cell? ⟨gb328, 3, none⟩ = some (.slice A0_3 l0_3.length c0_3) := (blk_cell BK328.out 3).trans rfl
    have hfz9_0 := blk_frozen BK328.out 0
    have hfz9_1 := blk_frozen BK328.out 1
    have hfz9_2 := blk_frozen BK328.out 2
    have hfz9_3 := blk_frozen BK328.out 3
    go_wp2
    go_ret
    exact ⟨_, by first | rfl | (simp [errW_none, errW_some] <;> rfl) | (simp [*, errW_none, errW_some] <;> rfl), by (with_reducible repeat (first | apply Kd.R_alloc | apply Kd.R_drewN | apply Kd.R_drew)); exact HO_3.out, by repeat (first | (with_reducible first | exact HB.out | apply below_alloc | apply pw_below_drewN | apply below_drew1 | refine below_set ?_ GE328.out) | exact HB.out)⟩
end Go.Proofs.YthhemephaabblaaGreatDoor.Q
namespace Go.Proofs.YthhemephaabblaaGreatDoor.Q
open Go.RowKit  Go.Proofs.YthhemephaabblaaGreatDoorW.PrintWords Go.Proofs.YthhemephaabblaaGreatDoorW.PrintLast Go.Proofs.YthhemephaabblaaGreatDoorW.PrintMore
attribute [local go_sem] max2_int min2_int max_two min_two max_three min_three max_four min_four
set_option linter.unusedVariables false
set_option linter.unusedSimpArgs false
end Go.Proofs.YthhemephaabblaaGreatDoor.Q
namespace Go.Proofs.YthhemephaabblaaGreatDoor.Hq
open Go.RowKit Go.Proofs.YthhemephaabblaaGreatDoorW.PrintWords Go.Proofs.YthhemephaabblaaGreatDoorW.PrintLast Go.Proofs.YthhemephaabblaaGreatDoorW.PrintMore Go.Proofs.YthhemephaabblaaGreatDoor Go.Proofs.YthhemephaabblaaGreatDoor.Q
set_option linter.unusedVariables false
set_option linter.unusedSimpArgs false
theorem strB_data (b : ByteArray) : strB b.data.toList = b := by
 apply ByteArray.ext
 show b.data.toList.toArray = b.data
 simp
theorem w64n (i : Nat) (h : i < 4611686018427387904) : wrap64 ((i : Int) + 1) = ((i + 1 : Nat) : Int) := by unfold wrap64; omega
theorem bt_strB (s : List UInt8) (i : Nat) (h : i < s.length) : bt (strB s) (i : Int) = (s[i].toNat : Int) := by
 unfold bt
 rw [dif_pos (by rw [strB_size]; simpa using h)]
 rfl
theorem loop_toList (b : ByteArray) (n i : Nat) (r : List UInt8) (hn : b.size - i = n) : ByteArray.toList.loop b i r = r.reverse ++ b.data.toList.drop i := by
 induction n generalizing i r with
 | zero =>
  unfold ByteArray.toList.loop
  rw [if_neg (by omega), List.drop_eq_nil_of_le (by simp; show b.size ≤ i; omega), List.append_nil]
 | succ n ih =>
  unfold ByteArray.toList.loop
  have hlt : i < b.size := by omega
  rw [if_pos hlt, ih (i + 1) _ (by omega), List.reverse_cons, List.append_assoc]
  congr 1
  have h2 : i < b.data.toList.length := by simpa using hlt
  rw [List.drop_eq_getElem_cons h2]
  have e : b.get! i = b.data.toList[i] := by
   show b.data[i]! = _
   rw [getElem!_pos b.data i hlt, Array.getElem_toList]
  rw [e]
  rfl
theorem toList_strB (s : List UInt8) : (strB s).toList = s := by
 unfold ByteArray.toList
 rw [loop_toList (strB s) _ 0 [] rfl]
 rfl
theorem extract_strB (s : List UInt8) (i j : Nat) : (strB s).extract i j = strB ((s.drop i).take (j - i)) := by
 apply ByteArray.ext
 rw [ByteArray.data_extract]
 show s.toArray.extract i j = ((s.drop i).take (j - i)).toArray
 rw [List.extract_toArray, List.extract_eq_take_drop]
theorem append_strB (s t : List UInt8) : strB s ++ strB t = strB (s ++ t) := by
 apply ByteArray.ext
 rw [ByteArray.data_append]
 show s.toArray ++ t.toArray = (s ++ t).toArray
 simp
theorem smI (c : UInt8) : isSm c = decide (97 ≤ (c.toNat : Int) ∧ (c.toNat : Int) ≤ 122) := by
 unfold isSm
 rw [Bool.eq_iff_iff]
 simp only [decide_eq_true_eq, UInt8.le_iff_toNat_le]
 show (97 ≤ c.toNat ∧ c.toNat ≤ 122) ↔ _
 omega
theorem dgI (c : UInt8) : isDg c = decide (48 ≤ (c.toNat : Int) ∧ (c.toNat : Int) ≤ 57) := by
 unfold isDg
 rw [Bool.eq_iff_iff]
 simp only [decide_eq_true_eq, UInt8.le_iff_toNat_le]
 show (48 ≤ c.toNat ∧ c.toNat ≤ 57) ↔ _
 omega
theorem small_f (c : UInt8) : query_small.f (c.toNat : Int) = some (isSm c) := by
 unfold query_small.f
 rw [smI]
 by_cases h : 97 ≤ (c.toNat : Int)
 ·
  rw [if_pos h]; simp [h]
 ·
  rw [if_neg h]; simp [h]
theorem digit_f (c : UInt8) : query_digit.f (c.toNat : Int) = some (isDg c) := by
 unfold query_digit.f
 rw [dgI]
 by_cases h : 48 ≤ (c.toNat : Int)
 ·
  rw [if_pos h]; simp [h]
 ·
  rw [if_neg h]; simp [h]
theorem rsmall_f (c : UInt8) : cairnref32_small.f (c.toNat : Int) = some (isSm c) := small_f c
theorem rdigit_f (c : UInt8) : cairnref32_digit.f (c.toNat : Int) = some (isDg c) := digit_f c
theorem wd95 (c : UInt8) : isWd c = (isSm c || (isDg c || decide ((c.toNat : Int) = 95))) := by
 have h95 : (decide (c = 95)) = decide ((c.toNat : Int) = 95) := by rw [Bool.eq_iff_iff]; simp [← UInt8.toNat_inj]; omega
 unfold isWd
 rw [← h95]
 simp
def nmB (s : List UInt8) : Bool := match s with
 | [] => false
 | c :: _ => decide (s.length ≤ 16) && isSm c && s.all isWd
theorem named_l0 (s : List UInt8) (hs : s.length ≤ 1000000000000) : ∀ (n k i : Nat), s.length - i = n → n < k → i ≤ s.length → query_named.l0 k (strB s) (i : Int) = some ((s.drop i).all isWd)
 | n, 0, i, _, hk, _ => by omega
 | n, k + 1, i, hn, hk, hi => by
  rw [query_named.l0, strB_size]
  by_cases hlt : i < s.length
  ·
   rw [if_pos (by omega), if_pos (by omega), bt_strB s i hlt, small_f, digit_f, w64n i (by omega), List.drop_eq_getElem_cons hlt, List.all_cons, wd95]
   have ih := named_l0 s hs (n - 1) k (i + 1) (by omega) (by omega) (by omega)
   rw [ih]
   simp only [Option.bind_some]
   cases isSm s[i] with
   | true => simp
   | false =>
    cases isDg s[i] with
    | true => simp
    | false =>
     by_cases h : (s[i].toNat : Int) = 95
     ·
      simp [h]
     ·
      simp [h]
  ·
   obtain rfl : i = s.length := by omega
   rw [if_neg (by omega), List.drop_length]; rfl
theorem named_f (s : List UInt8) (hs : s.length ≤ 1000000000000) (k : Nat) (hk : 20 < k) : query_named.f k (strB s) = some (nmB s) := by
 obtain ⟨k, rfl⟩ : ∃ m, k = m + 1 := ⟨k - 1, by omega⟩
 unfold query_named.f
 rw [toList_strB, strB_size]
 match s, hs with
 | [], _ => simp [query_named.j0, nmB]
 | c :: l, hs =>
  rw [if_neg (by simp)]
  by_cases h16 : (c :: l).length ≤ 16
  ·
   rw [if_neg (by omega), if_pos (by simp only [List.length_cons]; omega)]
   have hb : bt (strB (c :: l)) 0 = (c.toNat : Int) := bt_strB (c :: l) 0 (by simp)
   rw [hb, small_f]
   simp only [Option.bind_some, query_named.j0, nmB, decide_eq_true h16, Bool.true_and]
   cases hc : isSm c with
   | true =>
    have h1 := named_l0 (c :: l) hs _ k 1 rfl (by simp only [List.length_cons] at h16 ⊢; omega) (by simp)
    simp only [Bool.not_true, Bool.false_eq_true, if_false]
    rw [show (1 : Int) = ((1 : Nat) : Int) from rfl, h1]
    simp [isWd, hc]
   | false => simp
  ·
   rw [if_pos (by omega)]
   simp [query_named.j0, nmB]
   intro h
   simp only [List.length_cons] at h16
   omega
theorem rname_l0 (s : List UInt8) (hs : s.length ≤ 1000000000000) : ∀ (n k i : Nat), s.length - i = n → n < k → i ≤ s.length → cairnref32_Name.l0 k (strB s) (i : Int) = some ((s.drop i).all isWd)
 | n, 0, i, _, hk, _ => by omega
 | n, k + 1, i, hn, hk, hi => by
  rw [cairnref32_Name.l0, strB_size]
  by_cases hlt : i < s.length
  ·
   rw [if_pos (by omega), if_pos (by omega), bt_strB s i hlt, rsmall_f, rdigit_f, w64n i (by omega), List.drop_eq_getElem_cons hlt, List.all_cons, wd95]
   have ih := rname_l0 s hs (n - 1) k (i + 1) (by omega) (by omega) (by omega)
   rw [ih]
   simp only [Option.bind_some]
   cases isSm s[i] with
   | true => simp
   | false =>
    cases isDg s[i] with
    | true => simp
    | false =>
     by_cases h : (s[i].toNat : Int) = 95
     ·
      simp [h]
     ·
      simp [h]
  ·
   obtain rfl : i = s.length := by omega
   rw [if_neg (by omega), List.drop_length]; rfl
theorem rname_f (s : List UInt8) (hs : s.length ≤ 1000000000000) (k : Nat) (hk : 20 < k) : cairnref32_Name.f k (strB s) = some (nmB s) := by
 obtain ⟨k, rfl⟩ : ∃ m, k = m + 1 := ⟨k - 1, by omega⟩
 unfold cairnref32_Name.f
 rw [strB_size]
 match s, hs with
 | [], _ => simp [cairnref32_Name.j0, nmB]
 | c :: l, hs =>
  rw [if_neg (by simp only [List.length_cons]; omega)]
  by_cases h16 : (c :: l).length ≤ 16
  ·
   rw [if_neg (by omega), if_pos (by simp only [List.length_cons]; omega)]
   have hb : bt (strB (c :: l)) 0 = (c.toNat : Int) := bt_strB (c :: l) 0 (by simp)
   rw [hb, rsmall_f]
   simp only [Option.bind_some, cairnref32_Name.j0, nmB, decide_eq_true h16, Bool.true_and]
   cases hc : isSm c with
   | true =>
    have h1 := rname_l0 (c :: l) hs _ k 0 rfl (by simp only [List.length_cons] at h16 ⊢; omega) (by simp)
    simp only [Bool.not_true, Bool.false_eq_true, if_false]
    rw [show (0 : Int) = ((0 : Nat) : Int) from rfl, h1]
    simp
   | false => simp
  ·
   rw [if_pos (by omega)]
   simp [cairnref32_Name.j0, nmB]
   intro h
   simp only [List.length_cons] at h16
   omega
structure Tst where
 col : List UInt8
 op : Int
 val : List UInt8
structure Qry where
 cols : List (List UInt8)
 tab : List UInt8
 wh : List Tst
 ord : List UInt8
 down : Bool
 lim : Int
def t37 (t : Tst) : S37 := ⟨strB t.col, t.op, strB t.val⟩
def t70 (t : Tst) : S70 := ⟨strB t.col, t.op, strB t.val⟩
def tstB (t : Tst) : Bool := nmB t.col && decide (1 ≤ t.op) && decide (t.op ≤ 6) && decide (t.val.length ≤ 1024)
def mayQ (q : Qry) : Bool := decide (q.cols.length ≤ 8) && decide (q.wh.length ≤ 8) && nmB q.tab && q.cols.all nmB && q.wh.all tstB && (if q.ord = [] then !q.down else nmB q.ord) && decide (0 ≤ q.lim) && decide (q.lim ≤ 999999999)
def okQ (q : Qry) : Prop := (∀ c ∈ q.cols, c.length ≤ 1000000000000) ∧ q.tab.length ≤ 1000000000000 ∧ (∀ t ∈ q.wh, t.col.length ≤ 1000000000000 ∧ t.val.length ≤ 1000000000000) ∧ q.ord.length ≤ 1000000000000 ∧ q.cols.length ≤ 1000000000000 ∧ q.wh.length ≤ 1000000000000
theorem rdOf_map (l : List (List UInt8)) (i : Nat) (h : i < l.length) : rdOf ByteArray.empty (l.map strB) (i : Int) = strB l[i] := by
 unfold rdOf
 rw [Int.toNat_natCast, List.getD_eq_getElem?_getD, List.getElem?_eq_getElem (by simpa using h)]
 simp
theorem rd37 (l : List Tst) (i : Nat) (h : i < l.length) : rd_T37 (l.map t37) (i : Int) = t37 l[i] := by
 unfold rd_T37
 rw [Int.toNat_natCast, List.getD_eq_getElem?_getD, List.getElem?_eq_getElem (by simpa using h)]
 simp
theorem rd70 (l : List Tst) (i : Nat) (h : i < l.length) : rd_T70 (l.map t70) (i : Int) = t70 l[i] := by
 unfold rd_T70
 rw [Int.toNat_natCast, List.getD_eq_getElem?_getD, List.getElem?_eq_getElem (by simpa using h)]
 simp
end Go.Proofs.YthhemephaabblaaGreatDoor.Hq
namespace Go.Proofs
open Go.Shelf
def Tryz.lays156_ren : Go.Shelf.Ren := ⟨fun | 156 => 27 | 165 => 50 | 166 => 51 | 169 => 52 | 240 => 74 | 241 => 75 | 276 => 88 | 277 => 89 | n => n, fun | 31 => 22 | 9 => 9 | 3 => 3 | 4 => 4 | 0 => 0 | 20 => 20 | 72 => 97 | 76 => 92 | 70 => 94 | 37 => 95 | 75 => 91 | 127 => 125 | 164 => 137 | 5 => 5 | 80 => 68 | n => n, fun | n => n⟩
theorem Tryz.lays156 : Go.Proofs.Lays.n156 Tryz.prog Tryz.lays156_ren := {
 mixed := by kernel_rfl
 f156 := Tryz.func27.trans (congrArg some (by kernel_rfl))
 f165 := Tryz.func50.trans (congrArg some (by kernel_rfl))
 f166 := Tryz.func51.trans (congrArg some (by kernel_rfl))
 f169 := Tryz.func52.trans (congrArg some (by kernel_rfl))
 f240 := Tryz.func74.trans (congrArg some (by kernel_rfl))
 f241 := Tryz.func75.trans (congrArg some (by kernel_rfl))
 f276 := Tryz.func88.trans (congrArg some (by kernel_rfl))
 f277 := Tryz.func89.trans (congrArg some (by kernel_rfl))
 t0 := Tryz.underlying0
 a0 := Tryz.isAgg0
 z0 := Tryz.sizeOf0
 v0 := Tryz.zeroValue0
 t3 := Tryz.underlying3
 a3 := Tryz.isAgg3
 z3 := Tryz.sizeOf3
 v3 := Tryz.zeroValue3
 t4 := Tryz.underlying4
 a4 := Tryz.isAgg4
 z4 := Tryz.sizeOf4
 v4 := Tryz.zeroValue4
 t9 := Tryz.underlying9
 a9 := Tryz.isAgg9
 z9 := Tryz.sizeOf9
 v9 := Tryz.zeroValue9
 t20 := Tryz.underlying20
 a20 := Tryz.isAgg20
 z20 := Tryz.sizeOf20
 v20 := Tryz.zeroValue20
 t31 := Tryz.underlying22
 a31 := Tryz.isAgg22
 z31 := Tryz.sizeOf22
 v31 := Tryz.zeroValue22
 t37 := Tryz.underlying95
 a37 := Tryz.isAgg95
 z37 := Tryz.sizeOf95
 v37 := Tryz.zeroValue95
 t70 := Tryz.underlying94
 a70 := Tryz.isAgg94
 z70 := Tryz.sizeOf94
 v70 := Tryz.zeroValue94
 t72 := Tryz.underlying97
 a72 := Tryz.isAgg97
 z72 := Tryz.sizeOf97
 v72 := Tryz.zeroValue97
 t75 := Tryz.underlying91
 a75 := Tryz.isAgg91
 z75 := Tryz.sizeOf91
 v75 := Tryz.zeroValue91
 t76 := Tryz.underlying92
 a76 := Tryz.isAgg92
 z76 := Tryz.sizeOf92
 v76 := Tryz.zeroValue92
 t127 := Tryz.underlying125
 a127 := Tryz.isAgg125
 z127 := Tryz.sizeOf125
 v127 := Tryz.zeroValue125
 t164 := Tryz.underlying137
 a164 := Tryz.isAgg137
 z164 := Tryz.sizeOf137
 v164 := Tryz.zeroValue137 }
theorem Tryz.Builder_Extra_156 : Builder.Extra Tryz.prog Tryz.lays156_ren := {
 sizeBuilder := by kernel_rfl
 liesBuilder := by kernel_rfl
 t5 := Tryz.underlying5
 a5 := Tryz.isAgg5
 z5 := Tryz.sizeOf5
 v5 := Tryz.zeroValue5
 infoByte := by kernel_rfl
 cellsByte := by kernel_rfl
 sizeByte := by kernel_rfl
 neB5 := by decide }
open Go.RowKit in
theorem Tryz.strings_Join (bk o c : Nat) (xs : List ByteArray) (sep : ByteArray) (w : World)
  (hcells : ∀ (j : Nat) x, xs[j]? = some x → w.cell? ⟨bk, o + j, none⟩ = some (.string x))
  (hbk : bk < w.heap.size) (hN : xs.length ≤ 140737488355328) (hcap : xs.length ≤ c)
  (hlen : (Lib.join (xs.map (·.data.toList)) sep.data.toList).length ≤ 281474976710656) :
  Calls Tryz.prog 27 #[.slice (some ⟨bk, o, none⟩) xs.length c, .string sep] w fun e w' => e = .returned (.string ⟨(Lib.join (xs.map (·.data.toList)) sep.data.toList).toArray⟩) ∧ Below w.heap.size w w' := Any.strings_Join_48 Tryz.lays156 Tryz.Builder_Extra_156 bk o c xs sep w hcells hbk hN hcap hlen
def Tryz.laysM171_ren : Go.Shelf.Ren := ⟨fun | 171 => 31 | 243 => 55 | 246 => 79 | 283 => 96 | 284 => 97 | 285 => 98 | 286 => 99 | 129 => 111 | 317 => 110 | 318 => 112 | 319 => 113 | 320 => 114 | 337 => 126 | 338 => 127 | n => n, fun | 3 => 3 | 9 => 9 | 2 => 2 | 4 => 4 | 171 => 155 | 0 => 0 | 53 => 156 | 37 => 95 | 5 => 5 | 173 => 159 | 212 => 183 | 51 => 102 | 20 => 20 | 213 => 184 | 46 => 163 | 232 => 205 | 233 => 206 | n => n, fun | 17 => 3 | 18 => 4 | 19 => 5 | n => n⟩
theorem Tryz.laysM171 : Go.Proofs.LaysM.n171 Tryz.prog Tryz.laysM171_ren := {
 mixed := by kernel_rfl
 f129 := Tryz.func111.trans (congrArg some (by kernel_rfl))
 f171 := Tryz.func31.trans (congrArg some (by kernel_rfl))
 f243 := Tryz.func55.trans (congrArg some (by kernel_rfl))
 f246 := Tryz.func79.trans (congrArg some (by kernel_rfl))
 f283 := Tryz.func96.trans (congrArg some (by kernel_rfl))
 f284 := Tryz.func97.trans (congrArg some (by kernel_rfl))
 f285 := Tryz.func98.trans (congrArg some (by kernel_rfl))
 f286 := Tryz.func99.trans (congrArg some (by kernel_rfl))
 f317 := Tryz.func110.trans (congrArg some (by kernel_rfl))
 f318 := Tryz.func112.trans (congrArg some (by kernel_rfl))
 f319 := Tryz.func113.trans (congrArg some (by kernel_rfl))
 f320 := Tryz.func114.trans (congrArg some (by kernel_rfl))
 f337 := Tryz.func126.trans (congrArg some (by kernel_rfl))
 f338 := Tryz.func127.trans (congrArg some (by kernel_rfl))
 t0 := Tryz.underlying0
 a0 := Tryz.isAgg0
 z0 := Tryz.sizeOf0
 v0 := Tryz.zeroValue0
 t2 := Tryz.underlying2
 a2 := Tryz.isAgg2
 z2 := Tryz.sizeOf2
 v2 := Tryz.zeroValue2
 t3 := Tryz.underlying3
 a3 := Tryz.isAgg3
 z3 := Tryz.sizeOf3
 v3 := Tryz.zeroValue3
 t4 := Tryz.underlying4
 a4 := Tryz.isAgg4
 z4 := Tryz.sizeOf4
 v4 := Tryz.zeroValue4
 t5 := Tryz.underlying5
 a5 := Tryz.isAgg5
 z5 := Tryz.sizeOf5
 v5 := Tryz.zeroValue5
 t9 := Tryz.underlying9
 a9 := Tryz.isAgg9
 z9 := Tryz.sizeOf9
 v9 := Tryz.zeroValue9
 t20 := Tryz.underlying20
 a20 := Tryz.isAgg20
 z20 := Tryz.sizeOf20
 v20 := Tryz.zeroValue20
 t37 := Tryz.underlying95
 a37 := Tryz.isAgg95
 z37 := Tryz.sizeOf95
 v37 := Tryz.zeroValue95
 t46 := Tryz.underlying163
 a46 := Tryz.isAgg163
 z46 := Tryz.sizeOf163
 v46 := Tryz.zeroValue163
 t51 := Tryz.underlying102
 a51 := Tryz.isAgg102
 z51 := Tryz.sizeOf102
 v51 := Tryz.zeroValue102
 t53 := Tryz.underlying156
 a53 := Tryz.isAgg156
 z53 := Tryz.sizeOf156
 v53 := Tryz.zeroValue156
 t171 := Tryz.underlying155
 a171 := Tryz.isAgg155
 z171 := Tryz.sizeOf155
 v171 := Tryz.zeroValue155
 t173 := Tryz.underlying159
 a173 := Tryz.isAgg159
 z173 := Tryz.sizeOf159
 v173 := Tryz.zeroValue159
 t212 := Tryz.underlying183
 a212 := Tryz.isAgg183
 z212 := Tryz.sizeOf183
 v212 := Tryz.zeroValue183
 t213 := Tryz.underlying184
 a213 := Tryz.isAgg184
 z213 := Tryz.sizeOf184
 t232 := Tryz.underlying205
 a232 := Tryz.isAgg205
 z232 := Tryz.sizeOf205
 v232 := Tryz.zeroValue205
 t233 := Tryz.underlying206
 a233 := Tryz.isAgg206
 z233 := Tryz.sizeOf206
 v233 := Tryz.zeroValue206
 g17 := by kernel_rfl
 g18 := by kernel_rfl
 g19 := by kernel_rfl
 i0 := by kernel_rfl
 i2 := by kernel_rfl
 i3 := by kernel_rfl
 i4 := by kernel_rfl
 i5 := by kernel_rfl
 i9 := by kernel_rfl
 i20 := by kernel_rfl
 i37 := by kernel_rfl
 i46 := by kernel_rfl
 i51 := by kernel_rfl
 i53 := by kernel_rfl
 i171 := by kernel_rfl
 i173 := by kernel_rfl
 i212 := by kernel_rfl
 i232 := by kernel_rfl
 i233 := by kernel_rfl
 m17 := by kernel_rfl
 m18 := by kernel_rfl
 m19 := by kernel_rfl }
open Go.RowKit Go.Sort Go.Lib in
theorem Tryz.strconv_Itoa (n : Int) (h0 : -9223372036854775808 ≤ n) (h1 : n ≤ 9223372036854775807) (w : World) (htab : Lib.TabIs Tryz.prog w "internal/strconv.uint64pow10" .u64 Lib.pow10Tab) :
  Calls Tryz.prog 31 #[.int .i64 n] w fun e w' => e = .returned (.string ⟨(Lib.itoa n).toArray⟩) ∧ ∃ k os, w' = grow (w.drewN k) os := Any.strconv_Itoa Tryz.laysM171 n h0 h1 w htab
def Tryz.lays172_ren : Go.Shelf.Ren := ⟨fun | 172 => 48 | 244 => 72 | 245 => 73 | 247 => 83 | 279 => 84 | 280 => 85 | 281 => 86 | 282 => 87 | 287 => 101 | 316 => 102 | 171 => 31 | 205 => 103 | 321 => 115 | 322 => 116 | 243 => 55 | 246 => 79 | 283 => 96 | 284 => 97 | 285 => 98 | 286 => 99 | 129 => 111 | 317 => 110 | 318 => 112 | 319 => 113 | 320 => 114 | 337 => 126 | 338 => 127 | n => n, fun | 9 => 9 | 3 => 3 | 75 => 91 | 76 => 92 | 4 => 4 | 5 => 5 | 167 => 131 | 37 => 95 | 0 => 0 | 85 => 132 | 2 => 2 | 168 => 134 | 53 => 156 | 175 => 161 | 46 => 163 | 210 => 165 | 127 => 125 | 145 => 190 | 143 => 188 | 21 => 21 | 171 => 155 | 173 => 159 | 212 => 183 | 51 => 102 | 20 => 20 | 213 => 184 | 232 => 205 | 233 => 206 | 80 => 68 | n => n, fun | 15 => 0 | 16 => 1 | 17 => 3 | 18 => 4 | 19 => 5 | n => n⟩
theorem Tryz.lays172 : Go.Proofs.Lays.n172 Tryz.prog Tryz.lays172_ren := {
 mixed := by kernel_rfl
 f129 := Tryz.func111.trans (congrArg some (by kernel_rfl))
 f171 := Tryz.func31.trans (congrArg some (by kernel_rfl))
 f172 := Tryz.func48.trans (congrArg some (by kernel_rfl))
 f205 := Tryz.func103.trans (congrArg some (by kernel_rfl))
 f243 := Tryz.func55.trans (congrArg some (by kernel_rfl))
 f244 := Tryz.func72.trans (congrArg some (by kernel_rfl))
 f245 := Tryz.func73.trans (congrArg some (by kernel_rfl))
 f246 := Tryz.func79.trans (congrArg some (by kernel_rfl))
 f247 := Tryz.func83.trans (congrArg some (by kernel_rfl))
 f279 := Tryz.func84.trans (congrArg some (by kernel_rfl))
 f280 := Tryz.func85.trans (congrArg some (by kernel_rfl))
 f281 := Tryz.func86.trans (congrArg some (by kernel_rfl))
 f282 := Tryz.func87.trans (congrArg some (by kernel_rfl))
 f283 := Tryz.func96.trans (congrArg some (by kernel_rfl))
 f284 := Tryz.func97.trans (congrArg some (by kernel_rfl))
 f285 := Tryz.func98.trans (congrArg some (by kernel_rfl))
 f286 := Tryz.func99.trans (congrArg some (by kernel_rfl))
 f287 := Tryz.func101.trans (congrArg some (by kernel_rfl))
 f316 := Tryz.func102.trans (congrArg some (by kernel_rfl))
 f317 := Tryz.func110.trans (congrArg some (by kernel_rfl))
 f318 := Tryz.func112.trans (congrArg some (by kernel_rfl))
 f319 := Tryz.func113.trans (congrArg some (by kernel_rfl))
 f320 := Tryz.func114.trans (congrArg some (by kernel_rfl))
 f321 := Tryz.func115.trans (congrArg some (by kernel_rfl))
 f322 := Tryz.func116.trans (congrArg some (by kernel_rfl))
 f337 := Tryz.func126.trans (congrArg some (by kernel_rfl))
 f338 := Tryz.func127.trans (congrArg some (by kernel_rfl))
 t0 := Tryz.underlying0
 a0 := Tryz.isAgg0
 z0 := Tryz.sizeOf0
 v0 := Tryz.zeroValue0
 t2 := Tryz.underlying2
 a2 := Tryz.isAgg2
 z2 := Tryz.sizeOf2
 v2 := Tryz.zeroValue2
 t3 := Tryz.underlying3
 a3 := Tryz.isAgg3
 z3 := Tryz.sizeOf3
 v3 := Tryz.zeroValue3
 t4 := Tryz.underlying4
 a4 := Tryz.isAgg4
 z4 := Tryz.sizeOf4
 v4 := Tryz.zeroValue4
 t5 := Tryz.underlying5
 a5 := Tryz.isAgg5
 z5 := Tryz.sizeOf5
 v5 := Tryz.zeroValue5
 t9 := Tryz.underlying9
 a9 := Tryz.isAgg9
 z9 := Tryz.sizeOf9
 v9 := Tryz.zeroValue9
 t20 := Tryz.underlying20
 a20 := Tryz.isAgg20
 z20 := Tryz.sizeOf20
 v20 := Tryz.zeroValue20
 t21 := Tryz.underlying21
 a21 := Tryz.isAgg21
 z21 := Tryz.sizeOf21
 v21 := Tryz.zeroValue21
 t37 := Tryz.underlying95
 a37 := Tryz.isAgg95
 z37 := Tryz.sizeOf95
 v37 := Tryz.zeroValue95
 t46 := Tryz.underlying163
 a46 := Tryz.isAgg163
 z46 := Tryz.sizeOf163
 v46 := Tryz.zeroValue163
 t51 := Tryz.underlying102
 a51 := Tryz.isAgg102
 z51 := Tryz.sizeOf102
 v51 := Tryz.zeroValue102
 t53 := Tryz.underlying156
 a53 := Tryz.isAgg156
 z53 := Tryz.sizeOf156
 v53 := Tryz.zeroValue156
 t75 := Tryz.underlying91
 a75 := Tryz.isAgg91
 z75 := Tryz.sizeOf91
 v75 := Tryz.zeroValue91
 t76 := Tryz.underlying92
 a76 := Tryz.isAgg92
 z76 := Tryz.sizeOf92
 v76 := Tryz.zeroValue92
 t85 := Tryz.underlying132
 a85 := Tryz.isAgg132
 z85 := Tryz.sizeOf132
 v85 := Tryz.zeroValue132
 t127 := Tryz.underlying125
 a127 := Tryz.isAgg125
 z127 := Tryz.sizeOf125
 v127 := Tryz.zeroValue125
 t143 := Tryz.underlying188
 a143 := Tryz.isAgg188
 z143 := Tryz.sizeOf188
 v143 := Tryz.zeroValue188
 t145 := Tryz.underlying190
 a145 := Tryz.isAgg190
 z145 := Tryz.sizeOf190
 v145 := Tryz.zeroValue190
 t167 := Tryz.underlying131
 a167 := Tryz.isAgg131
 z167 := Tryz.sizeOf131
 v167 := Tryz.zeroValue131
 t168 := Tryz.underlying134
 a168 := Tryz.isAgg134
 z168 := Tryz.sizeOf134
 v168 := Tryz.zeroValue134
 t171 := Tryz.underlying155
 a171 := Tryz.isAgg155
 z171 := Tryz.sizeOf155
 v171 := Tryz.zeroValue155
 t173 := Tryz.underlying159
 a173 := Tryz.isAgg159
 z173 := Tryz.sizeOf159
 v173 := Tryz.zeroValue159
 t175 := Tryz.underlying161
 a175 := Tryz.isAgg161
 z175 := Tryz.sizeOf161
 v175 := Tryz.zeroValue161
 t210 := Tryz.underlying165
 a210 := Tryz.isAgg165
 z210 := Tryz.sizeOf165
 v210 := Tryz.zeroValue165
 t212 := Tryz.underlying183
 a212 := Tryz.isAgg183
 z212 := Tryz.sizeOf183
 v212 := Tryz.zeroValue183
 t213 := Tryz.underlying184
 a213 := Tryz.isAgg184
 z213 := Tryz.sizeOf184
 t232 := Tryz.underlying205
 a232 := Tryz.isAgg205
 z232 := Tryz.sizeOf205
 v232 := Tryz.zeroValue205
 t233 := Tryz.underlying206
 a233 := Tryz.isAgg206
 z233 := Tryz.sizeOf206
 v233 := Tryz.zeroValue206
 g15 := by kernel_rfl
 g16 := by kernel_rfl
 g17 := by kernel_rfl
 g18 := by kernel_rfl
 g19 := by kernel_rfl }
theorem Tryz.strconv_Atoi (s : ByteArray) (n : Int) (hl : s.size ≤ 18) (h : Lib.atoi s.data.toList = some n) (w : World) :
  Calls Tryz.prog 48 #[.string s] w fun e w' => e = .returned (.tuple #[.int .i64 n, .nilIface]) ∧ ∃ t, w' = Lib.bytesWorld w 5 t := Any.strconv_Atoi Tryz.lays172 s n hl h w
def Tryz.lays138_ren : Go.Shelf.Ren := ⟨fun | 138 => 164 | 195 => 165 | 218 => 166 | 143 => 167 | 219 => 168 | 217 => 169 | 225 => 170 | 224 => 171 | 267 => 172 | 266 => 173 | 314 => 174 | n => n, fun | 9 => 9 | 3 => 3 | 4 => 4 | 5 => 5 | 0 => 0 | 46 => 163 | 146 => 235 | 51 => 102 | n => n, fun | 1 => 2 | n => n⟩
theorem Tryz.lays138 : Go.Proofs.Lays.n138 Tryz.prog Tryz.lays138_ren := {
 mixed := by kernel_rfl
 f138 := Tryz.func164.trans (congrArg some (by kernel_rfl))
 f143 := Tryz.func167.trans (congrArg some (by kernel_rfl))
 f195 := Tryz.func165.trans (congrArg some (by kernel_rfl))
 f217 := Tryz.func169.trans (congrArg some (by kernel_rfl))
 f218 := Tryz.func166.trans (congrArg some (by kernel_rfl))
 f219 := Tryz.func168.trans (congrArg some (by kernel_rfl))
 f224 := Tryz.func171.trans (congrArg some (by kernel_rfl))
 f225 := Tryz.func170.trans (congrArg some (by kernel_rfl))
 f266 := Tryz.func173.trans (congrArg some (by kernel_rfl))
 f267 := Tryz.func172.trans (congrArg some (by kernel_rfl))
 f314 := Tryz.func174.trans (congrArg some (by kernel_rfl))
 t0 := Tryz.underlying0
 a0 := Tryz.isAgg0
 z0 := Tryz.sizeOf0
 v0 := Tryz.zeroValue0
 t3 := Tryz.underlying3
 a3 := Tryz.isAgg3
 z3 := Tryz.sizeOf3
 v3 := Tryz.zeroValue3
 t4 := Tryz.underlying4
 a4 := Tryz.isAgg4
 z4 := Tryz.sizeOf4
 v4 := Tryz.zeroValue4
 t5 := Tryz.underlying5
 a5 := Tryz.isAgg5
 z5 := Tryz.sizeOf5
 v5 := Tryz.zeroValue5
 t9 := Tryz.underlying9
 a9 := Tryz.isAgg9
 z9 := Tryz.sizeOf9
 v9 := Tryz.zeroValue9
 t46 := Tryz.underlying163
 a46 := Tryz.isAgg163
 z46 := Tryz.sizeOf163
 v46 := Tryz.zeroValue163
 t51 := Tryz.underlying102
 a51 := Tryz.isAgg102
 z51 := Tryz.sizeOf102
 v51 := Tryz.zeroValue102
 t146 := Tryz.underlying235
 a146 := Tryz.isAgg235
 z146 := Tryz.sizeOf235
 v146 := Tryz.zeroValue235
 g1 := by kernel_rfl }
theorem Tryz.strings_Count_one (s : ByteArray) (c : UInt8) (w : World) :
  Calls Tryz.prog 164 #[.string s, .string ⟨#[c]⟩] w fun e w' => e = .returned (.int .i64 (Lib.countByte s.data.toList c)) ∧ w' = w := Any.strings_Count_one Tryz.lays138 s c w
end Go.Proofs
namespace Go.Proofs.YthhemephaabblaaGreatDoor.Hq
open Go.RowKit Go.Proofs.YthhemephaabblaaGreatDoorW.PrintWords Go.Proofs.YthhemephaabblaaGreatDoorW.PrintMore
set_option linter.unusedVariables false
set_option linter.unusedSimpArgs false
theorem disable (w : World) : (callFunc 117 #[]).run Tryz.prog w = .ok (.value (.tuple #[])) w := run_call_mark0 Tryz.func117 (by kernel_rfl) (by kernel_rfl) (by kernel_rfl) .disable (by kernel_rfl) w
theorem enable (w : World) : (callFunc 119 #[]).run Tryz.prog w = .ok (.value (.tuple #[])) w := run_call_mark0 Tryz.func119 (by kernel_rfl) (by kernel_rfl) (by kernel_rfl) .enable (by kernel_rfl) w
theorem acquire (a : Addr) (w : World) : (callFunc 120 #[.pointer (some a)]).run Tryz.prog w = .ok (.value (.tuple #[])) w := run_call_marked Tryz.func120 (by kernel_rfl) (by kernel_rfl) (by kernel_rfl) .acquire (by kernel_rfl) a w
theorem releaseMerge (a : Addr) (w : World) : (callFunc 122 #[.pointer (some a)]).run Tryz.prog w = .ok (.value (.tuple #[])) w := run_call_marked Tryz.func122 (by kernel_rfl) (by kernel_rfl) (by kernel_rfl) .releaseMerge (by kernel_rfl) a w
set_option maxRecDepth 100000 in
set_option maxHeartbeats 1600000 in
theorem store_deferred (a : Addr) (x : Value) (u : FrameMode) (w : World) (hc : w.cell? a = some x) (hz : w.frozen? a = false) :
  CallsD Tryz.prog 93 #[.pointer (some a), .bool true] u w fun e u' w' => u' = u ∧ (e = .returned (.tuple #[]) ∧ w' = w.drew.setCell a (.int .u32 1)) := by
 have hc' : w.drew.cell? a = some x := by go_simp
 have hz' : w.drew.frozen? a = false := by go_simp
 have hst := run_call_store (P := Tryz.prog) Tryz.func106 (by kernel_rfl) (by kernel_rfl) (by kernel_rfl) (by kernel_rfl) (k := .u32) (y := 1) hc' hz'
 go_enter_d Tryz.func93, Tryz.ntmps93
 go_wp2
 go_region_calls
 all_goals (go_end0; exact ⟨rfl, rfl⟩)
set_option maxRecDepth 100000 in
set_option maxHeartbeats 1600000 in
theorem unlock_deferred (a : Addr) (u : FrameMode) (w : World) (hc : w.cell? a = some (.int .i32 1)) (hz : w.frozen? a = false) :
  CallsD Tryz.prog 92 #[.pointer (some a)] u w fun e u' w' => u' = u ∧ (e = .returned (.tuple #[]) ∧ w' = w.setCell a (.int .i32 0)) := by
 have hd := disable
 have he := enable
 have hr := releaseMerge
 have hadd := run_call_add (P := Tryz.prog) Tryz.func123 (by kernel_rfl) (by kernel_rfl) (by kernel_rfl) .i32 (by kernel_rfl) (y := -1) (s := 0) hc hz (by simp [go_sem]; rfl)
 have hcv := run_convert_to_unsafe (P := Tryz.prog) (src := 191) (dst := 137) Tryz.underlying191 Tryz.underlying137 (by kernel_rfl) hc
 go_enter_d Tryz.func92, Tryz.ntmps92
 go_wp2
 go_end0
 go_wp2
 go_end0
 exact ⟨rfl, rfl⟩
set_option maxRecDepth 100000 in
set_option maxHeartbeats 1600000 in
theorem lock_free (a : Addr) (w : World) (hc : w.cell? a = some (.int .i32 0)) (hz : w.frozen? a = false) :
  Calls Tryz.prog 91 #[.pointer (some a)] w fun e w' => e = .returned (.tuple #[]) ∧ w' = w.setCell a (.int .i32 1) := by
 have hd := disable
 have he := enable
 have ha := acquire
 have hcas := run_call_cas_hit (P := Tryz.prog) Tryz.func118 (by kernel_rfl) (by kernel_rfl) (by kernel_rfl) .i32 (by kernel_rfl) (y := 1) hc hz
 have hc' : (w.setCell a (.int .i32 1)).cell? a = some (.int .i32 1) := World.cell?_setCell_same w a _ hc
 have hcv := run_convert_to_unsafe (P := Tryz.prog) (src := 191) (dst := 137) Tryz.underlying191 Tryz.underlying137 (by kernel_rfl) hc'
 go_enter Tryz.func91, Tryz.ntmps91
 go_wp2
 first | go_end0 | (simp only [Exit.inBlock, Exit.then]; refine bodyPost_ret (results_none rfl _ _ _) rfl ?_) | refine bodyPost_ret (results_none rfl _ _ _) rfl ?_
 go_wp2
 go_end0
 exact ⟨rfl, rfl⟩
def RepB (w : World) (g : Nat) (d st : Int) (r on : Value) : Prop := w.heap[g]? = some (.cells #[.int .u32 d, .int .i32 st, .int .u32 0, r, on] 114 (0, 0))
theorem RepB.c0 {w : World} {g : Nat} {d st : Int} {r on : Value} (h : RepB w g d st r on) : w.cell? ⟨g, 0, none⟩ = some (.int .u32 d) := (blk_cell h 0).trans rfl
theorem RepB.c1 {w : World} {g : Nat} {d st : Int} {r on : Value} (h : RepB w g d st r on) : w.cell? ⟨g, 1, none⟩ = some (.int .i32 st) := (blk_cell h 1).trans rfl
theorem RepB.c3 {w : World} {g : Nat} {d st : Int} {r on : Value} (h : RepB w g d st r on) : w.cell? ⟨g, 3, none⟩ = some r := (blk_cell h 3).trans rfl
theorem RepB.c4 {w : World} {g : Nat} {d st : Int} {r on : Value} (h : RepB w g d st r on) : w.cell? ⟨g, 4, none⟩ = some on := (blk_cell h 4).trans rfl
theorem RepB.fz {w : World} {g : Nat} {d st : Int} {r on : Value} (h : RepB w g d st r on) (i : Nat) : w.frozen? ⟨g, i, none⟩ = false := blk_frozen h i
theorem RepB.set0 {w : World} {g : Nat} {d st : Int} {r on : Value} (h : RepB w g d st r on) (x : Int) : RepB (w.setCell ⟨g, 0, none⟩ (.int .u32 x)) g x st r on := by
 have := blk_set h 0 (.int .u32 x)
 simpa [RepB] using this
theorem RepB.set1 {w : World} {g : Nat} {d st : Int} {r on : Value} (h : RepB w g d st r on) (x : Int) : RepB (w.setCell ⟨g, 1, none⟩ (.int .i32 x)) g d x r on := by
 have := blk_set h 1 (.int .i32 x)
 simpa [RepB] using this
theorem RepB.set3 {w : World} {g : Nat} {d st : Int} {r on : Value} (h : RepB w g d st r on) (x : Value) : RepB (w.setCell ⟨g, 3, none⟩ x) g d st x on := by
 have := blk_set h 3 x
 simpa [RepB] using this
theorem RepB.set4 {w : World} {g : Nat} {d st : Int} {r on : Value} (h : RepB w g d st r on) (x : Value) : RepB (w.setCell ⟨g, 4, none⟩ x) g d st r x := by
 have := blk_set h 4 x
 simpa [RepB] using this
theorem RepB.drew {w : World} {g : Nat} {d st : Int} {r on : Value} (h : RepB w g d st r on) : RepB w.drew g d st r on := h
set_option maxRecDepth 100000 in
set_option maxHeartbeats 1600000 in
theorem slow_calls (g : Nat) (r on : Value) (Q : World → Prop) (w : World) (h : RepB w g 0 0 r on)
  (hf : Calls Tryz.prog 54 #[.pointer (some ⟨g, 0, none⟩)] (w.setCell ⟨g, 1, none⟩ (.int .i32 1)) fun e w' => e = .returned (.tuple #[]) ∧ ∃ r' on', RepB w' g 0 1 r' on' ∧ Q w') :
  Calls Tryz.prog 77 #[.pointer (some ⟨g, 0, none⟩), .func (.func 54) #[.pointer (some ⟨g, 0, none⟩)] #[]] w fun e w' => e = .returned (.tuple #[]) ∧
   ∃ w2, Q w2 ∧ w' = (w2.drew.setCell ⟨g, 0, none⟩ (.int .u32 1)).setCell ⟨g, 1, none⟩ (.int .i32 0) := by
 have h1 := h.set1 1
 have hl := run_call_load (P := Tryz.prog) Tryz.func90 (by kernel_rfl) (by kernel_rfl) (by kernel_rfl) .u32 (by kernel_rfl) (w := w.setCell ⟨g, 1, none⟩ (.int .i32 1)) (a := ⟨g, 0, none⟩) (x := 0) h1.c0
 have hnot : ∀ (x : Bool) (w : World), (Op.unary .not (.bool x)).run Tryz.prog w = .ok (.bool (!x)) w := fun _ _ => rfl
 go_enter_defers Tryz.func77, Tryz.ntmps77
 go_wp2_with (go_at_call 91; refine (lock_free ⟨g, 1, none⟩ _ h.c1 (h.fz 1)).mono ?_; rintro e w' ⟨rfl, rfl⟩)
 go_wp2_with (first | (go_at_call 54; refine hf.mono ?_; rintro e w2 ⟨rfl, r', on', hR, hQ⟩) | (go_at_call 76; go_in))
 go_wp2
 refine leaves_cons (f := 93) (args := #[.pointer (some ⟨g, 0, none⟩), .bool true]) (by simp) (by simp [go_sem]) ?_
 refine (store_deferred ⟨g, 0, none⟩ (.int .u32 0) .returning _ hR.c0 (hR.fz 0)).mono ?_
 rintro e u' w'' ⟨rfl, rfl, rfl⟩
 refine leaves_cons (f := 92) (args := #[.pointer (some ⟨g, 1, none⟩)]) (by simp [settle]) (by simp [go_sem]) ?_
 refine (unlock_deferred ⟨g, 1, none⟩ _ _ (hR.drew.set0 1).c1 ((hR.drew.set0 1).fz 1)).mono ?_
 rintro e u' w'' ⟨rfl, rfl, rfl⟩
 simp [Leaves, settle, results, Tryz.results77]
 exact ⟨w2, hQ, rfl⟩
set_option maxRecDepth 100000 in
set_option maxHeartbeats 1600000 in
theorem do_calls (g : Nat) (r on : Value) (Q : World → Prop) (w : World) (h : RepB w g 0 0 r on)
  (hf : Calls Tryz.prog 54 #[.pointer (some ⟨g, 0, none⟩)] (w.setCell ⟨g, 1, none⟩ (.int .i32 1)) fun e w' => e = .returned (.tuple #[]) ∧ ∃ r' on', RepB w' g 0 1 r' on' ∧ Q w') :
  Calls Tryz.prog 53 #[.pointer (some ⟨g, 0, none⟩), .func (.func 54) #[.pointer (some ⟨g, 0, none⟩)] #[]] w fun e w' => e = .returned (.tuple #[]) ∧
   ∃ w2, Q w2 ∧ w' = (w2.drew.setCell ⟨g, 0, none⟩ (.int .u32 1)).setCell ⟨g, 1, none⟩ (.int .i32 0) := by
 have hl := run_call_load (P := Tryz.prog) Tryz.func90 (by kernel_rfl) (by kernel_rfl) (by kernel_rfl) .u32 (by kernel_rfl) h.c0
 have hnot : ∀ (x : Bool) (w : World), (Op.unary .not (.bool x)).run Tryz.prog w = .ok (.bool (!x)) w := fun _ _ => rfl
 go_enter Tryz.func53, Tryz.ntmps53
 go_wp2_with (first | (go_at_call 77; refine (slow_calls g r on Q w h hf).mono ?_; rintro e w' ⟨rfl, w2, hQ, rfl⟩) | (go_at_call 76; go_in))
 go_end0
 exact ⟨rfl, w2, hQ, rfl⟩
end Go.Proofs.YthhemephaabblaaGreatDoor.Hq
namespace Go.Proofs.YthhemephaabblaaGreatDoor.Hq
open Go.RowKit Go.Proofs.YthhemephaabblaaGreatDoorW.PrintWords Go.Proofs.YthhemephaabblaaGreatDoorW.PrintLast Go.Proofs.YthhemephaabblaaGreatDoorW.PrintMore Go.Proofs.YthhemephaabblaaGreatDoor
set_option linter.unusedVariables false
set_option linter.unusedSimpArgs false
theorem info9 : (Tryz.prog.info? 9).map (fun i => (i.zero, i.size, i.bytes)) = some (some (.string ⟨#[]⟩), 1, 16) := by kernel_rfl
theorem own_string_open {w : World} {B : Nat} {ok : Nat → Prop} {v : Value} {xs : List ByteArray} (h : Kd.string.R 9 w B ok v xs) : ∃ A c, v = .slice A xs.length c ∧ xs.length ≤ c ∧ Kd.C Kd.string w A xs.length xs := by
 obtain ⟨A, c, rfl⟩ := Kd.V_slice (Kd.R_V (base' := B) h)
 have := Kd.R_reads' h
 exact ⟨A, c, rfl, by omega, this.2.2⟩
set_option maxRecDepth 100000 in
set_option maxHeartbeats 1600000 in
theorem newRep_calls (A : Option Addr) (c : Nat) (x0 x1 x2 x3 : ByteArray) (w : World) (hr : Kd.C Kd.string w A 4 [x0, x1, x2, x3]) :
  Calls Tryz.prog 28 #[.slice A 4 c] w fun e w' => ∃ g A' c', e = .returned (.pointer (some ⟨g, 0, none⟩)) ∧ RepB w' g 0 0 .nilIface (.slice A' 4 c') ∧ Kd.C Kd.string w' A' 4 [x0, x1, x2, x3] ∧ (∀ ad, A' = some ad → ad.block < g) ∧ w.heap.size ≤ g ∧ Below w.heap.size w w' := by
 go_enter Tryz.func28, Tryz.ntmps28
 go_wp2_with (first | ((with_reducible refine gate_dst (N := 9) rfl ?_); refine Aside0.out ?_))
 refine Aside0.mk ?_
 refine Kd.R_append_rows Kd.string w.heap.size rfl (.const (.slice none 0 0)) (.tmp 8) 22 9 (.string ⟨#[]⟩) 16 rfl Tryz.underlying22 info9 rfl (by decide) (by omega) (.slice none 0 0) [] [x0, x1, x2, x3] A 4 c (fun _ => True) (fun _ => False) rfl rfl ?aO ?aR (fun _ _ h => h) (fun _ h => h.elim) ?aF (Below.refl _ _) (Nat.le_refl _) ?aL ?_
 case aO => exact Kd.R_nil _ _ _ _ _
 case aR => exact hr
 case aF => exact fun _ _ => trivial
 case aL => decide
 intro v1 w1 ho hb hg hat
 obtain ⟨A', c', rfl, hc', hC⟩ := own_string_open ho
 have hlt := Kd.R_lt ho
 go_wp2
 go_ret
 exact ⟨w1.heap.size, A', c', rfl, heap_alloc_new _ _, Kd.C_alloc hC _, fun ad h => hlt _ (by subst h; rfl), hb.size, below_alloc hb _⟩
end Go.Proofs.YthhemephaabblaaGreatDoor.Hq
set_option linter.unusedVariables false
set_option linter.unusedSimpArgs false
namespace Go.Proofs.YthhemephaabblaaGreatDoorW.PrintMore
open Go.RowKit Go.Proofs.YthhemephaabblaaGreatDoorW.PrintWords Go.Proofs.YthhemephaabblaaGreatDoorW.PrintLast
section
variable {α : Type} {P : Program} {ops : Array Oper} {rest : List Oper} {o : Oper} {a : Act} {Q : Exit → Act → World → Prop}
theorem R_make0 (d : Kd α) {w0 W : World} (base e : Nat) (hgd : o.guard = none) {N : Tmp} (_hd : o.dst = some N) (t : TypeId) (x y : Operand) (ho : o.op = .makeSlice t x y) (m : Int) (hx : a.eval x = .int .i64 0) (hy : a.eval y = .int .i64 m)
  (ht : P.underlying t = some (.slice e)) (z : Value) (bytes : Nat) (hinfo : (P.info? e).map (fun i => (i.zero, i.size, i.bytes)) = some (some z, d.sz, bytes)) (hz : z.cells.size = d.sz) (hs0 : 0 < d.sz) (hb0 : 0 < bytes)
  {ok okp : Nat → Prop} (_hok : ∀ k, okp k → ok k) (hfresh : ok W.heap.size) (h0 : 0 ≤ m) (hl : m.toNat * bytes ≤ 281474976710656) (HB : Below base w0 W) (hbase : base ≤ W.heap.size)
  (h : ∀ v1 w1, d.R e w1 base ok v1 [] → Below base w0 w1 → W.grownBy w1 none → (∃ b, v1.ownBlock = some b ∧ W.heap.size ≤ b) → wpList P ops Q rest (a.put o.dst v1) w1) : wpList P ops Q (o :: rest) a W := by
 obtain ⟨m, rfl⟩ := Int.eq_ofNat_of_zero_le h0
 simp only [Int.toNat_natCast] at hl
 obtain ⟨i0, hi, hzz⟩ := Option.map_eq_some_iff.1 hinfo
 simp only [Prod.mk.injEq] at hzz
 obtain ⟨hz0, hz1, hz2⟩ := hzz
 have hm : m ≤ 281474976710656 := Nat.le_trans (Nat.le_mul_of_pos_right _ hb0) hl
 have hr := run_make (P := P) W t e i0 z ht hi hz0 .i64 .i64 0 (m : Int) (by omega) (by omega)
  (by
   have h3 : ((i0.bytes * m : Nat) : Int) ≤ 281474976710656 := by rw [hz2, Nat.mul_comm]; omega
   rwa [Int.natCast_mul] at h3) (by omega)
 simp only [Int.toNat_natCast, Int.toNat_zero] at hr
 rw [hz1] at hr
 have hrun : (execOp a.eval o).run P W = .ok (.value (.slice (some ⟨W.heap.size, 0, none⟩) 0 m)) (W.alloc (.cells (madeCells z.cells (m * d.sz)) e)) := by
  simp [execOp, ho, hx, hy, hr]
 refine Kd.event_run hgd hrun (h _ _ ⟨fun k hk => ?_, [], ?_, Reps.none _ _⟩ (HB.alloc hbase _) (World.grownBy_alloc W _ none) ⟨W.heap.size, by simp [Value.ownBlock], Nat.le_refl _⟩)
 ·
  have : W.heap.size = k := by simpa [Value.ownBlock] using hk
  subst this
  exact hfresh
 ·
  refine ⟨by simp, .inr ⟨W.heap.size, m, _, rfl, hbase, heap_alloc_new W _, by simp, by unfold maxLen; omega, ?_, by simp⟩⟩
  simp [madeCells]
end
end Go.Proofs.YthhemephaabblaaGreatDoorW.PrintMore
