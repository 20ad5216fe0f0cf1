
import Derived.Test.YthhemephaabblaaGreatDoorZCc
import Derived.Test.YthhemephaabblaaGreatDoorZCe
namespace Go.Proofs.YthhemephaabblaaGreatDoor.Q
open Go.RowKit  Go.Proofs.YthhemephaabblaaGreatDoorW.PrintWords Go.Proofs.YthhemephaabblaaGreatDoorW.PrintLast Go.Proofs.YthhemephaabblaaGreatDoorW.PrintMore
attribute [local go_sem] max2_int min2_int max_two min_two max_three min_three max_four min_four
set_option linter.unusedVariables false
set_option linter.unusedSimpArgs false
mutual
def cairnref32_next.l0 : Nat → ByteArray → Int → Int → Option (Int × Int × ByteArray × Int)
 | 0, _, _, _ => none
 | k + 1, x0, x1, x7 => if x7 < (x0.size : Int) then (if 0 ≤ x7 then ((cairnref32_small.f (bt x0 x7)).bind fun t211 => (if t211 = true then (cairnref32_next.l0 k x0 x1 (wrap64 (x7 + 1))) else ((cairnref32_digit.f (bt x0 x7)).bind fun t212 => (if t212 = true then (cairnref32_next.l0 k x0 x1 (wrap64 (x7 + 1))) else (if (bt x0 x7) = 95 then (cairnref32_next.l0 k x0 x1 (wrap64 (x7 + 1))) else (if 0 ≤ x1 then (if x1 ≤ x7 then (if x7 ≤ (x0.size : Int) then (some (1, x1, x0.extract (x1 : Int).toNat (x7 : Int).toNat, x7)) else (none)) else (none)) else (none))))))) else (none)) else (if 0 ≤ x1 then (if x1 ≤ x7 then (if x7 ≤ (x0.size : Int) then (some (1, x1, x0.extract (x1 : Int).toNat (x7 : Int).toNat, x7)) else (none)) else (none)) else (none))
def cairnref32_next.l1 : Nat → ByteArray → Int → Int → Option (Int × Int × ByteArray × Int)
 | 0, _, _, _ => none
 | k + 1, x0, x1, x7 => if x7 < (x0.size : Int) then (if 0 ≤ x7 then ((cairnref32_digit.f (bt x0 x7)).bind fun t214 => (if t214 = true then (cairnref32_next.l1 k x0 x1 (wrap64 (x7 + 1))) else (if 0 ≤ x1 then (if x1 ≤ x7 then (if x7 ≤ (x0.size : Int) then (some (2, x1, x0.extract (x1 : Int).toNat (x7 : Int).toNat, x7)) else (none)) else (none)) else (none)))) else (none)) else (if 0 ≤ x1 then (if x1 ≤ x7 then (if x7 ≤ (x0.size : Int) then (some (2, x1, x0.extract (x1 : Int).toNat (x7 : Int).toNat, x7)) else (none)) else (none)) else (none))
def cairnref32_next.l2 : Nat → ByteArray → Int → Int → ByteArray → Option (Int × Int × ByteArray × Int)
 | 0, _, _, _, _ => none
 | k + 1, x0, x1, x7, x8 => if x7 < (x0.size : Int) then (if 0 ≤ x7 then (cairnref32_next.j3 k x0 x1 x7 x8 ((bt x0 x7) != 34)) else (none)) else (cairnref32_next.j3 k x0 x1 x7 x8 false)
def cairnref32_next.j3 : Nat → ByteArray → Int → Int → ByteArray → Bool → Option (Int × Int × ByteArray × Int)
 | 0, _, _, _, _, _ => none
 | k + 1, x0, x1, x7, x8, x82 => if x82 = true then (if 0 ≤ x7 then (if x7 < (x0.size : Int) then (if (bt x0 x7) = 92 then (if (wrap64 (x7 + 1)) = (x0.size : Int) then (some (6, x1, (⟨#[]⟩ : ByteArray), (x0.size : Int))) else (if 0 ≤ (wrap64 (x7 + 1)) then (if (wrap64 (x7 + 1)) < (x0.size : Int) then (if (bt x0 (wrap64 (x7 + 1))) = 34 then (if (wrap64 (x7 + 1)) ≤ (wrap64 ((wrap64 (x7 + 1)) + 1)) then (if (wrap64 ((wrap64 (x7 + 1)) + 1)) ≤ (x0.size : Int) then (if x8.size + (x0.extract ((wrap64 (x7 + 1)) : Int).toNat ((wrap64 ((wrap64 (x7 + 1)) + 1)) : Int).toNat).size ≤ 9223372036854775807 then (cairnref32_next.l2 k x0 x1 (wrap64 ((wrap64 (x7 + 1)) + 1)) (x8 ++ (x0.extract ((wrap64 (x7 + 1)) : Int).toNat ((wrap64 ((wrap64 (x7 + 1)) + 1)) : Int).toNat))) else (none)) else (none)) else (none)) else (if (bt x0 (wrap64 (x7 + 1))) = 92 then (if (wrap64 (x7 + 1)) ≤ (wrap64 ((wrap64 (x7 + 1)) + 1)) then (if (wrap64 ((wrap64 (x7 + 1)) + 1)) ≤ (x0.size : Int) then (if x8.size + (x0.extract ((wrap64 (x7 + 1)) : Int).toNat ((wrap64 ((wrap64 (x7 + 1)) + 1)) : Int).toNat).size ≤ 9223372036854775807 then (cairnref32_next.l2 k x0 x1 (wrap64 ((wrap64 (x7 + 1)) + 1)) (x8 ++ (x0.extract ((wrap64 (x7 + 1)) : Int).toNat ((wrap64 ((wrap64 (x7 + 1)) + 1)) : Int).toNat))) else (none)) else (none)) else (none)) else (some (6, x1, (⟨#[]⟩ : ByteArray), (x0.size : Int))))) else (none)) else (none))) else (if x7 ≤ (wrap64 (x7 + 1)) then (if (wrap64 (x7 + 1)) ≤ (x0.size : Int) then (if x8.size + (x0.extract (x7 : Int).toNat ((wrap64 (x7 + 1)) : Int).toNat).size ≤ 9223372036854775807 then (cairnref32_next.l2 k x0 x1 (wrap64 (x7 + 1)) (x8 ++ (x0.extract (x7 : Int).toNat ((wrap64 (x7 + 1)) : Int).toNat))) else (none)) else (none)) else (none))) else (none)) else (none)) else (if x7 ≥ (x0.size : Int) then (some (6, x1, (⟨#[]⟩ : ByteArray), (x0.size : Int))) else (some (3, x1, x8, wrap64 (x7 + 1))))
def cairnref32_next.j4 : Nat → ByteArray → Int → Int → Int → Bool → Option (Int × Int × ByteArray × Int)
 | 0, _, _, _, _, _ => none
 | k + 1, x0, x1, x6, x7, x131 => if x131 = true then (if 0 ≤ x1 then (if x1 ≤ x7 then (if x7 ≤ (x0.size : Int) then (some (4, x1, x0.extract (x1 : Int).toNat (x7 : Int).toNat, x7)) else (none)) else (none)) else (none)) else (if x6 = 60 then (cairnref32_next.j5 k x0 x1 x6 x7 true) else (if x6 = 62 then (cairnref32_next.j5 k x0 x1 x6 x7 true) else (cairnref32_next.j5 k x0 x1 x6 x7 (x6 == 33))))
def cairnref32_next.j5 : Nat → ByteArray → Int → Int → Int → Bool → Option (Int × Int × ByteArray × Int)
 | 0, _, _, _, _, _ => none
 | k + 1, x0, x1, x6, x7, x149 => if x149 = true then (if x7 < (x0.size : Int) then (if 0 ≤ x7 then (cairnref32_next.j6 k x0 x1 x6 x7 ((bt x0 x7) == 61)) else (none)) else (cairnref32_next.j6 k x0 x1 x6 x7 false)) else (some (6, x1, (⟨#[]⟩ : ByteArray), (x0.size : Int)))
def cairnref32_next.j6 : Nat → ByteArray → Int → Int → Int → Bool → Option (Int × Int × ByteArray × Int)
 | 0, _, _, _, _, _ => none
 | k + 1, x0, x1, x6, x7, x169 => if x169 = true then (if 0 ≤ x1 then (if x1 ≤ (wrap64 (x7 + 1)) then (if (wrap64 (x7 + 1)) ≤ (x0.size : Int) then (some (4, x1, x0.extract (x1 : Int).toNat ((wrap64 (x7 + 1)) : Int).toNat, wrap64 (x7 + 1))) else (none)) else (none)) else (none)) else (if x6 = 33 then (some (6, x1, (⟨#[]⟩ : ByteArray), (x0.size : Int))) else (if 0 ≤ x1 then (if x1 ≤ x7 then (if x7 ≤ (x0.size : Int) then (some (4, x1, x0.extract (x1 : Int).toNat (x7 : Int).toNat, x7)) else (none)) else (none)) else (none)))
end
def cairnref32_next.f (k : Nat) (a0 : ByteArray) (a1 : Int) : Option (Int × Int × ByteArray × Int) := if 0 ≤ a1 then (if a1 < (a0.size : Int) then ((cairnref32_small.f (bt a0 a1)).bind fun t210 => (if t210 = true then (cairnref32_next.l0 k a0 a1 (wrap64 (a1 + 1))) else ((cairnref32_digit.f (bt a0 a1)).bind fun t213 => (if t213 = true then (cairnref32_next.l1 k a0 a1 (wrap64 (a1 + 1))) else (if (bt a0 a1) = 34 then (cairnref32_next.l2 k a0 a1 (wrap64 (a1 + 1)) (⟨#[]⟩ : ByteArray)) else (if (bt a0 a1) = 44 then (cairnref32_next.j4 k a0 a1 (bt a0 a1) (wrap64 (a1 + 1)) true) else (if (bt a0 a1) = 42 then (cairnref32_next.j4 k a0 a1 (bt a0 a1) (wrap64 (a1 + 1)) true) else (cairnref32_next.j4 k a0 a1 (bt a0 a1) (wrap64 (a1 + 1)) ((bt a0 a1) == 61))))))))) else (none)) else (none)
theorem cairnref32_next.mono_l : ∀ k, (∀ y0 y1 y2, LeO (cairnref32_next.l0 k y0 y1 y2) (cairnref32_next.l0 (k + 1) y0 y1 y2)) ∧ (∀ y0 y1 y2, LeO (cairnref32_next.l1 k y0 y1 y2) (cairnref32_next.l1 (k + 1) y0 y1 y2)) ∧ (∀ y0 y1 y2 y3, LeO (cairnref32_next.l2 k y0 y1 y2 y3) (cairnref32_next.l2 (k + 1) y0 y1 y2 y3)) ∧ (∀ y0 y1 y2 y3 y4, LeO (cairnref32_next.j3 k y0 y1 y2 y3 y4) (cairnref32_next.j3 (k + 1) y0 y1 y2 y3 y4)) ∧ (∀ y0 y1 y2 y3 y4, LeO (cairnref32_next.j4 k y0 y1 y2 y3 y4) (cairnref32_next.j4 (k + 1) y0 y1 y2 y3 y4)) ∧ (∀ y0 y1 y2 y3 y4, LeO (cairnref32_next.j5 k y0 y1 y2 y3 y4) (cairnref32_next.j5 (k + 1) y0 y1 y2 y3 y4)) ∧ (∀ y0 y1 y2 y3 y4, LeO (cairnref32_next.j6 k y0 y1 y2 y3 y4) (cairnref32_next.j6 (k + 1) y0 y1 y2 y3 y4))
 | 0 => ⟨fun _ _ _ r h => by simp [cairnref32_next.l0] at h, fun _ _ _ r h => by simp [cairnref32_next.l1] at h, fun _ _ _ _ r h => by simp [cairnref32_next.l2] at h, fun _ _ _ _ _ r h => by simp [cairnref32_next.j3] at h, fun _ _ _ _ _ r h => by simp [cairnref32_next.j4] at h, fun _ _ _ _ _ r h => by simp [cairnref32_next.j5] at h, fun _ _ _ _ _ r h => by simp [cairnref32_next.j6] at h⟩
 | k + 1 => by
  obtain ⟨ih0, ih1, ih2, ih3, ih4, ih5, ih6⟩ := cairnref32_next.mono_l k
  refine ⟨?_, ?_, ?_, ?_, ?_, ?_, ?_⟩
  ·
   intro y0 y1 y2
   unfold cairnref32_next.l0
   repeat' first
   | (with_reducible exact ih0 _ _ _)
   | (with_reducible exact ih1 _ _ _)
   | (with_reducible exact ih2 _ _ _ _)
   | (with_reducible exact ih3 _ _ _ _ _)
   | (with_reducible exact ih4 _ _ _ _ _)
   | (with_reducible exact ih5 _ _ _ _ _)
   | (with_reducible exact ih6 _ _ _ _ _)
   | (with_reducible exact LeO.refl _)
   | (with_reducible exact LeO.none _)
   | (with_reducible refine LeO.ite ?_ ?_)
   | (with_reducible refine LeO.bind ?_ (fun _ => ?_))
   | exact ih0 _ _ _
   | exact ih1 _ _ _
   | exact ih2 _ _ _ _
   | exact ih3 _ _ _ _ _
   | exact ih4 _ _ _ _ _
   | exact ih5 _ _ _ _ _
   | exact ih6 _ _ _ _ _
   | exact LeO.none _
   | refine LeO.ite ?_ ?_
   | refine LeO.bind ?_ (fun _ => ?_)
  ·
   intro y0 y1 y2
   unfold cairnref32_next.l1
   repeat' first
   | (with_reducible exact ih0 _ _ _)
   | (with_reducible exact ih1 _ _ _)
   | (with_reducible exact ih2 _ _ _ _)
   | (with_reducible exact ih3 _ _ _ _ _)
   | (with_reducible exact ih4 _ _ _ _ _)
   | (with_reducible exact ih5 _ _ _ _ _)
   | (with_reducible exact ih6 _ _ _ _ _)
   | (with_reducible exact LeO.refl _)
   | (with_reducible exact LeO.none _)
   | (with_reducible refine LeO.ite ?_ ?_)
   | (with_reducible refine LeO.bind ?_ (fun _ => ?_))
   | exact ih0 _ _ _
   | exact ih1 _ _ _
   | exact ih2 _ _ _ _
   | exact ih3 _ _ _ _ _
   | exact ih4 _ _ _ _ _
   | exact ih5 _ _ _ _ _
   | exact ih6 _ _ _ _ _
   | exact LeO.none _
   | refine LeO.ite ?_ ?_
   | refine LeO.bind ?_ (fun _ => ?_)
  ·
   intro y0 y1 y2 y3
   unfold cairnref32_next.l2
   repeat' first
   | (with_reducible exact ih0 _ _ _)
   | (with_reducible exact ih1 _ _ _)
   | (with_reducible exact ih2 _ _ _ _)
   | (with_reducible exact ih3 _ _ _ _ _)
   | (with_reducible exact ih4 _ _ _ _ _)
   | (with_reducible exact ih5 _ _ _ _ _)
   | (with_reducible exact ih6 _ _ _ _ _)
   | (with_reducible exact LeO.refl _)
   | (with_reducible exact LeO.none _)
   | (with_reducible refine LeO.ite ?_ ?_)
   | (with_reducible refine LeO.bind ?_ (fun _ => ?_))
   | exact ih0 _ _ _
   | exact ih1 _ _ _
   | exact ih2 _ _ _ _
   | exact ih3 _ _ _ _ _
   | exact ih4 _ _ _ _ _
   | exact ih5 _ _ _ _ _
   | exact ih6 _ _ _ _ _
   | exact LeO.none _
   | refine LeO.ite ?_ ?_
   | refine LeO.bind ?_ (fun _ => ?_)
  ·
   intro y0 y1 y2 y3 y4
   unfold cairnref32_next.j3
   repeat' first
   | (with_reducible exact ih0 _ _ _)
   | (with_reducible exact ih1 _ _ _)
   | (with_reducible exact ih2 _ _ _ _)
   | (with_reducible exact ih3 _ _ _ _ _)
   | (with_reducible exact ih4 _ _ _ _ _)
   | (with_reducible exact ih5 _ _ _ _ _)
   | (with_reducible exact ih6 _ _ _ _ _)
   | (with_reducible exact LeO.refl _)
   | (with_reducible exact LeO.none _)
   | (with_reducible refine LeO.ite ?_ ?_)
   | (with_reducible refine LeO.bind ?_ (fun _ => ?_))
   | exact ih0 _ _ _
   | exact ih1 _ _ _
   | exact ih2 _ _ _ _
   | exact ih3 _ _ _ _ _
   | exact ih4 _ _ _ _ _
   | exact ih5 _ _ _ _ _
   | exact ih6 _ _ _ _ _
   | exact LeO.none _
   | refine LeO.ite ?_ ?_
   | refine LeO.bind ?_ (fun _ => ?_)
  ·
   intro y0 y1 y2 y3 y4
   unfold cairnref32_next.j4
   repeat' first
   | (with_reducible exact ih0 _ _ _)
   | (with_reducible exact ih1 _ _ _)
   | (with_reducible exact ih2 _ _ _ _)
   | (with_reducible exact ih3 _ _ _ _ _)
   | (with_reducible exact ih4 _ _ _ _ _)
   | (with_reducible exact ih5 _ _ _ _ _)
   | (with_reducible exact ih6 _ _ _ _ _)
   | (with_reducible exact LeO.refl _)
   | (with_reducible exact LeO.none _)
   | (with_reducible refine LeO.ite ?_ ?_)
   | (with_reducible refine LeO.bind ?_ (fun _ => ?_))
   | exact ih0 _ _ _
   | exact ih1 _ _ _
   | exact ih2 _ _ _ _
   | exact ih3 _ _ _ _ _
   | exact ih4 _ _ _ _ _
   | exact ih5 _ _ _ _ _
   | exact ih6 _ _ _ _ _
   | exact LeO.none _
   | refine LeO.ite ?_ ?_
   | refine LeO.bind ?_ (fun _ => ?_)
  ·
   intro y0 y1 y2 y3 y4
   unfold cairnref32_next.j5
   repeat' first
   | (with_reducible exact ih0 _ _ _)
   | (with_reducible exact ih1 _ _ _)
   | (with_reducible exact ih2 _ _ _ _)
   | (with_reducible exact ih3 _ _ _ _ _)
   | (with_reducible exact ih4 _ _ _ _ _)
   | (with_reducible exact ih5 _ _ _ _ _)
   | (with_reducible exact ih6 _ _ _ _ _)
   | (with_reducible exact LeO.refl _)
   | (with_reducible exact LeO.none _)
   | (with_reducible refine LeO.ite ?_ ?_)
   | (with_reducible refine LeO.bind ?_ (fun _ => ?_))
   | exact ih0 _ _ _
   | exact ih1 _ _ _
   | exact ih2 _ _ _ _
   | exact ih3 _ _ _ _ _
   | exact ih4 _ _ _ _ _
   | exact ih5 _ _ _ _ _
   | exact ih6 _ _ _ _ _
   | exact LeO.none _
   | refine LeO.ite ?_ ?_
   | refine LeO.bind ?_ (fun _ => ?_)
  ·
   intro y0 y1 y2 y3 y4
   unfold cairnref32_next.j6
   repeat' first
   | (with_reducible exact ih0 _ _ _)
   | (with_reducible exact ih1 _ _ _)
   | (with_reducible exact ih2 _ _ _ _)
   | (with_reducible exact ih3 _ _ _ _ _)
   | (with_reducible exact ih4 _ _ _ _ _)
   | (with_reducible exact ih5 _ _ _ _ _)
   | (with_reducible exact ih6 _ _ _ _ _)
   | (with_reducible exact LeO.refl _)
   | (with_reducible exact LeO.none _)
   | (with_reducible refine LeO.ite ?_ ?_)
   | (with_reducible refine LeO.bind ?_ (fun _ => ?_))
   | exact ih0 _ _ _
   | exact ih1 _ _ _
   | exact ih2 _ _ _ _
   | exact ih3 _ _ _ _ _
   | exact ih4 _ _ _ _ _
   | exact ih5 _ _ _ _ _
   | exact ih6 _ _ _ _ _
   | exact LeO.none _
   | refine LeO.ite ?_ ?_
   | refine LeO.bind ?_ (fun _ => ?_)
theorem cairnref32_next.mono : ∀ a0 a1 k, LeO (cairnref32_next.f k a0 a1) (cairnref32_next.f (k + 1) a0 a1) := by
 intro a0 a1 k
 obtain ⟨ih0, ih1, ih2, ih3, ih4, ih5, ih6⟩ := cairnref32_next.mono_l k
 unfold cairnref32_next.f
 repeat' first
   | (with_reducible exact ih0 _ _ _)
   | (with_reducible exact ih1 _ _ _)
   | (with_reducible exact ih2 _ _ _ _)
   | (with_reducible exact ih3 _ _ _ _ _)
   | (with_reducible exact ih4 _ _ _ _ _)
   | (with_reducible exact ih5 _ _ _ _ _)
   | (with_reducible exact ih6 _ _ _ _ _)
   | (with_reducible exact LeO.refl _)
   | (with_reducible exact LeO.none _)
   | (with_reducible refine LeO.ite ?_ ?_)
   | (with_reducible refine LeO.bind ?_ (fun _ => ?_))
   | exact ih0 _ _ _
   | exact ih1 _ _ _
   | exact ih2 _ _ _ _
   | exact ih3 _ _ _ _ _
   | exact ih4 _ _ _ _ _
   | exact ih5 _ _ _ _ _
   | exact ih6 _ _ _ _ _
   | exact LeO.none _
   | refine LeO.ite ?_ ?_
   | refine LeO.bind ?_ (fun _ => ?_)
set_option maxHeartbeats 8000000 in
set_option maxRecDepth 100000 in
theorem cairnref32_next.calls (k : Nat) (a0 : ByteArray) (a1 : Int) (r1 : Int) (r2 : Int) (r3 : ByteArray) (r4 : Int) (w : World) (h : cairnref32_next.f k a0 a1 = some (r1, r2, r3, r4)) :
  Calls Tryz.prog 46 #[.string a0, .int .i64 a1] w fun e w' => e = .returned (.tuple #[.agg #[.int .i64 r1, .int .i64 r2, .string r3], .int .i64 r4]) ∧ Below w.heap.size w w' := by
 have hu74 := Tryz.underlying74
 have HB := Aside0.mk (Below.refl w.heap.size w)
 have H : (if 0 ≤ a1 then (if a1 < (a0.size : Int) then ((cairnref32_small.f (bt a0 a1)).bind fun t210 => (if t210 = true then (cairnref32_next.l0 k a0 a1 (wrap64 (a1 + 1))) else ((cairnref32_digit.f (bt a0 a1)).bind fun t213 => (if t213 = true then (cairnref32_next.l1 k a0 a1 (wrap64 (a1 + 1))) else (if (bt a0 a1) = 34 then (cairnref32_next.l2 k a0 a1 (wrap64 (a1 + 1)) (⟨#[]⟩ : ByteArray)) else (if (bt a0 a1) = 44 then (cairnref32_next.j4 k a0 a1 (bt a0 a1) (wrap64 (a1 + 1)) true) else (if (bt a0 a1) = 42 then (cairnref32_next.j4 k a0 a1 (bt a0 a1) (wrap64 (a1 + 1)) true) else (cairnref32_next.j4 k a0 a1 (bt a0 a1) (wrap64 (a1 + 1)) ((bt a0 a1) == 61))))))))) else (none)) else (none)) = some (r1, r2, r3, r4) := h
 clear h
 by_cases c3 : 0 ≤ a1
 ·
  rw [if_pos c3] at H
  have c3b0 : decide (0 ≤ a1) = true := decide_eq_true c3
  clear c3
  by_cases c4 : a1 < (a0.size : Int)
  ·
   rw [if_pos c4] at H
   have c4b0 : decide (a1 < (a0.size : Int)) = true := decide_eq_true c4
   clear c4
   replace H := Option.bind_eq_some_iff.mp H
   obtain ⟨t210, A60, H⟩ := H
   replace H : (if t210 = true then (cairnref32_next.l0 k a0 a1 (wrap64 (a1 + 1))) else ((cairnref32_digit.f (bt a0 a1)).bind fun t213 => (if t213 = true then (cairnref32_next.l1 k a0 a1 (wrap64 (a1 + 1))) else (if (bt a0 a1) = 34 then (cairnref32_next.l2 k a0 a1 (wrap64 (a1 + 1)) (⟨#[]⟩ : ByteArray)) else (if (bt a0 a1) = 44 then (cairnref32_next.j4 k a0 a1 (bt a0 a1) (wrap64 (a1 + 1)) true) else (if (bt a0 a1) = 42 then (cairnref32_next.j4 k a0 a1 (bt a0 a1) (wrap64 (a1 + 1)) true) else (cairnref32_next.j4 k a0 a1 (bt a0 a1) (wrap64 (a1 + 1)) ((bt a0 a1) == 61)))))))) = some (r1, r2, r3, r4) := H
   have A6 := Aside0.mk A60
   clear A60
   by_cases c7 : t210 = true
   ·
    subst c7
    have H1 : (cairnref32_next.l0 k a0 a1 (wrap64 (a1 + 1))) = some (r1, r2, r3, r4) := by rw [if_pos rfl] at H; exact H
    clear H
    have H := H1
    clear H1
    have H' := Aside0.mk H
    clear H
    go_enter Tryz.func46, Tryz.ntmps46
    go_wp2_with (first | ((with_reducible refine gate_dst (N := 4) rfl ?_); refine box_event ?hg (N := 4) ?hd (cs := #[.int .i64 0, .int .i64 0, .string (⟨#[]⟩ : ByteArray)]) (t := 74) ?hr ?_; (case hd => rfl); (case hg => rfl); (case hr => first | (go_simp; done) | (go_simp; rfl)); intro gb209 hg w8 hbox hb; have n0_ := Aside0.mk (below_step (by repeat (first | (with_reducible first | exact HB.out | apply below_alloc | apply pw_below_drewN | apply below_drew1) | exact HB.out)) hb); have n1_ := Aside0.mk (hbox); have n2_ := Aside0.mk ((by rw [hg]; exact (below_size (by repeat (first | (with_reducible first | exact HB.out | apply below_alloc | apply pw_below_drewN | apply below_drew1) | exact HB.out))) : w.heap.size ≤ gb209)); have n3_ := Aside0.mk ((by rw [hg]; exact (below_size (by repeat (first | (with_reducible first | exact HB.out | apply below_alloc | apply pw_below_drewN | apply below_drew1) | exact HB.out))) : w.heap.size ≤ gb209)); clear HB; have HB := n0_; have BK209 := n1_; have GW209 := n2_; have GE209 := n3_; clear n0_ n1_ n2_ n3_; clear hb hbox hg; have p5 : 0 ≤ (a1 : Int) := of_decide_eq_true (by first | (with_reducible assumption) | assumption); have q5 : a1 < (a0.size : Int) := of_decide_eq_true (by first | (with_reducible assumption) | assumption); have hx5 := bt_at a0 a1; replace p5 := eq_true p5; replace q5 := eq_true q5) | ((with_reducible refine gate_callee (f := 70) rfl ?_); refine goesL_ (some 16) rfl rfl Tryz.func70 (by kernel_rfl) rfl #[.int .u8 (bt a0 a1)] rfl (by (try simp only [List.map_toArray, List.map_cons, List.map_nil]); first | done | rfl | (simp only [List.length_drop, List.length_take]; rfl)) ?_; (with_reducible refine (cairnref32_small.calls (bt a0 a1) true _ A6.out).mono ?_); rintro e w' ⟨rfl, ⟨nd, rfl⟩⟩; refine ⟨_, rfl, ?_⟩))
    go_loopg [7] k (fun kq v7 w' => ∃ (x7_1 : Int), v7 = .int .i64 x7_1 ∧ Aside0 (cairnref32_next.l0 kq a0 a1 x7_1 = some (r1, r2, r3, r4)) ∧ Aside0 (kq ≤ k) ∧ Aside0 (w'.heap[gb209]? = some (.cells #[.int .i64 0, .int .i64 0, .string (⟨#[]⟩ : ByteArray)] 74 (0, 0))) ∧ Aside0 (Below w.heap.size w w'))
    case atStart => exact ⟨(wrap64 (a1 + 1)), (by first | rfl | (simp; done) | (simp [*]; done)), H', ⟨Nat.le_refl _⟩, ⟨by (with_reducible repeat (first | refine blk_drewN ?_ _ | refine blk_drew ?_ | refine blk_alloc ?_ _)); exact BK209.out⟩, ⟨by repeat (first | (with_reducible first | exact HB.out | apply below_alloc | apply pw_below_drewN | apply below_drew1 | refine below_set ?_ GE209.out) | exact HB.out)⟩⟩
    case round =>
     clear H'
     try clear c3
     try clear c3b0
     try clear c4
     try clear c4b0
     try clear p5
     try clear q5
     try clear hx5
     try clear c7
     obtain ⟨x7_1, rfl, HA, HK1, BK209, HB⟩ := hrel
     cases gk with
     | zero => exact absurd HA.out (by simp [cairnref32_next.l0])
     | succ k1 =>
      have H := HA.out
      clear HA
      simp only [cairnref32_next.l0] at H
      by_cases c9 : x7_1 < (a0.size : Int)
      ·
       rw [if_pos c9] at H
       have c9b0 : decide (x7_1 < (a0.size : Int)) = true := decide_eq_true c9
       clear c9
       by_cases c10 : 0 ≤ x7_1
       ·
        rw [if_pos c10] at H
        have c10b0 : decide (0 ≤ x7_1) = true := decide_eq_true c10
        clear c10
        replace H := Option.bind_eq_some_iff.mp H
        obtain ⟨t211, A120, H⟩ := H
        replace H : (if t211 = true then (cairnref32_next.l0 k1 a0 a1 (wrap64 (x7_1 + 1))) else ((cairnref32_digit.f (bt a0 x7_1)).bind fun t212 => (if t212 = true then (cairnref32_next.l0 k1 a0 a1 (wrap64 (x7_1 + 1))) else (if (bt a0 x7_1) = 95 then (cairnref32_next.l0 k1 a0 a1 (wrap64 (x7_1 + 1))) else (if 0 ≤ a1 then (if a1 ≤ x7_1 then (if x7_1 ≤ (a0.size : Int) then (some (1, a1, a0.extract (a1 : Int).toNat (x7_1 : Int).toNat, x7_1)) else (none)) else (none)) else (none)))))) = some (r1, r2, r3, r4) := H
        have A12 := Aside0.mk A120
        clear A120
        by_cases c13 : t211 = true
        ·
         subst c13
         have H1 : (cairnref32_next.l0 k1 a0 a1 (wrap64 (x7_1 + 1))) = some (r1, r2, r3, r4) := by rw [if_pos rfl] at H; exact H
         clear H
         have H := H1
         clear H1
         have H' := Aside0.mk H
         clear H
         have p11 : 0 ≤ (x7_1 : Int) := of_decide_eq_true (by first | (with_reducible assumption) | assumption)
         have q11 : x7_1 < (a0.size : Int) := of_decide_eq_true (by first | (with_reducible assumption) | assumption)
         have hx11 := bt_at a0 x7_1
         replace p11 := eq_true p11
         replace q11 := eq_true q11
         go_wp2_with (first | (go_at_call 70; (with_reducible refine (cairnref32_small.calls (bt a0 x7_1) true _ A12.out).mono ?_); rintro e w' ⟨rfl, ⟨nd, rfl⟩⟩))
         go_roundg k1
         case measure => have := HK1.out; omega
         case rel => exact ⟨(wrap64 (x7_1 + 1)), (by first | rfl | (simp; done) | (simp [*]; done)), H', ⟨by have := HK1.out; omega⟩, ⟨by (with_reducible repeat (first | refine blk_drewN ?_ _ | refine blk_drew ?_ | refine blk_alloc ?_ _)); exact BK209.out⟩, ⟨by repeat (first | (with_reducible first | exact HB.out | apply below_alloc | apply pw_below_drewN | apply below_drew1 | refine below_set ?_ GE209.out) | exact HB.out)⟩⟩
        ·
         replace c13 := Bool.eq_false_iff.mpr c13
         subst c13
         have H1 : ((cairnref32_digit.f (bt a0 x7_1)).bind fun t212 => (if t212 = true then (cairnref32_next.l0 k1 a0 a1 (wrap64 (x7_1 + 1))) else (if (bt a0 x7_1) = 95 then (cairnref32_next.l0 k1 a0 a1 (wrap64 (x7_1 + 1))) else (if 0 ≤ a1 then (if a1 ≤ x7_1 then (if x7_1 ≤ (a0.size : Int) then (some (1, a1, a0.extract (a1 : Int).toNat (x7_1 : Int).toNat, x7_1)) else (none)) else (none)) else (none))))) = some (r1, r2, r3, r4) := by rw [if_neg (show ¬ (false = true) by decide)] at H; exact H
         clear H
         have H := H1
         clear H1
         replace H := Option.bind_eq_some_iff.mp H
         obtain ⟨t212, A150, H⟩ := H
         replace H : (if t212 = true then (cairnref32_next.l0 k1 a0 a1 (wrap64 (x7_1 + 1))) else (if (bt a0 x7_1) = 95 then (cairnref32_next.l0 k1 a0 a1 (wrap64 (x7_1 + 1))) else (if 0 ≤ a1 then (if a1 ≤ x7_1 then (if x7_1 ≤ (a0.size : Int) then (some (1, a1, a0.extract (a1 : Int).toNat (x7_1 : Int).toNat, x7_1)) else (none)) else (none)) else (none)))) = some (r1, r2, r3, r4) := H
         have A15 := Aside0.mk A150
         clear A150
         by_cases c16 : t212 = true
         ·
          subst c16
          have H1 : (cairnref32_next.l0 k1 a0 a1 (wrap64 (x7_1 + 1))) = some (r1, r2, r3, r4) := by rw [if_pos rfl] at H; exact H
          clear H
          have H := H1
          clear H1
          have H' := Aside0.mk H
          clear H
          have p11 : 0 ≤ (x7_1 : Int) := of_decide_eq_true (by first | (with_reducible assumption) | assumption)
          have q11 : x7_1 < (a0.size : Int) := of_decide_eq_true (by first | (with_reducible assumption) | assumption)
          have hx11 := bt_at a0 x7_1
          replace p11 := eq_true p11
          replace q11 := eq_true q11
          go_wp2_with (first | (go_at_call 70; (with_reducible refine (cairnref32_small.calls (bt a0 x7_1) false _ A12.out).mono ?_); rintro e w' ⟨rfl, ⟨nd, rfl⟩⟩; have p14 : 0 ≤ (x7_1 : Int) := of_decide_eq_true (by first | (with_reducible assumption) | assumption); have q14 : x7_1 < (a0.size : Int) := of_decide_eq_true (by first | (with_reducible assumption) | assumption); have hx14 := bt_at a0 x7_1; replace p14 := eq_true p14; replace q14 := eq_true q14) | (go_at_call 71; (with_reducible refine (cairnref32_digit.calls (bt a0 x7_1) true _ A15.out).mono ?_); rintro e w' ⟨rfl, ⟨nd, rfl⟩⟩))
          go_roundg k1
          case measure => have := HK1.out; omega
          case rel => exact ⟨(wrap64 (x7_1 + 1)), (by first | rfl | (simp; done) | (simp [*]; done)), H', ⟨by have := HK1.out; omega⟩, ⟨by (with_reducible repeat (first | refine blk_drewN ?_ _ | refine blk_drew ?_ | refine blk_alloc ?_ _)); exact BK209.out⟩, ⟨by repeat (first | (with_reducible first | exact HB.out | apply below_alloc | apply pw_below_drewN | apply below_drew1 | refine below_set ?_ GE209.out) | exact HB.out)⟩⟩
         ·
          replace c16 := Bool.eq_false_iff.mpr c16
          subst c16
          have H1 : (if (bt a0 x7_1) = 95 then (cairnref32_next.l0 k1 a0 a1 (wrap64 (x7_1 + 1))) else (if 0 ≤ a1 then (if a1 ≤ x7_1 then (if x7_1 ≤ (a0.size : Int) then (some (1, a1, a0.extract (a1 : Int).toNat (x7_1 : Int).toNat, x7_1)) else (none)) else (none)) else (none))) = some (r1, r2, r3, r4) := by rw [if_neg (show ¬ (false = true) by decide)] at H; exact H
          clear H
          have H := H1
          clear H1
          by_cases c18 : (bt a0 x7_1) = 95
          ·
           rw [if_pos c18] at H
           have c18b0 : ((bt a0 x7_1) == 95) = true := beq_iff_eq.mpr c18
           have c18b1 : ((bt a0 x7_1) != 95) = false := bne_eq_false_iff_eq.mpr c18
           clear c18
           have H' := Aside0.mk H
           clear H
           have p11 : 0 ≤ (x7_1 : Int) := of_decide_eq_true (by first | (with_reducible assumption) | assumption)
           have q11 : x7_1 < (a0.size : Int) := of_decide_eq_true (by first | (with_reducible assumption) | assumption)
           have hx11 := bt_at a0 x7_1
           replace p11 := eq_true p11
           replace q11 := eq_true q11
           go_wp2_with (first | (go_at_call 70; (with_reducible refine (cairnref32_small.calls (bt a0 x7_1) false _ A12.out).mono ?_); rintro e w' ⟨rfl, ⟨nd, rfl⟩⟩; have p14 : 0 ≤ (x7_1 : Int) := of_decide_eq_true (by first | (with_reducible assumption) | assumption); have q14 : x7_1 < (a0.size : Int) := of_decide_eq_true (by first | (with_reducible assumption) | assumption); have hx14 := bt_at a0 x7_1; replace p14 := eq_true p14; replace q14 := eq_true q14) | (go_at_call 71; (with_reducible refine (cairnref32_digit.calls (bt a0 x7_1) false _ A15.out).mono ?_); rintro e w' ⟨rfl, ⟨nd, rfl⟩⟩; have p17 : 0 ≤ (x7_1 : Int) := of_decide_eq_true (by first | (with_reducible assumption) | assumption); have q17 : x7_1 < (a0.size : Int) := of_decide_eq_true (by first | (with_reducible assumption) | assumption); have hx17 := bt_at a0 x7_1; replace p17 := eq_true p17; replace q17 := eq_true q17))
           go_roundg k1
           case measure => have := HK1.out; omega
           case rel => exact ⟨(wrap64 (x7_1 + 1)), (by first | rfl | (simp; done) | (simp [*]; done)), H', ⟨by have := HK1.out; omega⟩, ⟨by (with_reducible repeat (first | refine blk_drewN ?_ _ | refine blk_drew ?_ | refine blk_alloc ?_ _)); exact BK209.out⟩, ⟨by repeat (first | (with_reducible first | exact HB.out | apply below_alloc | apply pw_below_drewN | apply below_drew1 | refine below_set ?_ GE209.out) | exact HB.out)⟩⟩
          ·
           rw [if_neg c18] at H
           have c18b0 : ((bt a0 x7_1) == 95) = false := beq_eq_false_iff_ne.mpr c18
           have c18b1 : ((bt a0 x7_1) != 95) = true := bne_iff_ne.mpr c18
           by_cases c19 : 0 ≤ a1
           ·
            rw [if_pos c19] at H
            have c19b0 := eq_true c19
            have c19b1 : decide (0 ≤ a1) = true := decide_eq_true c19
            clear c19
            by_cases c20 : a1 ≤ x7_1
            ·
             rw [if_pos c20] at H
             have c20b0 := eq_true c20
             have c20b1 : decide (a1 ≤ x7_1) = true := decide_eq_true c20
             clear c20
             by_cases c21 : x7_1 ≤ (a0.size : Int)
             ·
              rw [if_pos c21] at H
              have c21b0 := eq_true c21
              have c21b1 : decide (x7_1 ≤ (a0.size : Int)) = true := decide_eq_true c21
              clear c21
              simp only [Option.some.injEq, Prod.mk.injEq] at H
              obtain ⟨rfl, rfl, rfl, rfl⟩ := H
              have p11 : 0 ≤ (x7_1 : Int) := of_decide_eq_true (by first | (with_reducible assumption) | assumption)
              have q11 : x7_1 < (a0.size : Int) := of_decide_eq_true (by first | (with_reducible assumption) | assumption)
              have hx11 := bt_at a0 x7_1
              replace p11 := eq_true p11
              replace q11 := eq_true q11
              go_wp2_with (first | (go_at_call 70; (with_reducible refine (cairnref32_small.calls (bt a0 x7_1) false _ A12.out).mono ?_); rintro e w' ⟨rfl, ⟨nd, rfl⟩⟩; (try (rw [drewN_self wr]; generalize hq_ : World.drewN wr _ = wr; have n0_ : Aside0 (wr.heap[gb209]? = some (.cells #[.int .i64 0, .int .i64 0, .string (⟨#[]⟩ : ByteArray)] 74 (0, 0))) := ⟨by rw [← hq_]; exact (by (with_reducible repeat (first | refine blk_drewN ?_ _ | refine blk_drew ?_ | refine blk_alloc ?_ _)); exact BK209.out)⟩; have n1_ : Aside0 (Below w.heap.size w wr) := ⟨by rw [← hq_]; exact (by repeat (first | (with_reducible first | exact HB.out | apply below_alloc | apply pw_below_drewN | apply below_drew1 | refine below_set ?_ GE209.out) | exact HB.out))⟩; clear BK209 HB hq_; have BK209 := n0_; have HB := n1_; clear n0_ n1_)); have p14 : 0 ≤ (x7_1 : Int) := of_decide_eq_true (by first | (with_reducible assumption) | assumption); have q14 : x7_1 < (a0.size : Int) := of_decide_eq_true (by first | (with_reducible assumption) | assumption); have hx14 := bt_at a0 x7_1; replace p14 := eq_true p14; replace q14 := eq_true q14) | (go_at_call 71; (with_reducible refine (cairnref32_digit.calls (bt a0 x7_1) false _ A15.out).mono ?_); rintro e w' ⟨rfl, ⟨nd, rfl⟩⟩; (try (rw [drewN_self wr]; generalize hq_ : World.drewN wr _ = wr; have n0_ : Aside0 (wr.heap[gb209]? = some (.cells #[.int .i64 0, .int .i64 0, .string (⟨#[]⟩ : ByteArray)] 74 (0, 0))) := ⟨by rw [← hq_]; exact (by (with_reducible repeat (first | refine blk_drewN ?_ _ | refine blk_drew ?_ | refine blk_alloc ?_ _)); exact BK209.out)⟩; have n1_ : Aside0 (Below w.heap.size w wr) := ⟨by rw [← hq_]; exact (by repeat (first | (with_reducible first | exact HB.out | apply below_alloc | apply pw_below_drewN | apply below_drew1 | refine below_set ?_ GE209.out) | exact HB.out))⟩; clear BK209 HB hq_; have BK209 := n0_; have HB := n1_; clear n0_ n1_)); have p17 : 0 ≤ (x7_1 : Int) := of_decide_eq_true (by first | (with_reducible assumption) | assumption); have q17 : x7_1 < (a0.size : Int) := of_decide_eq_true (by first | (with_reducible assumption) | assumption); have hx17 := bt_at a0 x7_1; replace p17 := eq_true p17; replace q17 := eq_true q17; have hcz22_0 : wr.cell? ⟨gb209, 0, none⟩ = some (.int .i64 0) := (blk_cell BK209.out 0).trans rfl; have hcz22_1 : wr.cell? ⟨gb209, 1, none⟩ = some (.int .i64 0) := (blk_cell BK209.out 1).trans rfl; have hcz22_2 : wr.cell? ⟨gb209, 2, none⟩ = some (.string (⟨#[]⟩ : ByteArray)) := (blk_cell BK209.out 2).trans rfl; have hfz22_0 := blk_frozen BK209.out 0; have hfz22_1 := blk_frozen BK209.out 1; have hfz22_2 := blk_frozen BK209.out 2))
              refine bodyPost_ret (results_ct rfl _ _ gb209 74 #[.int .i64 1, .int .i64 a1, .string (a0.extract (a1 : Int).toNat (x7_1 : Int).toNat)] (0, 0) _ rfl (by (with_reducible repeat (first | refine blk_drewN ?_ _ | refine blk_drew ?_ | refine blk_alloc ?_ _)); refine blk_put (cs := #[.int .i64 1, .int .i64 a1, .string (⟨#[]⟩ : ByteArray)]) ?_ 2 _ rfl; (with_reducible repeat (first | refine blk_drewN ?_ _ | refine blk_drew ?_ | refine blk_alloc ?_ _)); refine blk_put (cs := #[.int .i64 1, .int .i64 0, .string (⟨#[]⟩ : ByteArray)]) ?_ 1 _ rfl; (with_reducible repeat (first | refine blk_drewN ?_ _ | refine blk_drew ?_ | refine blk_alloc ?_ _)); refine blk_put (cs := #[.int .i64 0, .int .i64 0, .string (⟨#[]⟩ : ByteArray)]) ?_ 0 _ rfl; (with_reducible repeat (first | refine blk_drewN ?_ _ | refine blk_drew ?_ | refine blk_alloc ?_ _)); exact BK209.out) Tryz.underlying74 rfl (by kernel_rfl)) rfl ?_
              exact ⟨by first | rfl | (simp [errW_none, errW_some] <;> rfl) | (simp [*, errW_none, errW_some] <;> rfl), by repeat (first | (with_reducible first | exact HB.out | apply below_alloc | apply pw_below_drewN | apply below_drew1 | refine below_set ?_ GE209.out) | exact HB.out)⟩
             ·
              rw [if_neg c21] at H
              exact absurd H (by simp)
            ·
             rw [if_neg c20] at H
             exact absurd H (by simp)
           ·
            rw [if_neg c19] at H
            exact absurd H (by simp)
       ·
        rw [if_neg c10] at H
        exact absurd H (by simp)
      ·
       rw [if_neg c9] at H
       have c9b0 : decide (x7_1 < (a0.size : Int)) = false := decide_eq_false c9
       clear c9
       by_cases c23 : 0 ≤ a1
       ·
        rw [if_pos c23] at H
        have c23b0 := eq_true c23
        have c23b1 : decide (0 ≤ a1) = true := decide_eq_true c23
        clear c23
        by_cases c24 : a1 ≤ x7_1
        ·
         rw [if_pos c24] at H
         have c24b0 := eq_true c24
         have c24b1 : decide (a1 ≤ x7_1) = true := decide_eq_true c24
         clear c24
         by_cases c25 : x7_1 ≤ (a0.size : Int)
         ·
          rw [if_pos c25] at H
          have c25b0 := eq_true c25
          have c25b1 : decide (x7_1 ≤ (a0.size : Int)) = true := decide_eq_true c25
          clear c25
          simp only [Option.some.injEq, Prod.mk.injEq] at H
          obtain ⟨rfl, rfl, rfl, rfl⟩ := H
          have hcz26_0 : wr.cell? ⟨gb209, 0, none⟩ = some (.int .i64 0) := (blk_cell BK209.out 0).trans rfl
          have hcz26_1 : wr.cell? ⟨gb209, 1, none⟩ = some (.int .i64 0) := (blk_cell BK209.out 1).trans rfl
          have hcz26_2 : wr.cell? ⟨gb209, 2, none⟩ = some (.string (⟨#[]⟩ : ByteArray)) := (blk_cell BK209.out 2).trans rfl
          have hfz26_0 := blk_frozen BK209.out 0
          have hfz26_1 := blk_frozen BK209.out 1
          have hfz26_2 := blk_frozen BK209.out 2
          go_wp2
          refine bodyPost_ret (results_ct rfl _ _ gb209 74 #[.int .i64 1, .int .i64 a1, .string (a0.extract (a1 : Int).toNat (x7_1 : Int).toNat)] (0, 0) _ rfl (by (with_reducible repeat (first | refine blk_drewN ?_ _ | refine blk_drew ?_ | refine blk_alloc ?_ _)); refine blk_put (cs := #[.int .i64 1, .int .i64 a1, .string (⟨#[]⟩ : ByteArray)]) ?_ 2 _ rfl; (with_reducible repeat (first | refine blk_drewN ?_ _ | refine blk_drew ?_ | refine blk_alloc ?_ _)); refine blk_put (cs := #[.int .i64 1, .int .i64 0, .string (⟨#[]⟩ : ByteArray)]) ?_ 1 _ rfl; (with_reducible repeat (first | refine blk_drewN ?_ _ | refine blk_drew ?_ | refine blk_alloc ?_ _)); refine blk_put (cs := #[.int .i64 0, .int .i64 0, .string (⟨#[]⟩ : ByteArray)]) ?_ 0 _ rfl; (with_reducible repeat (first | refine blk_drewN ?_ _ | refine blk_drew ?_ | refine blk_alloc ?_ _)); exact BK209.out) Tryz.underlying74 rfl (by kernel_rfl)) rfl ?_
          exact ⟨by first | rfl | (simp [errW_none, errW_some] <;> rfl) | (simp [*, errW_none, errW_some] <;> rfl), by repeat (first | (with_reducible first | exact HB.out | apply below_alloc | apply pw_below_drewN | apply below_drew1 | refine below_set ?_ GE209.out) | exact HB.out)⟩
         ·
          rw [if_neg c25] at H
          exact absurd H (by simp)
        ·
         rw [if_neg c24] at H
         exact absurd H (by simp)
       ·
        rw [if_neg c23] at H
        exact absurd H (by simp)
   ·
    replace c7 := Bool.eq_false_iff.mpr c7
    subst c7
    have H1 : ((cairnref32_digit.f (bt a0 a1)).bind fun t213 => (if t213 = true then (cairnref32_next.l1 k a0 a1 (wrap64 (a1 + 1))) else (if (bt a0 a1) = 34 then (cairnref32_next.l2 k a0 a1 (wrap64 (a1 + 1)) (⟨#[]⟩ : ByteArray)) else (if (bt a0 a1) = 44 then (cairnref32_next.j4 k a0 a1 (bt a0 a1) (wrap64 (a1 + 1)) true) else (if (bt a0 a1) = 42 then (cairnref32_next.j4 k a0 a1 (bt a0 a1) (wrap64 (a1 + 1)) true) else (cairnref32_next.j4 k a0 a1 (bt a0 a1) (wrap64 (a1 + 1)) ((bt a0 a1) == 61))))))) = some (r1, r2, r3, r4) := by rw [if_neg (show ¬ (false = true) by decide)] at H; exact H
    clear H
    have H := H1
    clear H1
    replace H := Option.bind_eq_some_iff.mp H
    obtain ⟨t213, A270, H⟩ := H
    replace H : (if t213 = true then (cairnref32_next.l1 k a0 a1 (wrap64 (a1 + 1))) else (if (bt a0 a1) = 34 then (cairnref32_next.l2 k a0 a1 (wrap64 (a1 + 1)) (⟨#[]⟩ : ByteArray)) else (if (bt a0 a1) = 44 then (cairnref32_next.j4 k a0 a1 (bt a0 a1) (wrap64 (a1 + 1)) true) else (if (bt a0 a1) = 42 then (cairnref32_next.j4 k a0 a1 (bt a0 a1) (wrap64 (a1 + 1)) true) else (cairnref32_next.j4 k a0 a1 (bt a0 a1) (wrap64 (a1 + 1)) ((bt a0 a1) == 61)))))) = some (r1, r2, r3, r4) := H
    have A27 := Aside0.mk A270
    clear A270
    by_cases c28 : t213 = true
    ·
     subst c28
     have H1 : (cairnref32_next.l1 k a0 a1 (wrap64 (a1 + 1))) = some (r1, r2, r3, r4) := by rw [if_pos rfl] at H; exact H
     clear H
     have H := H1
     clear H1
     have H' := Aside0.mk H
     clear H
     go_enter Tryz.func46, Tryz.ntmps46
     go_wp2_with (first | ((with_reducible refine gate_dst (N := 4) rfl ?_); refine box_event ?hg (N := 4) ?hd (cs := #[.int .i64 0, .int .i64 0, .string (⟨#[]⟩ : ByteArray)]) (t := 74) ?hr ?_; (case hd => rfl); (case hg => rfl); (case hr => first | (go_simp; done) | (go_simp; rfl)); intro gb209 hg w29 hbox hb; have n0_ := Aside0.mk (below_step (by repeat (first | (with_reducible first | exact HB.out | apply below_alloc | apply pw_below_drewN | apply below_drew1) | exact HB.out)) hb); have n1_ := Aside0.mk (hbox); have n2_ := Aside0.mk ((by rw [hg]; exact (below_size (by repeat (first | (with_reducible first | exact HB.out | apply below_alloc | apply pw_below_drewN | apply below_drew1) | exact HB.out))) : w.heap.size ≤ gb209)); have n3_ := Aside0.mk ((by rw [hg]; exact (below_size (by repeat (first | (with_reducible first | exact HB.out | apply below_alloc | apply pw_below_drewN | apply below_drew1) | exact HB.out))) : w.heap.size ≤ gb209)); clear HB; have HB := n0_; have BK209 := n1_; have GW209 := n2_; have GE209 := n3_; clear n0_ n1_ n2_ n3_; clear hb hbox hg; have p5 : 0 ≤ (a1 : Int) := of_decide_eq_true (by first | (with_reducible assumption) | assumption); have q5 : a1 < (a0.size : Int) := of_decide_eq_true (by first | (with_reducible assumption) | assumption); have hx5 := bt_at a0 a1; replace p5 := eq_true p5; replace q5 := eq_true q5) | ((with_reducible refine gate_callee (f := 70) rfl ?_); refine goesL_ (some 16) rfl rfl Tryz.func70 (by kernel_rfl) rfl #[.int .u8 (bt a0 a1)] rfl (by (try simp only [List.map_toArray, List.map_cons, List.map_nil]); first | done | rfl | (simp only [List.length_drop, List.length_take]; rfl)) ?_; (with_reducible refine (cairnref32_small.calls (bt a0 a1) false _ A6.out).mono ?_); rintro e w' ⟨rfl, ⟨nd, rfl⟩⟩; refine ⟨_, rfl, ?_⟩) | ((with_reducible refine gate_callee (f := 71) rfl ?_); refine goesL_ (some 50) rfl rfl Tryz.func71 (by kernel_rfl) rfl #[.int .u8 (bt a0 a1)] rfl (by (try simp only [List.map_toArray, List.map_cons, List.map_nil]); first | done | rfl | (simp only [List.length_drop, List.length_take]; rfl)) ?_; (with_reducible refine (cairnref32_digit.calls (bt a0 a1) true _ A27.out).mono ?_); rintro e w' ⟨rfl, ⟨nd, rfl⟩⟩; refine ⟨_, rfl, ?_⟩))
     go_loopg [7] k (fun kq v7 w' => ∃ (x7_1 : Int), v7 = .int .i64 x7_1 ∧ Aside0 (cairnref32_next.l1 kq a0 a1 x7_1 = some (r1, r2, r3, r4)) ∧ Aside0 (kq ≤ k) ∧ Aside0 (w'.heap[gb209]? = some (.cells #[.int .i64 0, .int .i64 0, .string (⟨#[]⟩ : ByteArray)] 74 (0, 0))) ∧ Aside0 (Below w.heap.size w w'))
     case atStart => exact ⟨(wrap64 (a1 + 1)), (by first | rfl | (simp; done) | (simp [*]; done)), H', ⟨Nat.le_refl _⟩, ⟨by (with_reducible repeat (first | refine blk_drewN ?_ _ | refine blk_drew ?_ | refine blk_alloc ?_ _)); exact BK209.out⟩, ⟨by repeat (first | (with_reducible first | exact HB.out | apply below_alloc | apply pw_below_drewN | apply below_drew1 | refine below_set ?_ GE209.out) | exact HB.out)⟩⟩
     case round =>
      clear H'
      try clear c3
      try clear c3b0
      try clear c4
      try clear c4b0
      try clear p5
      try clear q5
      try clear hx5
      try clear c7
      try clear c28
      obtain ⟨x7_1, rfl, HA, HK1, BK209, HB⟩ := hrel
      cases gk with
      | zero => exact absurd HA.out (by simp [cairnref32_next.l1])
      | succ k1 =>
       have H := HA.out
       clear HA
       simp only [cairnref32_next.l1] at H
       by_cases c30 : x7_1 < (a0.size : Int)
       ·
        rw [if_pos c30] at H
        have c30b0 : decide (x7_1 < (a0.size : Int)) = true := decide_eq_true c30
        clear c30
        by_cases c31 : 0 ≤ x7_1
        ·
         rw [if_pos c31] at H
         have c31b0 : decide (0 ≤ x7_1) = true := decide_eq_true c31
         clear c31
         replace H := Option.bind_eq_some_iff.mp H
         obtain ⟨t214, A330, H⟩ := H
         replace H : (if t214 = true then (cairnref32_next.l1 k1 a0 a1 (wrap64 (x7_1 + 1))) else (if 0 ≤ a1 then (if a1 ≤ x7_1 then (if x7_1 ≤ (a0.size : Int) then (some (2, a1, a0.extract (a1 : Int).toNat (x7_1 : Int).toNat, x7_1)) else (none)) else (none)) else (none))) = some (r1, r2, r3, r4) := H
         have A33 := Aside0.mk A330
         clear A330
         by_cases c34 : t214 = true
         ·
          subst c34
          have H1 : (cairnref32_next.l1 k1 a0 a1 (wrap64 (x7_1 + 1))) = some (r1, r2, r3, r4) := by rw [if_pos rfl] at H; exact H
          clear H
          have H := H1
          clear H1
          have H' := Aside0.mk H
          clear H
          have p32 : 0 ≤ (x7_1 : Int) := of_decide_eq_true (by first | (with_reducible assumption) | assumption)
          have q32 : x7_1 < (a0.size : Int) := of_decide_eq_true (by first | (with_reducible assumption) | assumption)
          have hx32 := bt_at a0 x7_1
          replace p32 := eq_true p32
          replace q32 := eq_true q32
          go_wp2_with (first | (go_at_call 71; (with_reducible refine (cairnref32_digit.calls (bt a0 x7_1) true _ A33.out).mono ?_); rintro e w' ⟨rfl, ⟨nd, rfl⟩⟩))
          go_roundg k1
          case measure => have := HK1.out; omega
          case rel => exact ⟨(wrap64 (x7_1 + 1)), (by first | rfl | (simp; done) | (simp [*]; done)), H', ⟨by have := HK1.out; omega⟩, ⟨by (with_reducible repeat (first | refine blk_drewN ?_ _ | refine blk_drew ?_ | refine blk_alloc ?_ _)); exact BK209.out⟩, ⟨by repeat (first | (with_reducible first | exact HB.out | apply below_alloc | apply pw_below_drewN | apply below_drew1 | refine below_set ?_ GE209.out) | exact HB.out)⟩⟩
         ·
          replace c34 := Bool.eq_false_iff.mpr c34
          subst c34
          have H1 : (if 0 ≤ a1 then (if a1 ≤ x7_1 then (if x7_1 ≤ (a0.size : Int) then (some (2, a1, a0.extract (a1 : Int).toNat (x7_1 : Int).toNat, x7_1)) else (none)) else (none)) else (none)) = some (r1, r2, r3, r4) := by rw [if_neg (show ¬ (false = true) by decide)] at H; exact H
          clear H
          have H := H1
          clear H1
          by_cases c35 : 0 ≤ a1
          ·
           rw [if_pos c35] at H
           have c35b0 := eq_true c35
           have c35b1 : decide (0 ≤ a1) = true := decide_eq_true c35
           clear c35
           by_cases c36 : a1 ≤ x7_1
           ·
            rw [if_pos c36] at H
            have c36b0 := eq_true c36
            have c36b1 : decide (a1 ≤ x7_1) = true := decide_eq_true c36
            clear c36
            by_cases c37 : x7_1 ≤ (a0.size : Int)
            ·
             rw [if_pos c37] at H
             have c37b0 := eq_true c37
             have c37b1 : decide (x7_1 ≤ (a0.size : Int)) = true := decide_eq_true c37
             clear c37
             simp only [Option.some.injEq, Prod.mk.injEq] at H
             obtain ⟨rfl, rfl, rfl, rfl⟩ := H
             have p32 : 0 ≤ (x7_1 : Int) := of_decide_eq_true (by first | (with_reducible assumption) | assumption)
             have q32 : x7_1 < (a0.size : Int) := of_decide_eq_true (by first | (with_reducible assumption) | assumption)
             have hx32 := bt_at a0 x7_1
             replace p32 := eq_true p32
             replace q32 := eq_true q32
             go_wp2_with (first | (go_at_call 71; (with_reducible refine (cairnref32_digit.calls (bt a0 x7_1) false _ A33.out).mono ?_); rintro e w' ⟨rfl, ⟨nd, rfl⟩⟩; (try (rw [drewN_self wr]; generalize hq_ : World.drewN wr _ = wr; have n0_ : Aside0 (wr.heap[gb209]? = some (.cells #[.int .i64 0, .int .i64 0, .string (⟨#[]⟩ : ByteArray)] 74 (0, 0))) := ⟨by rw [← hq_]; exact (by (with_reducible repeat (first | refine blk_drewN ?_ _ | refine blk_drew ?_ | refine blk_alloc ?_ _)); exact BK209.out)⟩; have n1_ : Aside0 (Below w.heap.size w wr) := ⟨by rw [← hq_]; exact (by repeat (first | (with_reducible first | exact HB.out | apply below_alloc | apply pw_below_drewN | apply below_drew1 | refine below_set ?_ GE209.out) | exact HB.out))⟩; clear BK209 HB hq_; have BK209 := n0_; have HB := n1_; clear n0_ n1_)); have hcz38_0 : wr.cell? ⟨gb209, 0, none⟩ = some (.int .i64 0) := (blk_cell BK209.out 0).trans rfl; have hcz38_1 : wr.cell? ⟨gb209, 1, none⟩ = some (.int .i64 0) := (blk_cell BK209.out 1).trans rfl; have hcz38_2 : wr.cell? ⟨gb209, 2, none⟩ = some (.string (⟨#[]⟩ : ByteArray)) := (blk_cell BK209.out 2).trans rfl; have hfz38_0 := blk_frozen BK209.out 0; have hfz38_1 := blk_frozen BK209.out 1; have hfz38_2 := blk_frozen BK209.out 2))
             refine bodyPost_ret (results_ct rfl _ _ gb209 74 #[.int .i64 2, .int .i64 a1, .string (a0.extract (a1 : Int).toNat (x7_1 : Int).toNat)] (0, 0) _ rfl (by (with_reducible repeat (first | refine blk_drewN ?_ _ | refine blk_drew ?_ | refine blk_alloc ?_ _)); refine blk_put (cs := #[.int .i64 2, .int .i64 a1, .string (⟨#[]⟩ : ByteArray)]) ?_ 2 _ rfl; (with_reducible repeat (first | refine blk_drewN ?_ _ | refine blk_drew ?_ | refine blk_alloc ?_ _)); refine blk_put (cs := #[.int .i64 2, .int .i64 0, .string (⟨#[]⟩ : ByteArray)]) ?_ 1 _ rfl; (with_reducible repeat (first | refine blk_drewN ?_ _ | refine blk_drew ?_ | refine blk_alloc ?_ _)); refine blk_put (cs := #[.int .i64 0, .int .i64 0, .string (⟨#[]⟩ : ByteArray)]) ?_ 0 _ rfl; (with_reducible repeat (first | refine blk_drewN ?_ _ | refine blk_drew ?_ | refine blk_alloc ?_ _)); exact BK209.out) Tryz.underlying74 rfl (by kernel_rfl)) rfl ?_
             exact ⟨by first | rfl | (simp [errW_none, errW_some] <;> rfl) | (simp [*, errW_none, errW_some] <;> rfl), by repeat (first | (with_reducible first | exact HB.out | apply below_alloc | apply pw_below_drewN | apply below_drew1 | refine below_set ?_ GE209.out) | exact HB.out)⟩
            ·
             rw [if_neg c37] at H
             exact absurd H (by simp)
           ·
            rw [if_neg c36] at H
            exact absurd H (by simp)
          ·
           rw [if_neg c35] at H
           exact absurd H (by simp)
        ·
         rw [if_neg c31] at H
         exact absurd H (by simp)
       ·
        rw [if_neg c30] at H
        have c30b0 : decide (x7_1 < (a0.size : Int)) = false := decide_eq_false c30
        clear c30
        by_cases c39 : 0 ≤ a1
        ·
         rw [if_pos c39] at H
         have c39b0 := eq_true c39
         have c39b1 : decide (0 ≤ a1) = true := decide_eq_true c39
         clear c39
         by_cases c40 : a1 ≤ x7_1
         ·
          rw [if_pos c40] at H
          have c40b0 := eq_true c40
          have c40b1 : decide (a1 ≤ x7_1) = true := decide_eq_true c40
          clear c40
          by_cases c41 : x7_1 ≤ (a0.size : Int)
          ·
           rw [if_pos c41] at H
           have c41b0 := eq_true c41
           have c41b1 : decide (x7_1 ≤ (a0.size : Int)) = true := decide_eq_true c41
           clear c41
           simp only [Option.some.injEq, Prod.mk.injEq] at H
           obtain ⟨rfl, rfl, rfl, rfl⟩ := H
           have hcz42_0 : wr.cell? ⟨gb209, 0, none⟩ = some (.int .i64 0) := (blk_cell BK209.out 0).trans rfl
           have hcz42_1 : wr.cell? ⟨gb209, 1, none⟩ = some (.int .i64 0) := (blk_cell BK209.out 1).trans rfl
           have hcz42_2 : wr.cell? ⟨gb209, 2, none⟩ = some (.string (⟨#[]⟩ : ByteArray)) := (blk_cell BK209.out 2).trans rfl
           have hfz42_0 := blk_frozen BK209.out 0
           have hfz42_1 := blk_frozen BK209.out 1
           have hfz42_2 := blk_frozen BK209.out 2
           go_wp2
           refine bodyPost_ret (results_ct rfl _ _ gb209 74 #[.int .i64 2, .int .i64 a1, .string (a0.extract (a1 : Int).toNat (x7_1 : Int).toNat)] (0, 0) _ rfl (by (with_reducible repeat (first | refine blk_drewN ?_ _ | refine blk_drew ?_ | refine blk_alloc ?_ _)); refine blk_put (cs := #[.int .i64 2, .int .i64 a1, .string (⟨#[]⟩ : ByteArray)]) ?_ 2 _ rfl; (with_reducible repeat (first | refine blk_drewN ?_ _ | refine blk_drew ?_ | refine blk_alloc ?_ _)); refine blk_put (cs := #[.int .i64 2, .int .i64 0, .string (⟨#[]⟩ : ByteArray)]) ?_ 1 _ rfl; (with_reducible repeat (first | refine blk_drewN ?_ _ | refine blk_drew ?_ | refine blk_alloc ?_ _)); refine blk_put (cs := #[.int .i64 0, .int .i64 0, .string (⟨#[]⟩ : ByteArray)]) ?_ 0 _ rfl; (with_reducible repeat (first | refine blk_drewN ?_ _ | refine blk_drew ?_ | refine blk_alloc ?_ _)); exact BK209.out) Tryz.underlying74 rfl (by kernel_rfl)) rfl ?_
           exact ⟨by first | rfl | (simp [errW_none, errW_some] <;> rfl) | (simp [*, errW_none, errW_some] <;> rfl), by repeat (first | (with_reducible first | exact HB.out | apply below_alloc | apply pw_below_drewN | apply below_drew1 | refine below_set ?_ GE209.out) | exact HB.out)⟩
          ·
           rw [if_neg c41] at H
           exact absurd H (by simp)
         ·
          rw [if_neg c40] at H
          exact absurd H (by simp)
        ·
         rw [if_neg c39] at H
         exact absurd H (by simp)
    ·
     replace c28 := Bool.eq_false_iff.mpr c28
     subst c28
     have H1 : (if (bt a0 a1) = 34 then (cairnref32_next.l2 k a0 a1 (wrap64 (a1 + 1)) (⟨#[]⟩ : ByteArray)) else (if (bt a0 a1) = 44 then (cairnref32_next.j4 k a0 a1 (bt a0 a1) (wrap64 (a1 + 1)) true) else (if (bt a0 a1) = 42 then (cairnref32_next.j4 k a0 a1 (bt a0 a1) (wrap64 (a1 + 1)) true) else (cairnref32_next.j4 k a0 a1 (bt a0 a1) (wrap64 (a1 + 1)) ((bt a0 a1) == 61))))) = some (r1, r2, r3, r4) := by rw [if_neg (show ¬ (false = true) by decide)] at H; exact H
     clear H
     have H := H1
     clear H1
     by_cases c43 : (bt a0 a1) = 34
     ·
      rw [if_pos c43] at H
      have c43b0 : ((bt a0 a1) == 34) = true := beq_iff_eq.mpr c43
      have c43b1 : ((bt a0 a1) != 34) = false := bne_eq_false_iff_eq.mpr c43
      clear c43
      have H' := Aside0.mk H
      clear H
      go_enter Tryz.func46, Tryz.ntmps46
      go_wp2_with (first | ((with_reducible refine gate_dst (N := 4) rfl ?_); refine box_event ?hg (N := 4) ?hd (cs := #[.int .i64 0, .int .i64 0, .string (⟨#[]⟩ : ByteArray)]) (t := 74) ?hr ?_; (case hd => rfl); (case hg => rfl); (case hr => first | (go_simp; done) | (go_simp; rfl)); intro gb209 hg w44 hbox hb; have n0_ := Aside0.mk (below_step (by repeat (first | (with_reducible first | exact HB.out | apply below_alloc | apply pw_below_drewN | apply below_drew1) | exact HB.out)) hb); have n1_ := Aside0.mk (hbox); have n2_ := Aside0.mk ((by rw [hg]; exact (below_size (by repeat (first | (with_reducible first | exact HB.out | apply below_alloc | apply pw_below_drewN | apply below_drew1) | exact HB.out))) : w.heap.size ≤ gb209)); have n3_ := Aside0.mk ((by rw [hg]; exact (below_size (by repeat (first | (with_reducible first | exact HB.out | apply below_alloc | apply pw_below_drewN | apply below_drew1) | exact HB.out))) : w.heap.size ≤ gb209)); clear HB; have HB := n0_; have BK209 := n1_; have GW209 := n2_; have GE209 := n3_; clear n0_ n1_ n2_ n3_; clear hb hbox hg; have p5 : 0 ≤ (a1 : Int) := of_decide_eq_true (by first | (with_reducible assumption) | assumption); have q5 : a1 < (a0.size : Int) := of_decide_eq_true (by first | (with_reducible assumption) | assumption); have hx5 := bt_at a0 a1; replace p5 := eq_true p5; replace q5 := eq_true q5) | ((with_reducible refine gate_callee (f := 70) rfl ?_); refine goesL_ (some 16) rfl rfl Tryz.func70 (by kernel_rfl) rfl #[.int .u8 (bt a0 a1)] rfl (by (try simp only [List.map_toArray, List.map_cons, List.map_nil]); first | done | rfl | (simp only [List.length_drop, List.length_take]; rfl)) ?_; (with_reducible refine (cairnref32_small.calls (bt a0 a1) false _ A6.out).mono ?_); rintro e w' ⟨rfl, ⟨nd, rfl⟩⟩; refine ⟨_, rfl, ?_⟩) | ((with_reducible refine gate_callee (f := 71) rfl ?_); refine goesL_ (some 50) rfl rfl Tryz.func71 (by kernel_rfl) rfl #[.int .u8 (bt a0 a1)] rfl (by (try simp only [List.map_toArray, List.map_cons, List.map_nil]); first | done | rfl | (simp only [List.length_drop, List.length_take]; rfl)) ?_; (with_reducible refine (cairnref32_digit.calls (bt a0 a1) false _ A27.out).mono ?_); rintro e w' ⟨rfl, ⟨nd, rfl⟩⟩; refine ⟨_, rfl, ?_⟩))
      go_loopg [7, 8] k (fun kq v7 v8 w' => ∃ (x7_1 : Int) (x8_1 : ByteArray) (x210000_1 : Int) (x210001_1 : Int) (x210002_1 : ByteArray), v7 = .int .i64 x7_1 ∧ v8 = .string x8_1 ∧ Aside0 (cairnref32_next.l2 kq a0 a1 x7_1 x8_1 = some (r1, r2, r3, r4)) ∧ Aside0 (kq ≤ k) ∧ Aside0 (w'.heap[gb209]? = some (.cells #[.int .i64 x210000_1, .int .i64 x210001_1, .string x210002_1] 74 (0, 0))) ∧ Aside0 (Below w.heap.size w w'))
      case atStart => exact ⟨(wrap64 (a1 + 1)), ((⟨#[]⟩ : ByteArray)), (0), (0), ((⟨#[]⟩ : ByteArray)), (by first | rfl | (simp; done) | (simp [*]; done)), (by first | rfl | (simp; done) | (simp [*]; done)), H', ⟨Nat.le_refl _⟩, ⟨by (with_reducible repeat (first | refine blk_drewN ?_ _ | refine blk_drew ?_ | refine blk_alloc ?_ _)); exact BK209.out⟩, ⟨by repeat (first | (with_reducible first | exact HB.out | apply below_alloc | apply pw_below_drewN | apply below_drew1 | refine below_set ?_ GE209.out) | exact HB.out)⟩⟩
      case round =>
       clear H'
       try clear c3
       try clear c3b0
       try clear c4
       try clear c4b0
       try clear p5
       try clear q5
       try clear hx5
       try clear c7
       try clear c28
       try clear c43
       try clear c43b0
       try clear c43b1
       obtain ⟨x7_1, x8_1, x210000_1, x210001_1, x210002_1, rfl, rfl, HA, HK1, BK209, HB⟩ := hrel
       cases gk with
       | zero => exact absurd HA.out (by simp [cairnref32_next.l2])
       | succ k1 =>
        have H := HA.out
        clear HA
        simp only [cairnref32_next.l2] at H
        have HC45 := Aside0.mk H
        clear H
        go_upto_region 13 with (fail)
        go_cut [82] (fun v82 wc => ∃ (kq : Nat) (x82_44 : Bool), v82 = .bool x82_44 ∧ Aside0 (cairnref32_next.j3 kq a0 a1 x7_1 x8_1 x82_44 = some (r1, r2, r3, r4)) ∧ Aside0 (kq ≤ k1) ∧ Aside0 (wc.heap[gb209]? = some (.cells #[.int .i64 x210000_1, .int .i64 x210001_1, .string x210002_1] 74 (0, 0))) ∧ Aside0 (Below w.heap.size w wc))
        case first =>
         have H := HC45.out
         clear HC45
         by_cases c46 : x7_1 < (a0.size : Int)
         ·
          rw [if_pos c46] at H
          have c46b0 : decide (x7_1 < (a0.size : Int)) = true := decide_eq_true c46
          clear c46
          (first | rw [c46b0] | (simp only [i64_w, i32_w]; rw [c46b0]) | skip)
          by_cases c47 : 0 ≤ x7_1
          ·
           rw [if_pos c47] at H
           have c47b0 : decide (0 ≤ x7_1) = true := decide_eq_true c47
           clear c47
           have H' := Aside0.mk H
           clear H
           have p48 : 0 ≤ (x7_1 : Int) := of_decide_eq_true (by first | (with_reducible assumption) | assumption)
           have q48 : x7_1 < (a0.size : Int) := of_decide_eq_true (by first | (with_reducible assumption) | assumption)
           have hx48 := bt_at a0 x7_1
           replace p48 := eq_true p48
           replace q48 := eq_true q48
           go_wp2
           go_meet
           case rel => exact ⟨_, (((bt a0 x7_1) != 34)), (by first | rfl | (simp; done) | (simp [*]; done)), H', ⟨by have := HK1.out; first | omega | exact Nat.le_refl _⟩, ⟨by (with_reducible repeat (first | refine blk_drewN ?_ _ | refine blk_drew ?_ | refine blk_alloc ?_ _)); exact BK209.out⟩, ⟨by repeat (first | (with_reducible first | exact HB.out | apply below_alloc | apply pw_below_drewN | apply below_drew1 | refine below_set ?_ GE209.out) | exact HB.out)⟩⟩
          ·
           rw [if_neg c47] at H
           exact absurd H (by simp)
         ·
          rw [if_neg c46] at H
          have c46b0 : decide (x7_1 < (a0.size : Int)) = false := decide_eq_false c46
          clear c46
          (first | rw [c46b0] | (simp only [i64_w, i32_w]; rw [c46b0]) | skip)
          have H' := Aside0.mk H
          clear H
          go_wp2
          go_meet
          case rel => exact ⟨_, (false), (by first | rfl | (simp; done) | (simp [*]; done)), H', ⟨by have := HK1.out; first | omega | exact Nat.le_refl _⟩, ⟨by (with_reducible repeat (first | refine blk_drewN ?_ _ | refine blk_drew ?_ | refine blk_alloc ?_ _)); exact BK209.out⟩, ⟨by repeat (first | (with_reducible first | exact HB.out | apply below_alloc | apply pw_below_drewN | apply below_drew1 | refine below_set ?_ GE209.out) | exact HB.out)⟩⟩
        case rest =>
         clear HC45
         obtain ⟨kq, x82_44, rfl, HA, HJ44, BK209, HB⟩ := hcut
         cases kq with
         | zero => exact absurd HA.out (by simp [cairnref32_next.j3])
         | succ kj44 =>
          have H := HA.out
          clear HA
          simp only [cairnref32_next.j3] at H
          by_cases c49 : x82_44 = true
          ·
           subst c49
           have H1 : (if 0 ≤ x7_1 then (if x7_1 < (a0.size : Int) then (if (bt a0 x7_1) = 92 then (if (wrap64 (x7_1 + 1)) = (a0.size : Int) then (some (6, a1, (⟨#[]⟩ : ByteArray), (a0.size : Int))) else (if 0 ≤ (wrap64 (x7_1 + 1)) then (if (wrap64 (x7_1 + 1)) < (a0.size : Int) then (if (bt a0 (wrap64 (x7_1 + 1))) = 34 then (if (wrap64 (x7_1 + 1)) ≤ (wrap64 ((wrap64 (x7_1 + 1)) + 1)) then (if (wrap64 ((wrap64 (x7_1 + 1)) + 1)) ≤ (a0.size : Int) then (if x8_1.size + (a0.extract ((wrap64 (x7_1 + 1)) : Int).toNat ((wrap64 ((wrap64 (x7_1 + 1)) + 1)) : Int).toNat).size ≤ 9223372036854775807 then (cairnref32_next.l2 kj44 a0 a1 (wrap64 ((wrap64 (x7_1 + 1)) + 1)) (x8_1 ++ (a0.extract ((wrap64 (x7_1 + 1)) : Int).toNat ((wrap64 ((wrap64 (x7_1 + 1)) + 1)) : Int).toNat))) else (none)) else (none)) else (none)) else (if (bt a0 (wrap64 (x7_1 + 1))) = 92 then (if (wrap64 (x7_1 + 1)) ≤ (wrap64 ((wrap64 (x7_1 + 1)) + 1)) then (if (wrap64 ((wrap64 (x7_1 + 1)) + 1)) ≤ (a0.size : Int) then (if x8_1.size + (a0.extract ((wrap64 (x7_1 + 1)) : Int).toNat ((wrap64 ((wrap64 (x7_1 + 1)) + 1)) : Int).toNat).size ≤ 9223372036854775807 then (cairnref32_next.l2 kj44 a0 a1 (wrap64 ((wrap64 (x7_1 + 1)) + 1)) (x8_1 ++ (a0.extract ((wrap64 (x7_1 + 1)) : Int).toNat ((wrap64 ((wrap64 (x7_1 + 1)) + 1)) : Int).toNat))) else (none)) else (none)) else (none)) else (some (6, a1, (⟨#[]⟩ : ByteArray), (a0.size : Int))))) else (none)) else (none))) else (if x7_1 ≤ (wrap64 (x7_1 + 1)) then (if (wrap64 (x7_1 + 1)) ≤ (a0.size : Int) then (if x8_1.size + (a0.extract (x7_1 : Int).toNat ((wrap64 (x7_1 + 1)) : Int).toNat).size ≤ 9223372036854775807 then (cairnref32_next.l2 kj44 a0 a1 (wrap64 (x7_1 + 1)) (x8_1 ++ (a0.extract (x7_1 : Int).toNat ((wrap64 (x7_1 + 1)) : Int).toNat))) else (none)) else (none)) else (none))) else (none)) else (none)) = some (r1, r2, r3, r4) := by rw [if_pos rfl] at H; exact H
           clear H
           have H := H1
           clear H1
           by_cases c50 : 0 ≤ x7_1
           ·
            rw [if_pos c50] at H
            have c50b0 : decide (0 ≤ x7_1) = true := decide_eq_true c50
            clear c50
            by_cases c51 : x7_1 < (a0.size : Int)
            ·
             rw [if_pos c51] at H
             have c51b0 : decide (x7_1 < (a0.size : Int)) = true := decide_eq_true c51
             clear c51
             by_cases c53 : (bt a0 x7_1) = 92
             ·
              rw [if_pos c53] at H
              have c53b0 : ((bt a0 x7_1) == 92) = true := beq_iff_eq.mpr c53
              have c53b1 : ((bt a0 x7_1) != 92) = false := bne_eq_false_iff_eq.mpr c53
              clear c53
              by_cases c54 : (wrap64 (x7_1 + 1)) = (a0.size : Int)
              ·
               rw [if_pos c54] at H
               have c54b0 : ((wrap64 (x7_1 + 1)) == (a0.size : Int)) = true := beq_iff_eq.mpr c54
               have c54b1 : ((wrap64 (x7_1 + 1)) != (a0.size : Int)) = false := bne_eq_false_iff_eq.mpr c54
               clear c54
               simp only [Option.some.injEq, Prod.mk.injEq] at H
               obtain ⟨rfl, rfl, rfl, rfl⟩ := H
               have p52 : 0 ≤ (x7_1 : Int) := of_decide_eq_true (by first | (with_reducible assumption) | assumption)
               have q52 : x7_1 < (a0.size : Int) := of_decide_eq_true (by first | (with_reducible assumption) | assumption)
               have hx52 := bt_at a0 x7_1
               replace p52 := eq_true p52
               replace q52 := eq_true q52
               have hcz55_0 : wc.cell? ⟨gb209, 0, none⟩ = some (.int .i64 x210000_1) := (blk_cell BK209.out 0).trans rfl
               have hcz55_1 : wc.cell? ⟨gb209, 1, none⟩ = some (.int .i64 x210001_1) := (blk_cell BK209.out 1).trans rfl
               have hcz55_2 : wc.cell? ⟨gb209, 2, none⟩ = some (.string x210002_1) := (blk_cell BK209.out 2).trans rfl
               have hfz55_0 := blk_frozen BK209.out 0
               have hfz55_1 := blk_frozen BK209.out 1
               have hfz55_2 := blk_frozen BK209.out 2
               go_wp2
               refine bodyPost_ret (results_ct rfl _ _ gb209 74 #[.int .i64 6, .int .i64 a1, .string (⟨#[]⟩ : ByteArray)] (0, 0) _ rfl (by (with_reducible repeat (first | refine blk_drewN ?_ _ | refine blk_drew ?_ | refine blk_alloc ?_ _)); refine blk_put (cs := #[.int .i64 6, .int .i64 a1, .string x210002_1]) ?_ 2 _ rfl; (with_reducible repeat (first | refine blk_drewN ?_ _ | refine blk_drew ?_ | refine blk_alloc ?_ _)); refine blk_put (cs := #[.int .i64 6, .int .i64 x210001_1, .string x210002_1]) ?_ 1 _ rfl; (with_reducible repeat (first | refine blk_drewN ?_ _ | refine blk_drew ?_ | refine blk_alloc ?_ _)); refine blk_put (cs := #[.int .i64 x210000_1, .int .i64 x210001_1, .string x210002_1]) ?_ 0 _ rfl; (with_reducible repeat (first | refine blk_drewN ?_ _ | refine blk_drew ?_ | refine blk_alloc ?_ _)); exact BK209.out) Tryz.underlying74 rfl (by kernel_rfl)) rfl ?_
               exact ⟨by first | rfl | (simp [errW_none, errW_some] <;> rfl) | (simp [*, errW_none, errW_some] <;> rfl), by repeat (first | (with_reducible first | exact HB.out | apply below_alloc | apply pw_below_drewN | apply below_drew1 | refine below_set ?_ GE209.out) | exact HB.out)⟩
              ·
               rw [if_neg c54] at H
               have c54b0 : ((wrap64 (x7_1 + 1)) == (a0.size : Int)) = false := beq_eq_false_iff_ne.mpr c54
               have c54b1 : ((wrap64 (x7_1 + 1)) != (a0.size : Int)) = true := bne_iff_ne.mpr c54
               obtain ⟨ji56, hji56⟩ : ∃ j_ : Int, (wrap64 (x7_1 + 1)) = j_ := ⟨_, rfl⟩
               replace H : (if 0 ≤ (ji56) then (if (ji56) < (a0.size : Int) then (if (bt a0 (ji56)) = 34 then (if (ji56) ≤ (wrap64 ((ji56) + 1)) then (if (wrap64 ((ji56) + 1)) ≤ (a0.size : Int) then (if x8_1.size + (a0.extract ((ji56) : Int).toNat ((wrap64 ((ji56) + 1)) : Int).toNat).size ≤ 9223372036854775807 then (cairnref32_next.l2 kj44 a0 a1 (wrap64 ((ji56) + 1)) (x8_1 ++ (a0.extract ((ji56) : Int).toNat ((wrap64 ((ji56) + 1)) : Int).toNat))) else (none)) else (none)) else (none)) else (if (bt a0 (ji56)) = 92 then (if (ji56) ≤ (wrap64 ((ji56) + 1)) then (if (wrap64 ((ji56) + 1)) ≤ (a0.size : Int) then (if x8_1.size + (a0.extract ((ji56) : Int).toNat ((wrap64 ((ji56) + 1)) : Int).toNat).size ≤ 9223372036854775807 then (cairnref32_next.l2 kj44 a0 a1 (wrap64 ((ji56) + 1)) (x8_1 ++ (a0.extract ((ji56) : Int).toNat ((wrap64 ((ji56) + 1)) : Int).toNat))) else (none)) else (none)) else (none)) else (some (6, a1, (⟨#[]⟩ : ByteArray), (a0.size : Int))))) else (none)) else (none)) = some (r1, r2, r3, r4) := by first | (rw [hji56] at H; exact H) | (simp only [hji56] at H ⊢; exact H)
               (try rw [hji56] at c54b0)
               (try rw [hji56] at c54b1)
               have hji56w : (IntKind.i64.wrap (x7_1 + 1)) = ji56 := (i64_w _).trans hji56
               by_cases c57 : 0 ≤ (ji56)
               ·
                rw [if_pos c57] at H
                have c57b0 : decide (0 ≤ (ji56)) = true := decide_eq_true c57
                clear c57
                by_cases c58 : (ji56) < (a0.size : Int)
                ·
                 rw [if_pos c58] at H
                 have c58b0 : decide ((ji56) < (a0.size : Int)) = true := decide_eq_true c58
                 clear c58
                 by_cases c60 : (bt a0 (ji56)) = 34
                 ·
                  rw [if_pos c60] at H
                  have c60b0 : ((bt a0 (ji56)) == 34) = true := beq_iff_eq.mpr c60
                  have c60b1 : ((bt a0 (ji56)) != 34) = false := bne_eq_false_iff_eq.mpr c60
                  clear c60
                  have c61b0 := eq_true (of_decide_eq_true (by first | (with_reducible assumption) | assumption) : 0 ≤ (ji56))
                  by_cases c62 : (ji56) ≤ (wrap64 ((ji56) + 1))
                  ·
                   rw [if_pos c62] at H
                   have c62b0 := eq_true c62
                   have c62b1 : decide ((ji56) ≤ (wrap64 ((ji56) + 1))) = true := decide_eq_true c62
                   by_cases c63 : (wrap64 ((ji56) + 1)) ≤ (a0.size : Int)
                   ·
                    rw [if_pos c63] at H
                    have c63b0 := eq_true c63
                    have c63b1 : decide ((wrap64 ((ji56) + 1)) ≤ (a0.size : Int)) = true := decide_eq_true c63
                    by_cases c64 : x8_1.size + (a0.extract ((ji56) : Int).toNat ((wrap64 ((ji56) + 1)) : Int).toNat).size ≤ 9223372036854775807
                    ·
                     rw [if_pos c64] at H
                     have c64b0 := eq_true c64
                     have c64b1 : decide (x8_1.size + (a0.extract ((ji56) : Int).toNat ((wrap64 ((ji56) + 1)) : Int).toNat).size ≤ 9223372036854775807) = true := decide_eq_true c64
                     try have c64b2 : (9223372036854775807 < x8_1.size + (a0.extract ((ji56) : Int).toNat ((wrap64 ((ji56) + 1)) : Int).toNat).size) = False := eq_false (Nat.not_lt.2 c64)
                     have H' := Aside0.mk H
                     clear H
                     have p52 : 0 ≤ (x7_1 : Int) := of_decide_eq_true (by first | (with_reducible assumption) | assumption)
                     have q52 : x7_1 < (a0.size : Int) := of_decide_eq_true (by first | (with_reducible assumption) | assumption)
                     have hx52 := bt_at a0 x7_1
                     replace p52 := eq_true p52
                     replace q52 := eq_true q52
                     have p59 : 0 ≤ ((ji56) : Int) := of_decide_eq_true (by first | (with_reducible assumption) | assumption)
                     have q59 : (ji56) < (a0.size : Int) := of_decide_eq_true (by first | (with_reducible assumption) | assumption)
                     have hx59 := bt_at a0 (ji56)
                     replace p59 := eq_true p59
                     replace q59 := eq_true q59
                     go_wp2
                     go_roundg kj44
                     case measure => have := HK1.out; have := HJ44.out; omega
                     case rel => exact ⟨(wrap64 ((ji56) + 1)), (x8_1 ++ (a0.extract ((ji56) : Int).toNat ((wrap64 ((ji56) + 1)) : Int).toNat)), (x210000_1), (x210001_1), (x210002_1), (by first | rfl | (simp; done) | (simp only [← hji56] <;> (first | rfl | simp)) | (simp [*]; done)), (by first | rfl | (simp; done) | (simp only [← hji56] <;> (first | rfl | simp)) | (simp [*]; done)), H', ⟨by have := HK1.out; have := HJ44.out; omega⟩, ⟨by (with_reducible repeat (first | refine blk_drewN ?_ _ | refine blk_drew ?_ | refine blk_alloc ?_ _)); exact BK209.out⟩, ⟨by repeat (first | (with_reducible first | exact HB.out | apply below_alloc | apply pw_below_drewN | apply below_drew1 | refine below_set ?_ GE209.out) | exact HB.out)⟩⟩
                    ·
                     rw [if_neg c64] at H
                     exact absurd H (by simp)
                   ·
                    rw [if_neg c63] at H
                    exact absurd H (by simp)
                  ·
                   rw [if_neg c62] at H
                   exact absurd H (by simp)
                 ·
                  rw [if_neg c60] at H
                  have c60b0 : ((bt a0 (ji56)) == 34) = false := beq_eq_false_iff_ne.mpr c60
                  have c60b1 : ((bt a0 (ji56)) != 34) = true := bne_iff_ne.mpr c60
                  by_cases c66 : (bt a0 (ji56)) = 92
                  ·
                   rw [if_pos c66] at H
                   have c66b0 : ((bt a0 (ji56)) == 92) = true := beq_iff_eq.mpr c66
                   have c66b1 : ((bt a0 (ji56)) != 92) = false := bne_eq_false_iff_eq.mpr c66
                   clear c66
                   have c67b0 := eq_true (of_decide_eq_true (by first | (with_reducible assumption) | assumption) : 0 ≤ (ji56))
                   by_cases c68 : (ji56) ≤ (wrap64 ((ji56) + 1))
                   ·
                    rw [if_pos c68] at H
                    have c68b0 := eq_true c68
                    have c68b1 : decide ((ji56) ≤ (wrap64 ((ji56) + 1))) = true := decide_eq_true c68
                    by_cases c69 : (wrap64 ((ji56) + 1)) ≤ (a0.size : Int)
                    ·
                     rw [if_pos c69] at H
                     have c69b0 := eq_true c69
                     have c69b1 : decide ((wrap64 ((ji56) + 1)) ≤ (a0.size : Int)) = true := decide_eq_true c69
                     by_cases c70 : x8_1.size + (a0.extract ((ji56) : Int).toNat ((wrap64 ((ji56) + 1)) : Int).toNat).size ≤ 9223372036854775807
                     ·
                      rw [if_pos c70] at H
                      have c70b0 := eq_true c70
                      have c70b1 : decide (x8_1.size + (a0.extract ((ji56) : Int).toNat ((wrap64 ((ji56) + 1)) : Int).toNat).size ≤ 9223372036854775807) = true := decide_eq_true c70
                      try have c70b2 : (9223372036854775807 < x8_1.size + (a0.extract ((ji56) : Int).toNat ((wrap64 ((ji56) + 1)) : Int).toNat).size) = False := eq_false (Nat.not_lt.2 c70)
                      have H' := Aside0.mk H
                      clear H
                      have p52 : 0 ≤ (x7_1 : Int) := of_decide_eq_true (by first | (with_reducible assumption) | assumption)
                      have q52 : x7_1 < (a0.size : Int) := of_decide_eq_true (by first | (with_reducible assumption) | assumption)
                      have hx52 := bt_at a0 x7_1
                      replace p52 := eq_true p52
                      replace q52 := eq_true q52
                      have p59 : 0 ≤ ((ji56) : Int) := of_decide_eq_true (by first | (with_reducible assumption) | assumption)
                      have q59 : (ji56) < (a0.size : Int) := of_decide_eq_true (by first | (with_reducible assumption) | assumption)
                      have hx59 := bt_at a0 (ji56)
                      replace p59 := eq_true p59
                      replace q59 := eq_true q59
                      have p65 : 0 ≤ ((ji56) : Int) := of_decide_eq_true (by first | (with_reducible assumption) | assumption)
                      have q65 : (ji56) < (a0.size : Int) := of_decide_eq_true (by first | (with_reducible assumption) | assumption)
                      have hx65 := bt_at a0 (ji56)
                      replace p65 := eq_true p65
                      replace q65 := eq_true q65
                      go_wp2
                      go_roundg kj44
                      case measure => have := HK1.out; have := HJ44.out; omega
                      case rel => exact ⟨(wrap64 ((ji56) + 1)), (x8_1 ++ (a0.extract ((ji56) : Int).toNat ((wrap64 ((ji56) + 1)) : Int).toNat)), (x210000_1), (x210001_1), (x210002_1), (by first | rfl | (simp; done) | (simp only [← hji56] <;> (first | rfl | simp)) | (simp [*]; done)), (by first | rfl | (simp; done) | (simp only [← hji56] <;> (first | rfl | simp)) | (simp [*]; done)), H', ⟨by have := HK1.out; have := HJ44.out; omega⟩, ⟨by (with_reducible repeat (first | refine blk_drewN ?_ _ | refine blk_drew ?_ | refine blk_alloc ?_ _)); exact BK209.out⟩, ⟨by repeat (first | (with_reducible first | exact HB.out | apply below_alloc | apply pw_below_drewN | apply below_drew1 | refine below_set ?_ GE209.out) | exact HB.out)⟩⟩
                     ·
                      rw [if_neg c70] at H
                      exact absurd H (by simp)
                    ·
                     rw [if_neg c69] at H
                     exact absurd H (by simp)
                   ·
                    rw [if_neg c68] at H
                    exact absurd H (by simp)
                  ·
                   rw [if_neg c66] at H
                   have c66b0 : ((bt a0 (ji56)) == 92) = false := beq_eq_false_iff_ne.mpr c66
                   have c66b1 : ((bt a0 (ji56)) != 92) = true := bne_iff_ne.mpr c66
                   simp only [Option.some.injEq, Prod.mk.injEq] at H
                   obtain ⟨rfl, rfl, rfl, rfl⟩ := H
                   have p52 : 0 ≤ (x7_1 : Int) := of_decide_eq_true (by first | (with_reducible assumption) | assumption)
                   have q52 : x7_1 < (a0.size : Int) := of_decide_eq_true (by first | (with_reducible assumption) | assumption)
                   have hx52 := bt_at a0 x7_1
                   replace p52 := eq_true p52
                   replace q52 := eq_true q52
                   have p59 : 0 ≤ ((ji56) : Int) := of_decide_eq_true (by first | (with_reducible assumption) | assumption)
                   have q59 : (ji56) < (a0.size : Int) := of_decide_eq_true (by first | (with_reducible assumption) | assumption)
                   have hx59 := bt_at a0 (ji56)
                   replace p59 := eq_true p59
                   replace q59 := eq_true q59
                   have p65 : 0 ≤ ((ji56) : Int) := of_decide_eq_true (by first | (with_reducible assumption) | assumption)
                   have q65 : (ji56) < (a0.size : Int) := of_decide_eq_true (by first | (with_reducible assumption) | assumption)
                   have hx65 := bt_at a0 (ji56)
                   replace p65 := eq_true p65
                   replace q65 := eq_true q65
                   have hcz71_0 : wc.cell? ⟨gb209, 0, none⟩ = some (.int .i64 x210000_1) := (blk_cell BK209.out 0).trans rfl
                   have hcz71_1 : wc.cell? ⟨gb209, 1, none⟩ = some (.int .i64 x210001_1) := (blk_cell BK209.out 1).trans rfl
                   have hcz71_2 : wc.cell? ⟨gb209, 2, none⟩ = some (.string x210002_1) := (blk_cell BK209.out 2).trans rfl
                   have hfz71_0 := blk_frozen BK209.out 0
                   have hfz71_1 := blk_frozen BK209.out 1
                   have hfz71_2 := blk_frozen BK209.out 2
                   go_wp2
                   refine bodyPost_ret (results_ct rfl _ _ gb209 74 #[.int .i64 6, .int .i64 a1, .string (⟨#[]⟩ : ByteArray)] (0, 0) _ rfl (by (with_reducible repeat (first | refine blk_drewN ?_ _ | refine blk_drew ?_ | refine blk_alloc ?_ _)); refine blk_put (cs := #[.int .i64 6, .int .i64 a1, .string x210002_1]) ?_ 2 _ rfl; (with_reducible repeat (first | refine blk_drewN ?_ _ | refine blk_drew ?_ | refine blk_alloc ?_ _)); refine blk_put (cs := #[.int .i64 6, .int .i64 x210001_1, .string x210002_1]) ?_ 1 _ rfl; (with_reducible repeat (first | refine blk_drewN ?_ _ | refine blk_drew ?_ | refine blk_alloc ?_ _)); refine blk_put (cs := #[.int .i64 x210000_1, .int .i64 x210001_1, .string x210002_1]) ?_ 0 _ rfl; (with_reducible repeat (first | refine blk_drewN ?_ _ | refine blk_drew ?_ | refine blk_alloc ?_ _)); exact BK209.out) Tryz.underlying74 rfl (by kernel_rfl)) rfl ?_
                   exact ⟨by first | rfl | (simp [errW_none, errW_some] <;> rfl) | (simp only [← hji56]; first | rfl | (simp [errW_none, errW_some] <;> rfl)) | (simp [*, errW_none, errW_some] <;> rfl), by repeat (first | (with_reducible first | exact HB.out | apply below_alloc | apply pw_below_drewN | apply below_drew1 | refine below_set ?_ GE209.out) | exact HB.out)⟩
                ·
                 rw [if_neg c58] at H
                 exact absurd H (by simp)
               ·
                rw [if_neg c57] at H
                exact absurd H (by simp)
             ·
              rw [if_neg c53] at H
              have c53b0 : ((bt a0 x7_1) == 92) = false := beq_eq_false_iff_ne.mpr c53
              have c53b1 : ((bt a0 x7_1) != 92) = true := bne_iff_ne.mpr c53
              have c72b0 := eq_true (of_decide_eq_true (by first | (with_reducible assumption) | assumption) : 0 ≤ x7_1)
              by_cases c73 : x7_1 ≤ (wrap64 (x7_1 + 1))
              ·
               rw [if_pos c73] at H
               have c73b0 := eq_true c73
               have c73b1 : decide (x7_1 ≤ (wrap64 (x7_1 + 1))) = true := decide_eq_true c73
               by_cases c74 : (wrap64 (x7_1 + 1)) ≤ (a0.size : Int)
               ·
                rw [if_pos c74] at H
                have c74b0 := eq_true c74
                have c74b1 : decide ((wrap64 (x7_1 + 1)) ≤ (a0.size : Int)) = true := decide_eq_true c74
                by_cases c75 : x8_1.size + (a0.extract (x7_1 : Int).toNat ((wrap64 (x7_1 + 1)) : Int).toNat).size ≤ 9223372036854775807
                ·
                 rw [if_pos c75] at H
                 have c75b0 := eq_true c75
                 have c75b1 : decide (x8_1.size + (a0.extract (x7_1 : Int).toNat ((wrap64 (x7_1 + 1)) : Int).toNat).size ≤ 9223372036854775807) = true := decide_eq_true c75
                 try have c75b2 : (9223372036854775807 < x8_1.size + (a0.extract (x7_1 : Int).toNat ((wrap64 (x7_1 + 1)) : Int).toNat).size) = False := eq_false (Nat.not_lt.2 c75)
                 have H' := Aside0.mk H
                 clear H
                 have p52 : 0 ≤ (x7_1 : Int) := of_decide_eq_true (by first | (with_reducible assumption) | assumption)
                 have q52 : x7_1 < (a0.size : Int) := of_decide_eq_true (by first | (with_reducible assumption) | assumption)
                 have hx52 := bt_at a0 x7_1
                 replace p52 := eq_true p52
                 replace q52 := eq_true q52
                 go_wp2
                 go_roundg kj44
                 case measure => have := HK1.out; have := HJ44.out; omega
                 case rel => exact ⟨(wrap64 (x7_1 + 1)), (x8_1 ++ (a0.extract (x7_1 : Int).toNat ((wrap64 (x7_1 + 1)) : Int).toNat)), (x210000_1), (x210001_1), (x210002_1), (by first | rfl | (simp; done) | (simp [*]; done)), (by first | rfl | (simp; done) | (simp [*]; done)), H', ⟨by have := HK1.out; have := HJ44.out; omega⟩, ⟨by (with_reducible repeat (first | refine blk_drewN ?_ _ | refine blk_drew ?_ | refine blk_alloc ?_ _)); exact BK209.out⟩, ⟨by repeat (first | (with_reducible first | exact HB.out | apply below_alloc | apply pw_below_drewN | apply below_drew1 | refine below_set ?_ GE209.out) | exact HB.out)⟩⟩
                ·
                 rw [if_neg c75] at H
                 exact absurd H (by simp)
               ·
                rw [if_neg c74] at H
                exact absurd H (by simp)
              ·
               rw [if_neg c73] at H
               exact absurd H (by simp)
            ·
             rw [if_neg c51] at H
             exact absurd H (by simp)
           ·
            rw [if_neg c50] at H
            exact absurd H (by simp)
          ·
           replace c49 := Bool.eq_false_iff.mpr c49
           subst c49
           have H1 : (if x7_1 ≥ (a0.size : Int) then (some (6, a1, (⟨#[]⟩ : ByteArray), (a0.size : Int))) else (some (3, a1, x8_1, wrap64 (x7_1 + 1)))) = some (r1, r2, r3, r4) := by rw [if_neg (show ¬ (false = true) by decide)] at H; exact H
           clear H
           have H := H1
           clear H1
           by_cases c76 : x7_1 ≥ (a0.size : Int)
           ·
            rw [if_pos c76] at H
            have c76b0 : decide ((a0.size : Int) ≤ x7_1) = true := decide_eq_true c76
            clear c76
            simp only [Option.some.injEq, Prod.mk.injEq] at H
            obtain ⟨rfl, rfl, rfl, rfl⟩ := H
            have hcz77_0 : wc.cell? ⟨gb209, 0, none⟩ = some (.int .i64 x210000_1) := (blk_cell BK209.out 0).trans rfl
            have hcz77_1 : wc.cell? ⟨gb209, 1, none⟩ = some (.int .i64 x210001_1) := (blk_cell BK209.out 1).trans rfl
            have hcz77_2 : wc.cell? ⟨gb209, 2, none⟩ = some (.string x210002_1) := (blk_cell BK209.out 2).trans rfl
            have hfz77_0 := blk_frozen BK209.out 0
            have hfz77_1 := blk_frozen BK209.out 1
            have hfz77_2 := blk_frozen BK209.out 2
            go_wp2
            refine bodyPost_ret (results_ct rfl _ _ gb209 74 #[.int .i64 6, .int .i64 a1, .string (⟨#[]⟩ : ByteArray)] (0, 0) _ rfl (by (with_reducible repeat (first | refine blk_drewN ?_ _ | refine blk_drew ?_ | refine blk_alloc ?_ _)); refine blk_put (cs := #[.int .i64 6, .int .i64 a1, .string x210002_1]) ?_ 2 _ rfl; (with_reducible repeat (first | refine blk_drewN ?_ _ | refine blk_drew ?_ | refine blk_alloc ?_ _)); refine blk_put (cs := #[.int .i64 6, .int .i64 x210001_1, .string x210002_1]) ?_ 1 _ rfl; (with_reducible repeat (first | refine blk_drewN ?_ _ | refine blk_drew ?_ | refine blk_alloc ?_ _)); refine blk_put (cs := #[.int .i64 x210000_1, .int .i64 x210001_1, .string x210002_1]) ?_ 0 _ rfl; (with_reducible repeat (first | refine blk_drewN ?_ _ | refine blk_drew ?_ | refine blk_alloc ?_ _)); exact BK209.out) Tryz.underlying74 rfl (by kernel_rfl)) rfl ?_
            exact ⟨by first | rfl | (simp [errW_none, errW_some] <;> rfl) | (simp [*, errW_none, errW_some] <;> rfl), by repeat (first | (with_reducible first | exact HB.out | apply below_alloc | apply pw_below_drewN | apply below_drew1 | refine below_set ?_ GE209.out) | exact HB.out)⟩
           ·
            rw [if_neg c76] at H
            have c76b0 : decide ((a0.size : Int) ≤ x7_1) = false := decide_eq_false c76
            clear c76
            simp only [Option.some.injEq, Prod.mk.injEq] at H
            obtain ⟨rfl, rfl, rfl, rfl⟩ := H
            have hcz78_0 : wc.cell? ⟨gb209, 0, none⟩ = some (.int .i64 x210000_1) := (blk_cell BK209.out 0).trans rfl
            have hcz78_1 : wc.cell? ⟨gb209, 1, none⟩ = some (.int .i64 x210001_1) := (blk_cell BK209.out 1).trans rfl
            have hcz78_2 : wc.cell? ⟨gb209, 2, none⟩ = some (.string x210002_1) := (blk_cell BK209.out 2).trans rfl
            have hfz78_0 := blk_frozen BK209.out 0
            have hfz78_1 := blk_frozen BK209.out 1
            have hfz78_2 := blk_frozen BK209.out 2
            go_wp2
            refine bodyPost_ret (results_ct rfl _ _ gb209 74 #[.int .i64 3, .int .i64 a1, .string x8_1] (0, 0) _ rfl (by (with_reducible repeat (first | refine blk_drewN ?_ _ | refine blk_drew ?_ | refine blk_alloc ?_ _)); refine blk_put (cs := #[.int .i64 3, .int .i64 a1, .string x210002_1]) ?_ 2 _ rfl; (with_reducible repeat (first | refine blk_drewN ?_ _ | refine blk_drew ?_ | refine blk_alloc ?_ _)); refine blk_put (cs := #[.int .i64 3, .int .i64 x210001_1, .string x210002_1]) ?_ 1 _ rfl; (with_reducible repeat (first | refine blk_drewN ?_ _ | refine blk_drew ?_ | refine blk_alloc ?_ _)); refine blk_put (cs := #[.int .i64 x210000_1, .int .i64 x210001_1, .string x210002_1]) ?_ 0 _ rfl; (with_reducible repeat (first | refine blk_drewN ?_ _ | refine blk_drew ?_ | refine blk_alloc ?_ _)); exact BK209.out) Tryz.underlying74 rfl (by kernel_rfl)) rfl ?_
            exact ⟨by first | rfl | (simp [errW_none, errW_some] <;> rfl) | (simp [*, errW_none, errW_some] <;> rfl), by repeat (first | (with_reducible first | exact HB.out | apply below_alloc | apply pw_below_drewN | apply below_drew1 | refine below_set ?_ GE209.out) | exact HB.out)⟩
     ·
      rw [if_neg c43] at H
      have c43b0 : ((bt a0 a1) == 34) = false := beq_eq_false_iff_ne.mpr c43
      have c43b1 : ((bt a0 a1) != 34) = true := bne_iff_ne.mpr c43
      have HC79 := Aside0.mk H
      clear H
      go_enter Tryz.func46, Tryz.ntmps46
      go_upto_region 23 with (first | ((with_reducible refine gate_dst (N := 4) rfl ?_); refine box_event ?hg (N := 4) ?hd (cs := #[.int .i64 0, .int .i64 0, .string (⟨#[]⟩ : ByteArray)]) (t := 74) ?hr ?_; (case hd => rfl); (case hg => rfl); (case hr => first | (go_simp; done) | (go_simp; rfl)); intro gb209 hg w80 hbox hb; have n0_ := Aside0.mk (below_step (by repeat (first | (with_reducible first | exact HB.out | apply below_alloc | apply pw_below_drewN | apply below_drew1) | exact HB.out)) hb); have n1_ := Aside0.mk (hbox); have n2_ := Aside0.mk ((by rw [hg]; exact (below_size (by repeat (first | (with_reducible first | exact HB.out | apply below_alloc | apply pw_below_drewN | apply below_drew1) | exact HB.out))) : w.heap.size ≤ gb209)); have n3_ := Aside0.mk ((by rw [hg]; exact (below_size (by repeat (first | (with_reducible first | exact HB.out | apply below_alloc | apply pw_below_drewN | apply below_drew1) | exact HB.out))) : w.heap.size ≤ gb209)); clear HB; have HB := n0_; have BK209 := n1_; have GW209 := n2_; have GE209 := n3_; clear n0_ n1_ n2_ n3_; clear hb hbox hg; have p5 : 0 ≤ (a1 : Int) := of_decide_eq_true (by first | (with_reducible assumption) | assumption); have q5 : a1 < (a0.size : Int) := of_decide_eq_true (by first | (with_reducible assumption) | assumption); have hx5 := bt_at a0 a1; replace p5 := eq_true p5; replace q5 := eq_true q5) | ((with_reducible refine gate_callee (f := 70) rfl ?_); refine goesL_ (some 16) rfl rfl Tryz.func70 (by kernel_rfl) rfl #[.int .u8 (bt a0 a1)] rfl (by (try simp only [List.map_toArray, List.map_cons, List.map_nil]); first | done | rfl | (simp only [List.length_drop, List.length_take]; rfl)) ?_; (with_reducible refine (cairnref32_small.calls (bt a0 a1) false _ A6.out).mono ?_); rintro e w' ⟨rfl, ⟨nd, rfl⟩⟩; refine ⟨_, rfl, ?_⟩) | ((with_reducible refine gate_callee (f := 71) rfl ?_); refine goesL_ (some 50) rfl rfl Tryz.func71 (by kernel_rfl) rfl #[.int .u8 (bt a0 a1)] rfl (by (try simp only [List.map_toArray, List.map_cons, List.map_nil]); first | done | rfl | (simp only [List.length_drop, List.length_take]; rfl)) ?_; (with_reducible refine (cairnref32_digit.calls (bt a0 a1) false _ A27.out).mono ?_); rintro e w' ⟨rfl, ⟨nd, rfl⟩⟩; refine ⟨_, rfl, ?_⟩))
      (try simp only [Act.put, List.setIfInBounds_toArray, List.set_cons_zero, List.set_cons_succ])
      go_cut [131] (fun v131 wc => ∃ (kq : Nat) (x131_78 : Bool), v131 = .bool x131_78 ∧ Aside0 (cairnref32_next.j4 kq a0 a1 (bt a0 a1) (wrap64 (a1 + 1)) x131_78 = some (r1, r2, r3, r4)) ∧ Aside0 (kq ≤ k) ∧ Aside0 (wc.heap[gb209]? = some (.cells #[.int .i64 0, .int .i64 0, .string (⟨#[]⟩ : ByteArray)] 74 (0, 0))) ∧ Aside0 (Below w.heap.size w wc))
      case first =>
       have H := HC79.out
       clear HC79
       by_cases c81 : (bt a0 a1) = 44
       ·
        rw [if_pos c81] at H
        have c81b0 : ((bt a0 a1) == 44) = true := beq_iff_eq.mpr c81
        have c81b1 : ((bt a0 a1) != 44) = false := bne_eq_false_iff_eq.mpr c81
        clear c81
        (first | rw [c81b0] | (simp only [i64_w, i32_w]; rw [c81b0]) | skip)
        have H' := Aside0.mk H
        clear H
        go_wp2
        go_meet
        case rel => exact ⟨_, (true), (by first | rfl | (simp; done) | (simp [*]; done)), H', ⟨by first | omega | exact Nat.le_refl _⟩, ⟨by (with_reducible repeat (first | refine blk_drewN ?_ _ | refine blk_drew ?_ | refine blk_alloc ?_ _)); exact BK209.out⟩, ⟨by repeat (first | (with_reducible first | exact HB.out | apply below_alloc | apply pw_below_drewN | apply below_drew1 | refine below_set ?_ GE209.out) | exact HB.out)⟩⟩
       ·
        rw [if_neg c81] at H
        have c81b0 : ((bt a0 a1) == 44) = false := beq_eq_false_iff_ne.mpr c81
        have c81b1 : ((bt a0 a1) != 44) = true := bne_iff_ne.mpr c81
        (first | rw [c81b0] | (simp only [i64_w, i32_w]; rw [c81b0]) | skip)
        by_cases c82 : (bt a0 a1) = 42
        ·
         rw [if_pos c82] at H
         have c82b0 : ((bt a0 a1) == 42) = true := beq_iff_eq.mpr c82
         have c82b1 : ((bt a0 a1) != 42) = false := bne_eq_false_iff_eq.mpr c82
         clear c82
         have H' := Aside0.mk H
         clear H
         go_wp2
         go_meet
         case rel => exact ⟨_, (true), (by first | rfl | (simp; done) | (simp [*]; done)), H', ⟨by first | omega | exact Nat.le_refl _⟩, ⟨by (with_reducible repeat (first | refine blk_drewN ?_ _ | refine blk_drew ?_ | refine blk_alloc ?_ _)); exact BK209.out⟩, ⟨by repeat (first | (with_reducible first | exact HB.out | apply below_alloc | apply pw_below_drewN | apply below_drew1 | refine below_set ?_ GE209.out) | exact HB.out)⟩⟩
        ·
         rw [if_neg c82] at H
         have c82b0 : ((bt a0 a1) == 42) = false := beq_eq_false_iff_ne.mpr c82
         have c82b1 : ((bt a0 a1) != 42) = true := bne_iff_ne.mpr c82
         have H' := Aside0.mk H
         clear H
         go_wp2
         go_meet
         case rel => exact ⟨_, (((bt a0 a1) == 61)), (by first | rfl | (simp; done) | (simp [*]; done)), H', ⟨by first | omega | exact Nat.le_refl _⟩, ⟨by (with_reducible repeat (first | refine blk_drewN ?_ _ | refine blk_drew ?_ | refine blk_alloc ?_ _)); exact BK209.out⟩, ⟨by repeat (first | (with_reducible first | exact HB.out | apply below_alloc | apply pw_below_drewN | apply below_drew1 | refine below_set ?_ GE209.out) | exact HB.out)⟩⟩
      case rest =>
       clear HC79
       try clear c3
       try clear c3b0
       try clear c4
       try clear c4b0
       try clear p5
       try clear q5
       try clear hx5
       try clear c7
       try clear c28
       try clear c43
       try clear c43b0
       try clear c43b1
       obtain ⟨kq, x131_78, rfl, HA, HJ78, BK209, HB⟩ := hcut
       cases kq with
       | zero => exact absurd HA.out (by simp [cairnref32_next.j4])
       | succ kj78 =>
        have H := HA.out
        clear HA
        simp only [cairnref32_next.j4] at H
        by_cases c83 : x131_78 = true
        ·
         subst c83
         have H1 : (if 0 ≤ a1 then (if a1 ≤ (wrap64 (a1 + 1)) then (if (wrap64 (a1 + 1)) ≤ (a0.size : Int) then (some (4, a1, a0.extract (a1 : Int).toNat ((wrap64 (a1 + 1)) : Int).toNat, (wrap64 (a1 + 1)))) else (none)) else (none)) else (none)) = some (r1, r2, r3, r4) := by rw [if_pos rfl] at H; exact H
         clear H
         have H := H1
         clear H1
         by_cases c84 : 0 ≤ a1
         ·
          rw [if_pos c84] at H
          have c84b0 := eq_true c84
          have c84b1 : decide (0 ≤ a1) = true := decide_eq_true c84
          clear c84
          by_cases c85 : a1 ≤ (wrap64 (a1 + 1))
          ·
           rw [if_pos c85] at H
           have c85b0 := eq_true c85
           have c85b1 : decide (a1 ≤ (wrap64 (a1 + 1))) = true := decide_eq_true c85
           by_cases c86 : (wrap64 (a1 + 1)) ≤ (a0.size : Int)
           ·
            rw [if_pos c86] at H
            have c86b0 := eq_true c86
            have c86b1 : decide ((wrap64 (a1 + 1)) ≤ (a0.size : Int)) = true := decide_eq_true c86
            simp only [Option.some.injEq, Prod.mk.injEq] at H
            obtain ⟨rfl, rfl, rfl, rfl⟩ := H
            have hcz87_0 : wc.cell? ⟨gb209, 0, none⟩ = some (.int .i64 0) := (blk_cell BK209.out 0).trans rfl
            have hcz87_1 : wc.cell? ⟨gb209, 1, none⟩ = some (.int .i64 0) := (blk_cell BK209.out 1).trans rfl
            have hcz87_2 : wc.cell? ⟨gb209, 2, none⟩ = some (.string (⟨#[]⟩ : ByteArray)) := (blk_cell BK209.out 2).trans rfl
            have hfz87_0 := blk_frozen BK209.out 0
            have hfz87_1 := blk_frozen BK209.out 1
            have hfz87_2 := blk_frozen BK209.out 2
            go_wp2
            refine bodyPost_ret (results_ct rfl _ _ gb209 74 #[.int .i64 4, .int .i64 a1, .string (a0.extract (a1 : Int).toNat ((wrap64 (a1 + 1)) : Int).toNat)] (0, 0) _ rfl (by (with_reducible repeat (first | refine blk_drewN ?_ _ | refine blk_drew ?_ | refine blk_alloc ?_ _)); refine blk_put (cs := #[.int .i64 4, .int .i64 a1, .string (⟨#[]⟩ : ByteArray)]) ?_ 2 _ rfl; (with_reducible repeat (first | refine blk_drewN ?_ _ | refine blk_drew ?_ | refine blk_alloc ?_ _)); refine blk_put (cs := #[.int .i64 4, .int .i64 0, .string (⟨#[]⟩ : ByteArray)]) ?_ 1 _ rfl; (with_reducible repeat (first | refine blk_drewN ?_ _ | refine blk_drew ?_ | refine blk_alloc ?_ _)); refine blk_put (cs := #[.int .i64 0, .int .i64 0, .string (⟨#[]⟩ : ByteArray)]) ?_ 0 _ rfl; (with_reducible repeat (first | refine blk_drewN ?_ _ | refine blk_drew ?_ | refine blk_alloc ?_ _)); exact BK209.out) Tryz.underlying74 rfl (by kernel_rfl)) rfl ?_
            exact ⟨by first | rfl | (simp [errW_none, errW_some] <;> rfl) | (simp [*, errW_none, errW_some] <;> rfl), by repeat (first | (with_reducible first | exact HB.out | apply below_alloc | apply pw_below_drewN | apply below_drew1 | refine below_set ?_ GE209.out) | exact HB.out)⟩
           ·
            rw [if_neg c86] at H
            exact absurd H (by simp)
          ·
           rw [if_neg c85] at H
           exact absurd H (by simp)
         ·
          rw [if_neg c84] at H
          exact absurd H (by simp)
        ·
         replace c83 := Bool.eq_false_iff.mpr c83
         subst c83
         have H1 : (if (bt a0 a1) = 60 then (cairnref32_next.j5 kj78 a0 a1 (bt a0 a1) (wrap64 (a1 + 1)) true) else (if (bt a0 a1) = 62 then (cairnref32_next.j5 kj78 a0 a1 (bt a0 a1) (wrap64 (a1 + 1)) true) else (cairnref32_next.j5 kj78 a0 a1 (bt a0 a1) (wrap64 (a1 + 1)) ((bt a0 a1) == 33)))) = some (r1, r2, r3, r4) := by rw [if_neg (show ¬ (false = true) by decide)] at H; exact H
         clear H
         have H := H1
         clear H1
         have HC88 := Aside0.mk H
         clear H
         go_upto_region 25 with (fail)
         go_cut [149] (fun v149 wc => ∃ (kq : Nat) (x149_87 : Bool), v149 = .bool x149_87 ∧ Aside0 (cairnref32_next.j5 kq a0 a1 (bt a0 a1) (wrap64 (a1 + 1)) x149_87 = some (r1, r2, r3, r4)) ∧ Aside0 (kq ≤ kj78) ∧ Aside0 (wc.heap[gb209]? = some (.cells #[.int .i64 0, .int .i64 0, .string (⟨#[]⟩ : ByteArray)] 74 (0, 0))) ∧ Aside0 (Below w.heap.size w wc))
         case first =>
          have H := HC88.out
          clear HC88
          by_cases c89 : (bt a0 a1) = 60
          ·
           rw [if_pos c89] at H
           have c89b0 : ((bt a0 a1) == 60) = true := beq_iff_eq.mpr c89
           have c89b1 : ((bt a0 a1) != 60) = false := bne_eq_false_iff_eq.mpr c89
           clear c89
           (first | rw [c89b0] | (simp only [i64_w, i32_w]; rw [c89b0]) | skip)
           have H' := Aside0.mk H
           clear H
           go_wp2
           go_meet
           case rel => exact ⟨_, (true), (by first | rfl | (simp; done) | (simp [*]; done)), H', ⟨by have := HJ78.out; first | omega | exact Nat.le_refl _⟩, ⟨by (with_reducible repeat (first | refine blk_drewN ?_ _ | refine blk_drew ?_ | refine blk_alloc ?_ _)); exact BK209.out⟩, ⟨by repeat (first | (with_reducible first | exact HB.out | apply below_alloc | apply pw_below_drewN | apply below_drew1 | refine below_set ?_ GE209.out) | exact HB.out)⟩⟩
          ·
           rw [if_neg c89] at H
           have c89b0 : ((bt a0 a1) == 60) = false := beq_eq_false_iff_ne.mpr c89
           have c89b1 : ((bt a0 a1) != 60) = true := bne_iff_ne.mpr c89
           (first | rw [c89b0] | (simp only [i64_w, i32_w]; rw [c89b0]) | skip)
           by_cases c90 : (bt a0 a1) = 62
           ·
            rw [if_pos c90] at H
            have c90b0 : ((bt a0 a1) == 62) = true := beq_iff_eq.mpr c90
            have c90b1 : ((bt a0 a1) != 62) = false := bne_eq_false_iff_eq.mpr c90
            clear c90
            have H' := Aside0.mk H
            clear H
            go_wp2
            go_meet
            case rel => exact ⟨_, (true), (by first | rfl | (simp; done) | (simp [*]; done)), H', ⟨by have := HJ78.out; first | omega | exact Nat.le_refl _⟩, ⟨by (with_reducible repeat (first | refine blk_drewN ?_ _ | refine blk_drew ?_ | refine blk_alloc ?_ _)); exact BK209.out⟩, ⟨by repeat (first | (with_reducible first | exact HB.out | apply below_alloc | apply pw_below_drewN | apply below_drew1 | refine below_set ?_ GE209.out) | exact HB.out)⟩⟩
           ·
            rw [if_neg c90] at H
            have c90b0 : ((bt a0 a1) == 62) = false := beq_eq_false_iff_ne.mpr c90
            have c90b1 : ((bt a0 a1) != 62) = true := bne_iff_ne.mpr c90
            have H' := Aside0.mk H
            clear H
            go_wp2
            go_meet
            case rel => exact ⟨_, (((bt a0 a1) == 33)), (by first | rfl | (simp; done) | (simp [*]; done)), H', ⟨by have := HJ78.out; first | omega | exact Nat.le_refl _⟩, ⟨by (with_reducible repeat (first | refine blk_drewN ?_ _ | refine blk_drew ?_ | refine blk_alloc ?_ _)); exact BK209.out⟩, ⟨by repeat (first | (with_reducible first | exact HB.out | apply below_alloc | apply pw_below_drewN | apply below_drew1 | refine below_set ?_ GE209.out) | exact HB.out)⟩⟩
         case rest =>
          clear HC88
          try clear c83
          obtain ⟨kq, x149_87, rfl, HA, HJ87, BK209, HB⟩ := hcut
          cases kq with
          | zero => exact absurd HA.out (by simp [cairnref32_next.j5])
          | succ kj87 =>
           have H := HA.out
           clear HA
           simp only [cairnref32_next.j5] at H
           by_cases c91 : x149_87 = true
           ·
            subst c91
            have H1 : (if (wrap64 (a1 + 1)) < (a0.size : Int) then (if 0 ≤ (wrap64 (a1 + 1)) then (cairnref32_next.j6 kj87 a0 a1 (bt a0 a1) (wrap64 (a1 + 1)) ((bt a0 (wrap64 (a1 + 1))) == 61)) else (none)) else (cairnref32_next.j6 kj87 a0 a1 (bt a0 a1) (wrap64 (a1 + 1)) false)) = some (r1, r2, r3, r4) := by rw [if_pos rfl] at H; exact H
            clear H
            have H := H1
            clear H1
            have HC92 := Aside0.mk H
            clear H
            go_upto_region 26 with (fail)
            go_cut [169] (fun v169 wc => ∃ (kq : Nat) (x169_91 : Bool), v169 = .bool x169_91 ∧ Aside0 (cairnref32_next.j6 kq a0 a1 (bt a0 a1) (wrap64 (a1 + 1)) x169_91 = some (r1, r2, r3, r4)) ∧ Aside0 (kq ≤ kj87) ∧ Aside0 (wc.heap[gb209]? = some (.cells #[.int .i64 0, .int .i64 0, .string (⟨#[]⟩ : ByteArray)] 74 (0, 0))) ∧ Aside0 (Below w.heap.size w wc))
            case first =>
             have H := HC92.out
             clear HC92
             by_cases c93 : (wrap64 (a1 + 1)) < (a0.size : Int)
             ·
              rw [if_pos c93] at H
              have c93b0 : decide ((wrap64 (a1 + 1)) < (a0.size : Int)) = true := decide_eq_true c93
              clear c93
              (first | rw [c93b0] | (simp only [i64_w, i32_w]; rw [c93b0]) | skip)
              obtain ⟨ji94, hji94⟩ : ∃ j_ : Int, (wrap64 (a1 + 1)) = j_ := ⟨_, rfl⟩
              replace H : (if 0 ≤ (ji94) then (cairnref32_next.j6 kj87 a0 a1 (bt a0 a1) (ji94) ((bt a0 (ji94)) == 61)) else (none)) = some (r1, r2, r3, r4) := by first | (rw [hji94] at H; exact H) | (simp only [hji94] at H ⊢; exact H)
              (try rw [hji94] at c93b0)
              have hji94w : (IntKind.i64.wrap (a1 + 1)) = ji94 := (i64_w _).trans hji94
              by_cases c95 : 0 ≤ (ji94)
              ·
               rw [if_pos c95] at H
               have c95b0 : decide (0 ≤ (ji94)) = true := decide_eq_true c95
               clear c95
               have H' := Aside0.mk H
               clear H
               have p96 : 0 ≤ ((ji94) : Int) := of_decide_eq_true (by first | (with_reducible assumption) | assumption)
               have q96 : (ji94) < (a0.size : Int) := of_decide_eq_true (by first | (with_reducible assumption) | assumption)
               have hx96 := bt_at a0 (ji94)
               replace p96 := eq_true p96
               replace q96 := eq_true q96
               go_wp2
               go_meet
               case rel => exact ⟨_, (((bt a0 (ji94)) == 61)), (by first | rfl | (simp; done) | (simp only [← hji94] <;> (first | rfl | simp)) | (simp [*]; done)), (by first | exact H' | (rw [hji94]; exact H') | (rw [← hji94]; exact H') | (have hq := H'; rw [hji94] at hq; exact hq) | (have hq := H'; rw [← hji94] at hq; exact hq)), ⟨by have := HJ78.out; have := HJ87.out; first | omega | exact Nat.le_refl _⟩, ⟨by (with_reducible repeat (first | refine blk_drewN ?_ _ | refine blk_drew ?_ | refine blk_alloc ?_ _)); exact BK209.out⟩, ⟨by repeat (first | (with_reducible first | exact HB.out | apply below_alloc | apply pw_below_drewN | apply below_drew1 | refine below_set ?_ GE209.out) | exact HB.out)⟩⟩
              ·
               rw [if_neg c95] at H
               exact absurd H (by simp)
             ·
              rw [if_neg c93] at H
              have c93b0 : decide ((wrap64 (a1 + 1)) < (a0.size : Int)) = false := decide_eq_false c93
              clear c93
              (first | rw [c93b0] | (simp only [i64_w, i32_w]; rw [c93b0]) | skip)
              have H' := Aside0.mk H
              clear H
              go_wp2
              go_meet
              case rel => exact ⟨_, (false), (by first | rfl | (simp; done) | (simp [*]; done)), H', ⟨by have := HJ78.out; have := HJ87.out; first | omega | exact Nat.le_refl _⟩, ⟨by (with_reducible repeat (first | refine blk_drewN ?_ _ | refine blk_drew ?_ | refine blk_alloc ?_ _)); exact BK209.out⟩, ⟨by repeat (first | (with_reducible first | exact HB.out | apply below_alloc | apply pw_below_drewN | apply below_drew1 | refine below_set ?_ GE209.out) | exact HB.out)⟩⟩
            case rest =>
             clear HC92
             try clear c91
             obtain ⟨kq, x169_91, rfl, HA, HJ91, BK209, HB⟩ := hcut
             cases kq with
             | zero => exact absurd HA.out (by simp [cairnref32_next.j6])
             | succ kj91 =>
              have H := HA.out
              clear HA
              simp only [cairnref32_next.j6] at H
              by_cases c97 : x169_91 = true
              ·
               subst c97
               have H1 : (if 0 ≤ a1 then (if a1 ≤ (wrap64 ((wrap64 (a1 + 1)) + 1)) then (if (wrap64 ((wrap64 (a1 + 1)) + 1)) ≤ (a0.size : Int) then (some (4, a1, a0.extract (a1 : Int).toNat ((wrap64 ((wrap64 (a1 + 1)) + 1)) : Int).toNat, wrap64 ((wrap64 (a1 + 1)) + 1))) else (none)) else (none)) else (none)) = some (r1, r2, r3, r4) := by rw [if_pos rfl] at H; exact H
               clear H
               have H := H1
               clear H1
               by_cases c98 : 0 ≤ a1
               ·
                rw [if_pos c98] at H
                have c98b0 := eq_true c98
                have c98b1 : decide (0 ≤ a1) = true := decide_eq_true c98
                clear c98
                by_cases c99 : a1 ≤ (wrap64 ((wrap64 (a1 + 1)) + 1))
                ·
                 rw [if_pos c99] at H
                 have c99b0 := eq_true c99
                 have c99b1 : decide (a1 ≤ (wrap64 ((wrap64 (a1 + 1)) + 1))) = true := decide_eq_true c99
                 by_cases c100 : (wrap64 ((wrap64 (a1 + 1)) + 1)) ≤ (a0.size : Int)
                 ·
                  rw [if_pos c100] at H
                  have c100b0 := eq_true c100
                  have c100b1 : decide ((wrap64 ((wrap64 (a1 + 1)) + 1)) ≤ (a0.size : Int)) = true := decide_eq_true c100
                  simp only [Option.some.injEq, Prod.mk.injEq] at H
                  obtain ⟨rfl, rfl, rfl, rfl⟩ := H
                  have hcz101_0 : wc.cell? ⟨gb209, 0, none⟩ = some (.int .i64 0) := (blk_cell BK209.out 0).trans rfl
                  have hcz101_1 : wc.cell? ⟨gb209, 1, none⟩ = some (.int .i64 0) := (blk_cell BK209.out 1).trans rfl
                  have hcz101_2 : wc.cell? ⟨gb209, 2, none⟩ = some (.string (⟨#[]⟩ : ByteArray)) := (blk_cell BK209.out 2).trans rfl
                  have hfz101_0 := blk_frozen BK209.out 0
                  have hfz101_1 := blk_frozen BK209.out 1
                  have hfz101_2 := blk_frozen BK209.out 2
                  go_wp2
                  refine bodyPost_ret (results_ct rfl _ _ gb209 74 #[.int .i64 4, .int .i64 a1, .string (a0.extract (a1 : Int).toNat ((wrap64 ((wrap64 (a1 + 1)) + 1)) : Int).toNat)] (0, 0) _ rfl (by (with_reducible repeat (first | refine blk_drewN ?_ _ | refine blk_drew ?_ | refine blk_alloc ?_ _)); refine blk_put (cs := #[.int .i64 4, .int .i64 a1, .string (⟨#[]⟩ : ByteArray)]) ?_ 2 _ rfl; (with_reducible repeat (first | refine blk_drewN ?_ _ | refine blk_drew ?_ | refine blk_alloc ?_ _)); refine blk_put (cs := #[.int .i64 4, .int .i64 0, .string (⟨#[]⟩ : ByteArray)]) ?_ 1 _ rfl; (with_reducible repeat (first | refine blk_drewN ?_ _ | refine blk_drew ?_ | refine blk_alloc ?_ _)); refine blk_put (cs := #[.int .i64 0, .int .i64 0, .string (⟨#[]⟩ : ByteArray)]) ?_ 0 _ rfl; (with_reducible repeat (first | refine blk_drewN ?_ _ | refine blk_drew ?_ | refine blk_alloc ?_ _)); exact BK209.out) Tryz.underlying74 rfl (by kernel_rfl)) rfl ?_
                  exact ⟨by first | rfl | (simp [errW_none, errW_some] <;> rfl) | (simp [*, errW_none, errW_some] <;> rfl), by repeat (first | (with_reducible first | exact HB.out | apply below_alloc | apply pw_below_drewN | apply below_drew1 | refine below_set ?_ GE209.out) | exact HB.out)⟩
                 ·
                  rw [if_neg c100] at H
                  exact absurd H (by simp)
                ·
                 rw [if_neg c99] at H
                 exact absurd H (by simp)
               ·
                rw [if_neg c98] at H
                exact absurd H (by simp)
              ·
               replace c97 := Bool.eq_false_iff.mpr c97
               subst c97
               have H1 : (if (bt a0 a1) = 33 then (some (6, a1, (⟨#[]⟩ : ByteArray), (a0.size : Int))) else (if 0 ≤ a1 then (if a1 ≤ (wrap64 (a1 + 1)) then (if (wrap64 (a1 + 1)) ≤ (a0.size : Int) then (some (4, a1, a0.extract (a1 : Int).toNat ((wrap64 (a1 + 1)) : Int).toNat, (wrap64 (a1 + 1)))) else (none)) else (none)) else (none))) = some (r1, r2, r3, r4) := by rw [if_neg (show ¬ (false = true) by decide)] at H; exact H
               clear H
               have H := H1
               clear H1
               by_cases c102 : (bt a0 a1) = 33
               ·
                rw [if_pos c102] at H
                have c102b0 : ((bt a0 a1) == 33) = true := beq_iff_eq.mpr c102
                have c102b1 : ((bt a0 a1) != 33) = false := bne_eq_false_iff_eq.mpr c102
                clear c102
                simp only [Option.some.injEq, Prod.mk.injEq] at H
                obtain ⟨rfl, rfl, rfl, rfl⟩ := H
                have hcz103_0 : wc.cell? ⟨gb209, 0, none⟩ = some (.int .i64 0) := (blk_cell BK209.out 0).trans rfl
                have hcz103_1 : wc.cell? ⟨gb209, 1, none⟩ = some (.int .i64 0) := (blk_cell BK209.out 1).trans rfl
                have hcz103_2 : wc.cell? ⟨gb209, 2, none⟩ = some (.string (⟨#[]⟩ : ByteArray)) := (blk_cell BK209.out 2).trans rfl
                have hfz103_0 := blk_frozen BK209.out 0
                have hfz103_1 := blk_frozen BK209.out 1
                have hfz103_2 := blk_frozen BK209.out 2
                go_wp2
                refine bodyPost_ret (results_ct rfl _ _ gb209 74 #[.int .i64 6, .int .i64 a1, .string (⟨#[]⟩ : ByteArray)] (0, 0) _ rfl (by (with_reducible repeat (first | refine blk_drewN ?_ _ | refine blk_drew ?_ | refine blk_alloc ?_ _)); refine blk_put (cs := #[.int .i64 6, .int .i64 a1, .string (⟨#[]⟩ : ByteArray)]) ?_ 2 _ rfl; (with_reducible repeat (first | refine blk_drewN ?_ _ | refine blk_drew ?_ | refine blk_alloc ?_ _)); refine blk_put (cs := #[.int .i64 6, .int .i64 0, .string (⟨#[]⟩ : ByteArray)]) ?_ 1 _ rfl; (with_reducible repeat (first | refine blk_drewN ?_ _ | refine blk_drew ?_ | refine blk_alloc ?_ _)); refine blk_put (cs := #[.int .i64 0, .int .i64 0, .string (⟨#[]⟩ : ByteArray)]) ?_ 0 _ rfl; (with_reducible repeat (first | refine blk_drewN ?_ _ | refine blk_drew ?_ | refine blk_alloc ?_ _)); exact BK209.out) Tryz.underlying74 rfl (by kernel_rfl)) rfl ?_
                exact ⟨by first | rfl | (simp [errW_none, errW_some] <;> rfl) | (simp [*, errW_none, errW_some] <;> rfl), by repeat (first | (with_reducible first | exact HB.out | apply below_alloc | apply pw_below_drewN | apply below_drew1 | refine below_set ?_ GE209.out) | exact HB.out)⟩
               ·
                rw [if_neg c102] at H
                have c102b0 : ((bt a0 a1) == 33) = false := beq_eq_false_iff_ne.mpr c102
                have c102b1 : ((bt a0 a1) != 33) = true := bne_iff_ne.mpr c102
                by_cases c104 : 0 ≤ a1
                ·
                 rw [if_pos c104] at H
                 have c104b0 := eq_true c104
                 have c104b1 : decide (0 ≤ a1) = true := decide_eq_true c104
                 clear c104
                 by_cases c105 : a1 ≤ (wrap64 (a1 + 1))
                 ·
                  rw [if_pos c105] at H
                  have c105b0 := eq_true c105
                  have c105b1 : decide (a1 ≤ (wrap64 (a1 + 1))) = true := decide_eq_true c105
                  by_cases c106 : (wrap64 (a1 + 1)) ≤ (a0.size : Int)
                  ·
                   rw [if_pos c106] at H
                   have c106b0 := eq_true c106
                   have c106b1 : decide ((wrap64 (a1 + 1)) ≤ (a0.size : Int)) = true := decide_eq_true c106
                   simp only [Option.some.injEq, Prod.mk.injEq] at H
                   obtain ⟨rfl, rfl, rfl, rfl⟩ := H
                   have hcz107_0 : wc.cell? ⟨gb209, 0, none⟩ = some (.int .i64 0) := (blk_cell BK209.out 0).trans rfl
                   have hcz107_1 : wc.cell? ⟨gb209, 1, none⟩ = some (.int .i64 0) := (blk_cell BK209.out 1).trans rfl
                   have hcz107_2 : wc.cell? ⟨gb209, 2, none⟩ = some (.string (⟨#[]⟩ : ByteArray)) := (blk_cell BK209.out 2).trans rfl
                   have hfz107_0 := blk_frozen BK209.out 0
                   have hfz107_1 := blk_frozen BK209.out 1
                   have hfz107_2 := blk_frozen BK209.out 2
                   go_wp2
                   refine bodyPost_ret (results_ct rfl _ _ gb209 74 #[.int .i64 4, .int .i64 a1, .string (a0.extract (a1 : Int).toNat ((wrap64 (a1 + 1)) : Int).toNat)] (0, 0) _ rfl (by (with_reducible repeat (first | refine blk_drewN ?_ _ | refine blk_drew ?_ | refine blk_alloc ?_ _)); refine blk_put (cs := #[.int .i64 4, .int .i64 a1, .string (⟨#[]⟩ : ByteArray)]) ?_ 2 _ rfl; (with_reducible repeat (first | refine blk_drewN ?_ _ | refine blk_drew ?_ | refine blk_alloc ?_ _)); refine blk_put (cs := #[.int .i64 4, .int .i64 0, .string (⟨#[]⟩ : ByteArray)]) ?_ 1 _ rfl; (with_reducible repeat (first | refine blk_drewN ?_ _ | refine blk_drew ?_ | refine blk_alloc ?_ _)); refine blk_put (cs := #[.int .i64 0, .int .i64 0, .string (⟨#[]⟩ : ByteArray)]) ?_ 0 _ rfl; (with_reducible repeat (first | refine blk_drewN ?_ _ | refine blk_drew ?_ | refine blk_alloc ?_ _)); exact BK209.out) Tryz.underlying74 rfl (by kernel_rfl)) rfl ?_
                   exact ⟨by first | rfl | (simp [errW_none, errW_some] <;> rfl) | (simp [*, errW_none, errW_some] <;> rfl), by repeat (first | (with_reducible first | exact HB.out | apply below_alloc | apply pw_below_drewN | apply below_drew1 | refine below_set ?_ GE209.out) | exact HB.out)⟩
                  ·
                   rw [if_neg c106] at H
                   exact absurd H (by simp)
                 ·
                  rw [if_neg c105] at H
                  exact absurd H (by simp)
                ·
                 rw [if_neg c104] at H
                 exact absurd H (by simp)
           ·
            replace c91 := Bool.eq_false_iff.mpr c91
            subst c91
            have H1 : (some (6, a1, (⟨#[]⟩ : ByteArray), (a0.size : Int))) = some (r1, r2, r3, r4) := by rw [if_neg (show ¬ (false = true) by decide)] at H; exact H
            clear H
            have H := H1
            clear H1
            simp only [Option.some.injEq, Prod.mk.injEq] at H
            obtain ⟨rfl, rfl, rfl, rfl⟩ := H
            have hcz108_0 : wc.cell? ⟨gb209, 0, none⟩ = some (.int .i64 0) := (blk_cell BK209.out 0).trans rfl
            have hcz108_1 : wc.cell? ⟨gb209, 1, none⟩ = some (.int .i64 0) := (blk_cell BK209.out 1).trans rfl
            have hcz108_2 : wc.cell? ⟨gb209, 2, none⟩ = some (.string (⟨#[]⟩ : ByteArray)) := (blk_cell BK209.out 2).trans rfl
            have hfz108_0 := blk_frozen BK209.out 0
            have hfz108_1 := blk_frozen BK209.out 1
            have hfz108_2 := blk_frozen BK209.out 2
            go_wp2
            refine bodyPost_ret (results_ct rfl _ _ gb209 74 #[.int .i64 6, .int .i64 a1, .string (⟨#[]⟩ : ByteArray)] (0, 0) _ rfl (by (with_reducible repeat (first | refine blk_drewN ?_ _ | refine blk_drew ?_ | refine blk_alloc ?_ _)); refine blk_put (cs := #[.int .i64 6, .int .i64 a1, .string (⟨#[]⟩ : ByteArray)]) ?_ 2 _ rfl; (with_reducible repeat (first | refine blk_drewN ?_ _ | refine blk_drew ?_ | refine blk_alloc ?_ _)); refine blk_put (cs := #[.int .i64 6, .int .i64 0, .string (⟨#[]⟩ : ByteArray)]) ?_ 1 _ rfl; (with_reducible repeat (first | refine blk_drewN ?_ _ | refine blk_drew ?_ | refine blk_alloc ?_ _)); refine blk_put (cs := #[.int .i64 0, .int .i64 0, .string (⟨#[]⟩ : ByteArray)]) ?_ 0 _ rfl; (with_reducible repeat (first | refine blk_drewN ?_ _ | refine blk_drew ?_ | refine blk_alloc ?_ _)); exact BK209.out) Tryz.underlying74 rfl (by kernel_rfl)) rfl ?_
            exact ⟨by first | rfl | (simp [errW_none, errW_some] <;> rfl) | (simp [*, errW_none, errW_some] <;> rfl), by repeat (first | (with_reducible first | exact HB.out | apply below_alloc | apply pw_below_drewN | apply below_drew1 | refine below_set ?_ GE209.out) | exact HB.out)⟩
  ·
   rw [if_neg c4] at H
   exact absurd H (by simp)
 ·
  rw [if_neg c3] at H
  exact absurd H (by simp)
end Go.Proofs.YthhemephaabblaaGreatDoor.Q
