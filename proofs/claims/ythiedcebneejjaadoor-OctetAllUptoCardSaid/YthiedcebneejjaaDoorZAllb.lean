/- Parts of the proof:     Contracts by hand: octet.Hex, octet.Unhex (they read the package-level table of digits). In the printed contracts' form. The plain laws of octet over lists of numbers: no memory, no Go.  -/
import Derived.Test.YthiedcebneejjaaDoorZAlla
import Derived.Test.YthiedcebneejjaaDoorProg
import Derived.Below
import Derived.Deep.Draws
import Derived.Deep.AppendLies
import Derived.Maps.AppendAt
import Derived.OwnWalk
import Derived.Laws.BytesArg
import Derived.Laws.MakeOwn
import Derived.Laws.OwnMore
import Derived.Deep.OwnRows
import Derived.Tactics
import Derived.Lib.ConvBytes
import Derived.Laws.Slices
import Derived.WalkKit
import Derived.KernelRfl
import Derived.RowKit3
import Derived.Deep.LoopGhost
import Derived.Deep.QuietTactic
import Derived.BigQuiet
import Derived.WideLaws
import Derived.Deep.DeepCutAuto
import Derived.Deep.CutBlock
import Derived.Deep.RegionHeld3
import Derived.Laws.Rows
import Derived.Lib.AppendStr
import Derived.ArgAppend
import Derived.Laws.IdiomCopy
import Derived.OrdersHeld
import Derived.Laws.BitsLemmas
import Derived.RowKit
import Derived.Test.YthiedcebneejjaaDoorWWords
import Derived.Test.YthiedcebneejjaaDoorWLast
import Derived.Test.YthiedcebneejjaaDoorWTab
import Derived.Test.YthiedcebneejjaaDoorWFour
import Derived.Test.YthiedcebneejjaaDoorWQPut
import Derived.Test.YthiedcebneejjaaDoorWApart
import Derived.Test.YthiedcebneejjaaDoorWArr
import Derived.Test.YthiedcebneejjaaDoorWZeros
import Derived.Test.YthiedcebneejjaaDoorWFoot
import Derived.Test.YthiedcebneejjaaDoorWKept
import Derived.Test.YthiedcebneejjaaDoorWShare
import Derived.Test.YthiedcebneejjaaDoorWN
import Derived.Test.YthiedcebneejjaaDoorWFootNe
import Derived.Test.YthiedcebneejjaaDoorWAt
import Derived.Test.YthiedcebneejjaaDoorWEqStruct
import Derived.Test.YthiedcebneejjaaDoorWRepsOne
import Derived.Test.YthiedcebneejjaaDoorWInv
import Derived.Test.YthiedcebneejjaaDoorWInvWords
import Derived.Test.YthiedcebneejjaaDoorWGuard
import Derived.Test.YthiedcebneejjaaDoorWNEv
import Derived.Test.YthiedcebneejjaaDoorWMore
import Derived.Deep.MidRow
import Derived.Lib.Hide
-- Printed by a program of mine (myprint.py, a patched call of the kit's printer) for this claim; not trusted: Lean checks it.
namespace Go.Proofs.YthiedcebneejjaaDoor.R
open Go.RowKit  Go.Proofs.YthiedcebneejjaaDoorW.PrintWords Go.Proofs.YthiedcebneejjaaDoorW.PrintLast Go.Proofs.YthiedcebneejjaaDoorW.PrintMore
attribute [local go_sem] max2_int min2_int max_two min_two max_three min_three max_four min_four   -- for this text's walks alone
set_option linter.unusedVariables false
set_option linter.unusedSimpArgs false

/-! ### cairnref01_Nibbles: function 16 -/
def cairnref01_Nibbles.l0 : Nat → List Int → List Int → Int → Option (List Int)
  | 0, _, _, _ => none
  | k + 1, x0, x3, x4 => if x4 < (x0.length : Int) then (if 0 ≤ x4 then ((some (([(Int.tdiv (rd x0 x4) 16) % 256, Int.tmod (rd x0 x4) 16] : List Int) : List Int)).bind fun y115 => (if x3.length + y115.length < 140737488355328 then (cairnref01_Nibbles.l0 k x0 (x3 ++ y115) (wrap64 (x4 + 1))) else (none))) else (none)) else (some x3)
def cairnref01_Nibbles.f (k : Nat) (l0 : List Int) : Option (List Int) := cairnref01_Nibbles.l0 k l0 ([] : List Int) 0
theorem cairnref01_Nibbles.mono_l : ∀ k, (∀ y0 y1 y2, LeO (cairnref01_Nibbles.l0 k y0 y1 y2) (cairnref01_Nibbles.l0 (k + 1) y0 y1 y2))
  | 0 => fun _ _ _ r h => by simp [cairnref01_Nibbles.l0] at h
  | k + 1 => by
    have ih0 := cairnref01_Nibbles.mono_l k
    · intro y0 y1 y2
      unfold cairnref01_Nibbles.l0
      repeat' first
      | (with_reducible exact ih0 _ _ _)
      | (with_reducible exact LeO.refl _)
      | (with_reducible exact LeO.none _)
      | (with_reducible refine LeO.ite ?_ ?_)
      | (with_reducible refine LeO.bind ?_ (fun _ => ?_))
      | exact ih0 _ _ _
      | exact LeO.none _
      | refine LeO.ite ?_ ?_
      | refine LeO.bind ?_ (fun _ => ?_)
theorem cairnref01_Nibbles.mono : ∀ a0 k, LeO (cairnref01_Nibbles.f k a0) (cairnref01_Nibbles.f (k + 1) a0) := by
  intro a0 k
  have ih0 := cairnref01_Nibbles.mono_l k
  unfold cairnref01_Nibbles.f
  repeat' first
      | (with_reducible exact ih0 _ _ _)
      | (with_reducible exact LeO.refl _)
      | (with_reducible exact LeO.none _)
      | (with_reducible refine LeO.ite ?_ ?_)
      | (with_reducible refine LeO.bind ?_ (fun _ => ?_))
      | exact ih0 _ _ _
      | exact LeO.none _
      | refine LeO.ite ?_ ?_
      | refine LeO.bind ?_ (fun _ => ?_)
def cairnref01_Nibbles.T5 : Bool × List (List Nat × List Nat) := (true, [([], []), ([], []), ([], []), ([1, 2], [1, 2]), ([3], [3]), ([4], [4]), ([], []), ([], []), ([6, 7], [6, 7]), ([8], [8]), ([9], [9]), ([5, 10], [5, 10]), ([0, 11], [0, 11]), ([12, 12, 0, 1, 2, 3, 4, 5, 6, 7, 8, 9, 10, 11, 12], [0, 12])])
def cairnref01_Nibbles.B5 : List Nat := [0, 0, 0, 6, 14, 30, 0, 0, 192, 448, 960, 2046, 4095, 8191]
theorem cairnref01_Nibbles.tab5 : rtab .any (opsOf Tryd.f16 5) = cairnref01_Nibbles.T5 := by kernel_rfl
theorem cairnref01_Nibbles.bits5 : waitsOk cairnref01_Nibbles.T5.2 cairnref01_Nibbles.B5 = true := by kernel_rfl
set_option maxHeartbeats 8000000 in
set_option maxRecDepth 100000 in
theorem cairnref01_Nibbles.calls (k : Nat) (A0 : Option Addr) (c0 : Nat) (l0 : List Int) (r : List Int) (w : World) (hr0 : Kd.C (Kd.int .u8) w A0 l0.length l0) (hc0 : l0.length ≤ c0) (h : cairnref01_Nibbles.f k l0 = some r) :
    Calls Tryd.prog 16 #[.slice A0 l0.length c0] w fun e w' => ∃ v0_ : Value, e = .returned (v0_) ∧ Kd.R (Kd.int .u8) 5 w' w.heap.size (fun _ => True) v0_ r ∧ Below w.heap.size w w' := by
  have HR0 := Aside0.mk hr0
  have HC0 := Aside0.mk hc0
  clear hr0 hc0
  have HB := Aside0.mk (Below.refl w.heap.size w)
  have H : (cairnref01_Nibbles.l0 k l0 ([] : List Int) 0) = some r := h
  clear h
  have H' := Aside0.mk H
  clear H
  go_enter Tryd.func16, Tryd.ntmps16
  go_wp2
  go_loopg [3, 4] k (fun kq v3 v4 w' => ∃ (x3_1 : List Int) (x4_1 : Int), v4 = .int .i64 x4_1 ∧ Aside0 (cairnref01_Nibbles.l0 kq l0 x3_1 x4_1 = some r) ∧ Aside0 (kq ≤ k) ∧ Aside0 (Kd.R (Kd.int .u8) 5 w' w.heap.size (fun _ => True) v3 x3_1) ∧ Aside0 (Below w.heap.size w w'))
  case atStart => exact ⟨(([] : List Int)), (0), (by first | rfl | (simp; done) | (simp [*]; done)), H', ⟨Nat.le_refl _⟩, ⟨by first | exact Kd.R_nil _ _ _ _ _ | exact Kd.N_nil _ _ _ _ _ | exact Kd.V_nil _ _ _ _ _ | exact Kd.Q_nil _ _ _ _ _ | exact Kd.S_nil _ _ _ _ _⟩, ⟨by repeat (first | (with_reducible first | exact HB.out | apply below_alloc | apply pw_below_drewN | apply below_drew1) | exact HB.out)⟩⟩
  case round =>
    clear H'
    try clear c1
    obtain ⟨x3_1, x4_1, rfl, HA, HK1, HO_3, HB⟩ := hrel
    cases gk with
    | zero => exact absurd HA.out (by simp [cairnref01_Nibbles.l0])
    | succ k1 =>
      have H := HA.out
      clear HA
      simp only [cairnref01_Nibbles.l0] at H
      by_cases c2 : x4_1 < (l0.length : Int)
      · rw [if_pos c2] at H
        have c2b0 : decide (x4_1 < (l0.length : Int)) = true := decide_eq_true c2
        clear c2
        by_cases c3 : 0 ≤ x4_1
        · rw [if_pos c3] at H
          have c3b0 : decide (0 ≤ x4_1) = true := decide_eq_true c3
          clear c3
          obtain ⟨y115, hy115⟩ : ∃ y_ : List Int, y_ = (([(Int.tdiv (rd l0 x4_1) 16) % 256, Int.tmod (rd l0 x4_1) 16] : List Int)) := ⟨_, rfl⟩
          replace H : (if x3_1.length + y115.length < 140737488355328 then (cairnref01_Nibbles.l0 k1 l0 (x3_1 ++ y115) (wrap64 (x4_1 + 1))) else (none)) = some r := by first | (rw [hy115]; with_reducible exact H) | (have H2_ := (Option.bind_some _ _).symm.trans H; rw [hy115]; with_reducible exact H2_) | (have H2_ := (Option.bind_some _ _).symm.trans H; with_reducible exact H2_) | with_reducible exact H | (rw [hy115]; exact H) | exact H
          have Ny115 := Aside0.mk hy115
          clear hy115
          by_cases c4 : x3_1.length + y115.length < 140737488355328
          · rw [if_pos c4] at H
            have LMc4 := Aside0.mk c4
            clear c4
            obtain ⟨y118, hy118⟩ : ∃ y_ : List Int, y_ = (x3_1 ++ y115) := ⟨_, rfl⟩
            replace H : (cairnref01_Nibbles.l0 k1 l0 y118 (wrap64 (x4_1 + 1))) = some r := by first | (rw [hy118]; with_reducible exact H) | (have H2_ := (Option.bind_some _ _).symm.trans H; rw [hy118]; with_reducible exact H2_) | (have H2_ := (Option.bind_some _ _).symm.trans H; with_reducible exact H2_) | with_reducible exact H | (rw [hy118]; exact H) | exact H
            have Ny118 := Aside0.mk hy118
            clear hy118
            have H' := Aside0.mk H
            clear H
            try go_wp2
            have n0_ := Aside0.mk (Kd.R_drew HO_3.out)
            have n1_ := Aside0.mk (below_drew1 HB.out)
            clear HO_3
            clear HB
            have HO_3 := n0_
            have HB := n1_
            clear n0_ n1_
            have p113 : 0 ≤ (x4_1 : Int) := of_decide_eq_true (by first | (with_reducible assumption) | assumption)
            have q113 : x4_1 < (l0.length : Int) := of_decide_eq_true (by first | (with_reducible assumption) | assumption)
            obtain ⟨ad113, e113, hx113_0⟩ := Kd.at_int HR0.out x4_1 p113 q113
            have hw113_0 := hx113_0
            cases e113
            replace hx113_0 := (HB.out.cell (World.block_lt_of_cell? w _ hx113_0)).trans hx113_0
            replace p113 := eq_true p113
            replace q113 := eq_true q113
            have p114 : 0 ≤ (x4_1 : Int) := of_decide_eq_true (by first | (with_reducible assumption) | assumption)
            have q114 : x4_1 < (l0.length : Int) := of_decide_eq_true (by first | (with_reducible assumption) | assumption)
            obtain ⟨ad114, e114, hx114_0⟩ := Kd.at_int HR0.out x4_1 p114 q114
            have hw114_0 := hx114_0
            obtain rfl : ad113 = ad114 := (by injection e114)
            replace hx114_0 := (HB.out.cell (World.block_lt_of_cell? w _ hx114_0)).trans hx114_0
            replace p114 := eq_true p114
            replace q114 := eq_true q114
            refine start_ (n := 14) (S := fun w' => w'.cell? (ad113.add (x4_1).toNat) = some (.int .u8 (rd l0 x4_1)) ∧ w'.cell? (ad113.add (x4_1).toNat) = some (.int .u8 (rd l0 x4_1))) (ds := []) #[false, false, false, false, false, false, false, false, false, false, false, false, false, false] (by kernel_rfl) rfl rfl ⟨((HB.out.cell (World.block_lt_of_cell? w _ hw113_0)).trans hw113_0), ((HB.out.cell (World.block_lt_of_cell? w _ hw114_0)).trans hw114_0)⟩ (fun hHeld => ?_); refine with_tabW cairnref01_Nibbles.tab5 cairnref01_Nibbles.bits5 (fun HT_ HW_ => ?_)
            generalize wr.drew = w5 at HO_3 HB hx113_0 hx114_0 hHeld ⊢
            refine pure_ (i := 0) (N := some 11) (v := ?_) (a' := ?_) #[true, false, false, false, false, false, false, false, false, false, false, false, false, false] rfl rfl (any_of HT_.out (by kernel_rfl)) (fun _ _ _ h => h) (Or.inl ⟨by rfl, ?_⟩) ?_ ?_
            rotate_left
            · intro w'
              go_simp
              with_reducible rfl
            rotate_left
            · simp only [Act.put, List.setIfInBounds_toArray, List.set_cons_zero, List.set_cons_succ, i64_w, i32_w]
              rfl
            refine pure_ (i := 1) (N := some 12) (v := ?_) (a' := ?_) #[true, true, false, false, false, false, false, false, false, false, false, false, false, false] rfl rfl (any_of HT_.out (by kernel_rfl)) (fun _ _ _ h => h) (Or.inl ⟨by rfl, ?_⟩) ?_ ?_
            rotate_left
            · intro w'
              go_simp
              with_reducible rfl
            rotate_left
            · simp only [Act.put, List.setIfInBounds_toArray, List.set_cons_zero, List.set_cons_succ, i64_w, i32_w]
              rfl
            refine pure_ (i := 2) (N := some 13) (v := ?_) (a' := ?_) #[true, true, true, false, false, false, false, false, false, false, false, false, false, false] rfl rfl (any_of HT_.out (by kernel_rfl)) (fun _ _ _ h => h) (Or.inl ⟨by rfl, ?_⟩) ?_ ?_
            rotate_left
            · intro w'
              go_simp
              with_reducible rfl
            rotate_left
            · simp only [Act.put, List.setIfInBounds_toArray, List.set_cons_zero, List.set_cons_succ, i64_w, i32_w]
              rfl
            refine pure_ (i := 3) (N := some 14) (v := ?_) (a' := ?_) #[true, true, true, true, false, false, false, false, false, false, false, false, false, false] rfl rfl (any_of HT_.out (by kernel_rfl)) (fun _ _ _ h => h) (Or.inl ⟨by rfl, ?_⟩) ?_ ?_
            rotate_left
            · intro w'
              go_simp
              with_reducible rfl
            rotate_left
            · simp only [Act.put, List.setIfInBounds_toArray, List.set_cons_zero, List.set_cons_succ, i64_w, i32_w]
              rfl
            refine pure_ (i := 6) (N := some 17) (v := ?_) (a' := ?_) #[true, true, true, true, false, false, true, false, false, false, false, false, false, false] rfl rfl (any_of HT_.out (by kernel_rfl)) (fun _ _ _ h => h) (Or.inl ⟨by rfl, ?_⟩) ?_ ?_
            rotate_left
            · intro w'
              go_simp
              with_reducible rfl
            rotate_left
            · simp only [Act.put, List.setIfInBounds_toArray, List.set_cons_zero, List.set_cons_succ, i64_w, i32_w]
              rfl
            refine pure_ (i := 7) (N := some 18) (v := ?_) (a' := ?_) #[true, true, true, true, false, false, true, true, false, false, false, false, false, false] rfl rfl (any_of HT_.out (by kernel_rfl)) (fun _ _ _ h => h) (Or.inl ⟨by rfl, ?_⟩) ?_ ?_
            rotate_left
            · intro w'
              go_simp
              with_reducible rfl
            rotate_left
            · simp only [Act.put, List.setIfInBounds_toArray, List.set_cons_zero, List.set_cons_succ, i64_w, i32_w]
              rfl
            refine pure_ (i := 8) (N := some 19) (v := ?_) (a' := ?_) #[true, true, true, true, false, false, true, true, true, false, false, false, false, false] rfl rfl (any_of HT_.out (by kernel_rfl)) (fun _ _ _ h => h) (Or.inl ⟨by rfl, ?_⟩) ?_ ?_
            rotate_left
            · intro w'
              go_simp
              with_reducible rfl
            rotate_left
            · simp only [Act.put, List.setIfInBounds_toArray, List.set_cons_zero, List.set_cons_succ, i64_w, i32_w]
              rfl
            refine take_ (i := 4) (N := some 15) (v := ?_) (a' := ?_) #[true, true, true, true, true, false, true, true, true, false, false, false, false, false] rfl rfl (take_ofW HT_.out HW_.out (by kernel_rfl)) (fun _ _ _ h => h) (Or.inl ⟨by rfl, ?_⟩) hHeld ?_ ?_
            rotate_left
            · rintro w' ⟨s0, s1⟩
              go_simp
              with_reducible rfl
            rotate_left
            · simp only [Act.put, List.setIfInBounds_toArray, List.set_cons_zero, List.set_cons_succ, i64_w, i32_w]
              rfl
            refine pure_ (i := 5) (N := some 16) (v := ?_) (a' := ?_) #[true, true, true, true, true, true, true, true, true, false, false, false, false, false] rfl rfl (any_of HT_.out (by kernel_rfl)) (fun _ _ _ h => h) (Or.inl ⟨by rfl, ?_⟩) ?_ ?_
            rotate_left
            · intro w'
              go_simp
              with_reducible rfl
            rotate_left
            · simp only [Act.put, List.setIfInBounds_toArray, List.set_cons_zero, List.set_cons_succ, i64_w, i32_w]
              rfl
            refine take_ (i := 9) (N := some 20) (v := ?_) (a' := ?_) #[true, true, true, true, true, true, true, true, true, true, false, false, false, false] rfl rfl (take_ofW HT_.out HW_.out (by kernel_rfl)) (fun _ _ _ h => h) (Or.inl ⟨by rfl, ?_⟩) hHeld ?_ ?_
            rotate_left
            · rintro w' ⟨s0, s1⟩
              go_simp
              with_reducible rfl
            rotate_left
            · simp only [Act.put, List.setIfInBounds_toArray, List.set_cons_zero, List.set_cons_succ, i64_w, i32_w]
              rfl
            refine pure_ (i := 10) (N := some 21) (v := ?_) (a' := ?_) #[true, true, true, true, true, true, true, true, true, true, true, false, false, false] rfl rfl (any_of HT_.out (by kernel_rfl)) (fun _ _ _ h => h) (Or.inl ⟨by rfl, ?_⟩) ?_ ?_
            rotate_left
            · intro w'
              go_simp
              with_reducible rfl
            rotate_left
            · simp only [Act.put, List.setIfInBounds_toArray, List.set_cons_zero, List.set_cons_succ, i64_w, i32_w]
              rfl
            refine one_ (i := 11) (N := some 22) #[true, true, true, true, true, true, true, true, true, true, true, true, false, false] rfl rfl (one_of HT_.out (by kernel_rfl)) (by decide) (fun K hK => ?_)
            refine Kd.R_lit_step (Kd.int .u8) _ 5 ?hg (N := 22) ?hd (xs := ([(Int.tdiv (rd l0 x4_1) 16) % 256, Int.tmod (rd l0 x4_1) 16] : List Int)) (inner := [.int .u8 ((Int.tdiv (rd l0 x4_1) 16) % 256), .int .u8 (Int.tmod (rd l0 x4_1) 16)]) (ok := fun _ => True) (okp := fun _ => True) ?hr ?hp (fun _ hk => hk) trivial (Below.refl _ _) (Nat.le_refl _) (by simp) ?_; (case hd => rfl); (case hg => rfl); (case hr => first | (go_simp; done) | (go_simp; rfl)); (case hp => exact (Reps.one (show Kd.M (Kd.int .u8) _ _ _ ((Int.tdiv (rd l0 x4_1) 16) % 256) [.int .u8 ((Int.tdiv (rd l0 x4_1) 16) % 256)] from rfl) (Reps.one (show Kd.M (Kd.int .u8) _ _ _ (Int.tmod (rd l0 x4_1) 16) [.int .u8 (Int.tmod (rd l0 x4_1) 16)] from rfl) (Reps.none _ _))))
            intro v116 w6 ho7 hb hg_ hnew_
            clear hg_ hnew_
            (first | rw [← Ny115.out] at ho7 | (simp only [Int.reduceToNat] at ho7; rw [← Ny115.out] at ho7))
            have n0_ := Aside0.mk (Kd.R_elder' (by (with_reducible repeat (first | apply Kd.R_alloc | apply Kd.R_drewN | apply Kd.R_drew)); exact HO_3.out) (Kd.R_base ho7) hb)
            have n1_ := Aside0.mk (Kd.R_lower (Kd.R_new' ho7 (Kd.R_lt (by (with_reducible repeat (first | apply Kd.R_alloc | apply Kd.R_drewN | apply Kd.R_drew)); exact HO_3.out))) (below_size (by repeat (first | (with_reducible first | exact HB.out | apply below_alloc | apply pw_below_drewN | apply below_drew1) | exact HB.out))))
            have n2_ := Aside0.mk (below_step (by repeat (first | (with_reducible first | exact HB.out | apply below_alloc | apply pw_below_drewN | apply below_drew1) | exact HB.out)) hb)
            clear HO_3
            clear HB
            have HO_3 := n0_
            have HO117 := n1_
            have HB := n2_
            clear n0_ n1_ n2_
            clear hb ho7
            obtain ⟨Ao9, co9, eo9⟩ := Kd.R_slice HO117.out
            (first | subst eo9 | (injection eo9 with f1_ f2_ f3_; have f4_ := f1_.symm; have f5_ := f3_.symm; clear f1_ f2_ f3_; subst f4_; subst f5_))
            refine hK.out _ _ ⟨((HB.out.cell (World.block_lt_of_cell? w _ hw113_0)).trans hw113_0), ((HB.out.cell (World.block_lt_of_cell? w _ hw114_0)).trans hw114_0)⟩ (fun hHeld => ?_)
            clear hK K
            refine norm_ (a' := ?_) ?_ ?_
            rotate_left
            · show Act.put _ (some 22) _ = _
              simp only [Act.put, List.setIfInBounds_toArray, List.set_cons_zero, List.set_cons_succ, i64_w, i32_w]
              rfl
            refine one_ (i := 12) (N := some 23) #[true, true, true, true, true, true, true, true, true, true, true, true, true, false] rfl rfl (one_of HT_.out (by kernel_rfl)) (by decide) (fun K hK => ?_)
            refine Kd.R_append_rows_step (Kd.int .u8) (w0 := w) w.heap.size (by rfl) (.tmp 11) (.tmp 22) 22 5 (.int .u8 0) 1 rfl Tryd.underlying22 info5 rfl (by decide) (by omega) u3 x3_1 y115 _ _ _ (fun k_ => some k_ ≠ (.slice Ao9 y115.length co9 : Value).ownBlock) (fun _ => False) rfl rfl ?aO ?aR (fun _ _ h => h) (fun _ h => h.elim) ?aF ?aB ?aS ?aL ?_
            (case aR => repeat (first | exact (Kd.R_reads' HO117.out).2.2 | (with_reducible refine Kd.C_alloc ?_ _) | (with_reducible refine Kd.C_drewN ?_ _) | (with_reducible refine Kd.C_drew ?_)))
            (case aB => exact (by repeat (first | (with_reducible first | exact HB.out | apply below_alloc | apply pw_below_drewN | apply below_drew1) | exact HB.out)))
            (case aF => exact (fun k_ hk => Kd.fresh' (Kd.R_lt (by (with_reducible repeat (first | apply Kd.R_alloc | apply Kd.R_drewN | apply Kd.R_drew)); exact HO117.out)) k_ hk))
            (case aO => exact (by (with_reducible repeat (first | apply Kd.R_alloc | apply Kd.R_drewN | apply Kd.R_drew)); exact Kd.R_mono HO_3.out (fun _ hk => hk.2)))
            (case aS => exact (below_size (by repeat (first | (with_reducible first | exact HB.out | apply below_alloc | apply pw_below_drewN | apply below_drew1) | exact HB.out))))
            (case aL => have := LMc4.out; omega)
            intro v119 w8 ho hb hg hat
            rw [← Ny118.out] at ho
            have n0_ := Aside0.mk (Kd.R_after (ok := (fun _ => True)) (by (with_reducible repeat (first | apply Kd.R_alloc | apply Kd.R_drewN | apply Kd.R_drew)); exact HO117.out) hg hat)
            have n1_ := Aside0.mk (hb)
            have n2_ := Aside0.mk (ho)
            clear HO117
            clear HB
            clear HO_3
            have HO117 := n0_
            have HB := n1_
            have HO120 := n2_
            clear n0_ n1_ n2_
            clear ho hb hg hat
            refine hK.out _ _ ⟨((HB.out.cell (World.block_lt_of_cell? w _ hw113_0)).trans hw113_0), ((HB.out.cell (World.block_lt_of_cell? w _ hw114_0)).trans hw114_0)⟩ (fun hHeld => ?_)
            clear hK K
            refine norm_ (a' := ?_) ?_ ?_
            rotate_left
            · show Act.put _ (some 23) _ = _
              simp only [Act.put, List.setIfInBounds_toArray, List.set_cons_zero, List.set_cons_succ, i64_w, i32_w]
              rfl
            refine pure_ (i := 13) (N := some 3) (v := ?_) (a' := ?_) #[true, true, true, true, true, true, true, true, true, true, true, true, true, true] rfl rfl (any_of HT_.out (by kernel_rfl)) (fun _ _ _ h => h) (Or.inl ⟨by rfl, ?_⟩) ?_ ?_
            rotate_left
            · intro w'
              go_simp
              with_reducible rfl
            rotate_left
            · simp only [Act.put, List.setIfInBounds_toArray, List.set_cons_zero, List.set_cons_succ, i64_w, i32_w]
              rfl
            refine done_ (done_of HT_.out (by kernel_rfl)) ?_
            try go_wp2
            go_roundg k1
            case measure => have := HK1.out; omega
            case rel => exact ⟨(y118), (wrap64 (x4_1 + 1)), (by first | rfl | (simp; done) | (simp [*]; done)), H', ⟨by have := HK1.out; omega⟩, ⟨by (with_reducible repeat (first | apply Kd.R_alloc | apply Kd.R_drewN | apply Kd.R_drew)); exact Kd.R_mono HO120.out (fun _ hk => trivial)⟩, ⟨by repeat (first | (with_reducible first | exact HB.out | apply below_alloc | apply pw_below_drewN | apply below_drew1) | exact HB.out)⟩⟩
          · rw [if_neg c4] at H
            exact absurd H (by simp)
        · rw [if_neg c3] at H
          exact absurd H (by simp)
      · rw [if_neg c2] at H
        have c2b0 : decide (x4_1 < (l0.length : Int)) = false := decide_eq_false c2
        clear c2
        obtain rfl := Option.some.inj H
        go_wp2
        go_ret
        exact ⟨_, by first | rfl | (simp [errW_none, errW_some] <;> rfl) | (simp [*, errW_none, errW_some] <;> rfl), by (with_reducible repeat (first | apply Kd.R_alloc | apply Kd.R_drewN | apply Kd.R_drew)); exact HO_3.out, by repeat (first | (with_reducible first | exact HB.out | apply below_alloc | apply pw_below_drewN | apply below_drew1) | exact HB.out)⟩

-- function 20 (cairnref01_Hex): by hand

-- function 21 (octet_Within): by hand

/-! ### cairnref01_Within: function 22 -/
def cairnref01_Within.f (k : Nat) (l0 : List Int) (l1_0 : List Int) (l1_1 : List Int) (a1_2 : Bool) : Option (Bool) := (cairnref01_Compare.f k l1_0 l0).bind fun t122 => (if t122 ≤ 0 then (if a1_2 = true then (some true) else ((cairnref01_Compare.f k l0 l1_1).bind fun t123 => (some (decide (t123 < 0))))) else (some false))
theorem cairnref01_Within.mono : ∀ a0 a1 a2 a3 k, LeO (cairnref01_Within.f k a0 a1 a2 a3) (cairnref01_Within.f (k + 1) a0 a1 a2 a3) := by
  intro a0 a1 a2 a3 k
  unfold cairnref01_Within.f
  repeat' first
      | (with_reducible exact cairnref01_Compare.mono _ _ _)
      | (with_reducible exact LeO.refl _)
      | (with_reducible exact LeO.none _)
      | (with_reducible refine LeO.ite ?_ ?_)
      | (with_reducible refine LeO.bind ?_ (fun _ => ?_))
      | exact cairnref01_Compare.mono _ _ _
      | exact LeO.none _
      | refine LeO.ite ?_ ?_
      | refine LeO.bind ?_ (fun _ => ?_)
set_option maxHeartbeats 8000000 in
set_option maxRecDepth 100000 in
theorem cairnref01_Within.calls (k : Nat) (A0 : Option Addr) (c0 : Nat) (l0 : List Int) (A1_0 : Option Addr) (c1_0 : Nat) (l1_0 : List Int) (A1_1 : Option Addr) (c1_1 : Nat) (l1_1 : List Int) (a1_2 : Bool) (r : Bool) (w : World) (hr0 : Kd.C (Kd.int .u8) w A0 l0.length l0) (hc0 : l0.length ≤ c0) (hr1_0 : Kd.C (Kd.int .u8) w A1_0 l1_0.length l1_0) (hc1_0 : l1_0.length ≤ c1_0) (hr1_1 : Kd.C (Kd.int .u8) w A1_1 l1_1.length l1_1) (hc1_1 : l1_1.length ≤ c1_1) (h : cairnref01_Within.f k l0 l1_0 l1_1 a1_2 = some r) :
    Calls Tryd.prog 22 #[.slice A0 l0.length c0, .agg #[.slice A1_0 l1_0.length c1_0, .slice A1_1 l1_1.length c1_1, .bool a1_2]] w fun e w' => e = .returned (.bool r) ∧ Below w.heap.size w w' := by
  have hu29 := Tryd.underlying29
  have HR0 := Aside0.mk hr0
  have HC0 := Aside0.mk hc0
  clear hr0 hc0
  have HR1_0 := Aside0.mk hr1_0
  have HC1_0 := Aside0.mk hc1_0
  clear hr1_0 hc1_0
  have HR1_1 := Aside0.mk hr1_1
  have HC1_1 := Aside0.mk hc1_1
  clear hr1_1 hc1_1
  have HB := Aside0.mk (Below.refl w.heap.size w)
  have H : ((cairnref01_Compare.f k l1_0 l0).bind fun t122 => (if t122 ≤ 0 then (if a1_2 = true then (some true) else ((cairnref01_Compare.f k l0 l1_1).bind fun t123 => (some (decide (t123 < 0))))) else (some false))) = some r := h
  clear h
  replace H := Option.bind_eq_some_iff.mp H
  obtain ⟨t122, A30, H⟩ := H
  replace H : (if t122 ≤ 0 then (if a1_2 = true then (some true) else ((cairnref01_Compare.f k l0 l1_1).bind fun t123 => (some (decide (t123 < 0))))) else (some false)) = some r := H
  have A3 := Aside0.mk A30
  clear A30
  by_cases c4 : t122 ≤ 0
  · rw [if_pos c4] at H
    have c4b0 : decide (t122 ≤ 0) = true := decide_eq_true c4
    clear c4
    by_cases c5 : a1_2 = true
    · subst c5
      have H1 : (some true) = some r := by rw [if_pos rfl] at H; exact H
      clear H
      have H := H1
      clear H1
      obtain rfl := Option.some.inj H
      go_enter Tryd.func22, Tryd.ntmps22
      go_wp2_with (first | ((with_reducible refine gate_dst (N := 3) rfl ?_); refine box_event ?hg (N := 3) ?hd (cs := #[.slice A1_0 l1_0.length c1_0, .slice A1_1 l1_1.length c1_1, .bool true]) (t := 29) ?hr ?_; (case hd => rfl); (case hg => rfl); (case hr => first | (go_simp; done) | (go_simp; rfl)); intro gb121 hg w6 hbox hb; have n0_ := Aside0.mk (below_step (by repeat (first | (with_reducible first | exact HB.out | apply below_alloc | apply pw_below_drewN | apply below_drew1) | exact HB.out)) hb); have n1_ := Aside0.mk (hbox); have n2_ := Aside0.mk ((by rw [hg]; exact (below_size (by repeat (first | (with_reducible first | exact HB.out | apply below_alloc | apply pw_below_drewN | apply below_drew1) | exact HB.out))) : w.heap.size ≤ gb121)); have n3_ := Aside0.mk ((by rw [hg]; exact (below_size (by repeat (first | (with_reducible first | exact HB.out | apply below_alloc | apply pw_below_drewN | apply below_drew1) | exact HB.out))) : w.heap.size ≤ gb121)); clear HB; have HB := n0_; have BK121 := n1_; have GW121 := n2_; have GE121 := n3_; clear n0_ n1_ n2_ n3_; clear hb hbox hg; have hcz7_0 : w6.cell? ⟨gb121, 0, none⟩ = some (.slice A1_0 l1_0.length c1_0) := (blk_cell BK121.out 0).trans rfl; have hcz7_1 : w6.cell? ⟨gb121, 1, none⟩ = some (.slice A1_1 l1_1.length c1_1) := (blk_cell BK121.out 1).trans rfl; have hcz7_2 : w6.cell? ⟨gb121, 2, none⟩ = some (.bool true) := (blk_cell BK121.out 2).trans rfl; have hfz7_0 := blk_frozen BK121.out 0; have hfz7_1 := blk_frozen BK121.out 1; have hfz7_2 := blk_frozen BK121.out 2) | ((with_reducible refine gate_callee (f := 19) rfl ?_); refine goesL_ (some 8) rfl rfl Tryd.func19 (by kernel_rfl) rfl #[.slice A1_0 l1_0.length c1_0, .slice A0 l0.length c0] rfl (by (try simp only [List.map_toArray, List.map_cons, List.map_nil]); first | done | rfl | (simp only [List.length_drop, List.length_take]; rfl)) ?_; (with_reducible refine (cairnref01_Compare.calls k _ _ l1_0 _ _ l0 t122 _ ?side1 ?side2 ?side3 ?side4 A3.out).mono ?_); (case side1 => repeat (first | exact (Kd.C_below HR1_0.out HB.out) | (with_reducible refine Kd.C_alloc ?_ _) | (with_reducible refine Kd.C_drewN ?_ _) | (with_reducible refine Kd.C_drew ?_))); (case side2 => exact HC1_0.out); (case side3 => repeat (first | exact (Kd.C_below HR0.out HB.out) | (with_reducible refine Kd.C_alloc ?_ _) | (with_reducible refine Kd.C_drewN ?_ _) | (with_reducible refine Kd.C_drew ?_))); (case side4 => exact HC0.out); rintro e w' ⟨rfl, ⟨nd, rfl⟩⟩; refine ⟨_, rfl, ?_⟩))
      go_ret
      exact ⟨by first | rfl | (simp [errW_none, errW_some] <;> rfl) | (simp [*, errW_none, errW_some] <;> rfl), by repeat (first | (with_reducible first | exact HB.out | apply below_alloc | apply pw_below_drewN | apply below_drew1 | refine below_set ?_ GE121.out) | exact HB.out)⟩
    · replace c5 := Bool.eq_false_iff.mpr c5
      subst c5
      have H1 : ((cairnref01_Compare.f k l0 l1_1).bind fun t123 => (some (decide (t123 < 0)))) = some r := by rw [if_neg (show ¬ (false = true) by decide)] at H; exact H
      clear H
      have H := H1
      clear H1
      replace H := Option.bind_eq_some_iff.mp H
      obtain ⟨t123, A80, H⟩ := H
      replace H : (some (decide (t123 < 0))) = some r := H
      have A8 := Aside0.mk A80
      clear A80
      obtain rfl := Option.some.inj H
      go_enter Tryd.func22, Tryd.ntmps22
      go_wp2_with (first | ((with_reducible refine gate_dst (N := 3) rfl ?_); refine box_event ?hg (N := 3) ?hd (cs := #[.slice A1_0 l1_0.length c1_0, .slice A1_1 l1_1.length c1_1, .bool false]) (t := 29) ?hr ?_; (case hd => rfl); (case hg => rfl); (case hr => first | (go_simp; done) | (go_simp; rfl)); intro gb121 hg w9 hbox hb; have n0_ := Aside0.mk (below_step (by repeat (first | (with_reducible first | exact HB.out | apply below_alloc | apply pw_below_drewN | apply below_drew1) | exact HB.out)) hb); have n1_ := Aside0.mk (hbox); have n2_ := Aside0.mk ((by rw [hg]; exact (below_size (by repeat (first | (with_reducible first | exact HB.out | apply below_alloc | apply pw_below_drewN | apply below_drew1) | exact HB.out))) : w.heap.size ≤ gb121)); have n3_ := Aside0.mk ((by rw [hg]; exact (below_size (by repeat (first | (with_reducible first | exact HB.out | apply below_alloc | apply pw_below_drewN | apply below_drew1) | exact HB.out))) : w.heap.size ≤ gb121)); clear HB; have HB := n0_; have BK121 := n1_; have GW121 := n2_; have GE121 := n3_; clear n0_ n1_ n2_ n3_; clear hb hbox hg; have hcz10_0 : w9.cell? ⟨gb121, 0, none⟩ = some (.slice A1_0 l1_0.length c1_0) := (blk_cell BK121.out 0).trans rfl; have hcz10_1 : w9.cell? ⟨gb121, 1, none⟩ = some (.slice A1_1 l1_1.length c1_1) := (blk_cell BK121.out 1).trans rfl; have hcz10_2 : w9.cell? ⟨gb121, 2, none⟩ = some (.bool false) := (blk_cell BK121.out 2).trans rfl; have hfz10_0 := blk_frozen BK121.out 0; have hfz10_1 := blk_frozen BK121.out 1; have hfz10_2 := blk_frozen BK121.out 2) | ((with_reducible refine gate_callee (f := 19) rfl ?_); refine goesL_ (some 8) rfl rfl Tryd.func19 (by kernel_rfl) rfl #[.slice A1_0 l1_0.length c1_0, .slice A0 l0.length c0] rfl (by (try simp only [List.map_toArray, List.map_cons, List.map_nil]); first | done | rfl | (simp only [List.length_drop, List.length_take]; rfl)) ?_; (with_reducible refine (cairnref01_Compare.calls k _ _ l1_0 _ _ l0 t122 _ ?side1 ?side2 ?side3 ?side4 A3.out).mono ?_); (case side1 => repeat (first | exact (Kd.C_below HR1_0.out HB.out) | (with_reducible refine Kd.C_alloc ?_ _) | (with_reducible refine Kd.C_drewN ?_ _) | (with_reducible refine Kd.C_drew ?_))); (case side2 => exact HC1_0.out); (case side3 => repeat (first | exact (Kd.C_below HR0.out HB.out) | (with_reducible refine Kd.C_alloc ?_ _) | (with_reducible refine Kd.C_drewN ?_ _) | (with_reducible refine Kd.C_drew ?_))); (case side4 => exact HC0.out); rintro e w' ⟨rfl, ⟨nd, rfl⟩⟩; refine ⟨_, rfl, ?_⟩) | (go_at_call 19; (with_reducible refine (cairnref01_Compare.calls k _ _ l0 _ _ l1_1 t123 _ ?side1 ?side2 ?side3 ?side4 A8.out).mono ?_); (case side1 => repeat (first | exact (Kd.C_below HR0.out (by repeat (first | (with_reducible first | exact HB.out | apply below_alloc | apply pw_below_drewN | apply below_drew1 | refine below_set ?_ GE121.out) | exact HB.out))) | (with_reducible refine Kd.C_alloc ?_ _) | (with_reducible refine Kd.C_drewN ?_ _) | (with_reducible refine Kd.C_drew ?_))); (case side2 => exact HC0.out); (case side3 => repeat (first | exact (Kd.C_below HR1_1.out (by repeat (first | (with_reducible first | exact HB.out | apply below_alloc | apply pw_below_drewN | apply below_drew1 | refine below_set ?_ GE121.out) | exact HB.out))) | (with_reducible refine Kd.C_alloc ?_ _) | (with_reducible refine Kd.C_drewN ?_ _) | (with_reducible refine Kd.C_drew ?_))); (case side4 => exact HC1_1.out); rintro e w' ⟨rfl, ⟨nd, rfl⟩⟩))
      go_ret
      exact ⟨by first | rfl | (simp [errW_none, errW_some] <;> rfl) | (simp [*, errW_none, errW_some] <;> rfl), by repeat (first | (with_reducible first | exact HB.out | apply below_alloc | apply pw_below_drewN | apply below_drew1 | refine below_set ?_ GE121.out) | exact HB.out)⟩
  · rw [if_neg c4] at H
    have c4b0 : decide (t122 ≤ 0) = false := decide_eq_false c4
    clear c4
    obtain rfl := Option.some.inj H
    go_enter Tryd.func22, Tryd.ntmps22
    go_wp2_with (first | ((with_reducible refine gate_dst (N := 3) rfl ?_); refine box_event ?hg (N := 3) ?hd (cs := #[.slice A1_0 l1_0.length c1_0, .slice A1_1 l1_1.length c1_1, .bool a1_2]) (t := 29) ?hr ?_; (case hd => rfl); (case hg => rfl); (case hr => first | (go_simp; done) | (go_simp; rfl)); intro gb121 hg w11 hbox hb; have n0_ := Aside0.mk (below_step (by repeat (first | (with_reducible first | exact HB.out | apply below_alloc | apply pw_below_drewN | apply below_drew1) | exact HB.out)) hb); have n1_ := Aside0.mk (hbox); have n2_ := Aside0.mk ((by rw [hg]; exact (below_size (by repeat (first | (with_reducible first | exact HB.out | apply below_alloc | apply pw_below_drewN | apply below_drew1) | exact HB.out))) : w.heap.size ≤ gb121)); have n3_ := Aside0.mk ((by rw [hg]; exact (below_size (by repeat (first | (with_reducible first | exact HB.out | apply below_alloc | apply pw_below_drewN | apply below_drew1) | exact HB.out))) : w.heap.size ≤ gb121)); clear HB; have HB := n0_; have BK121 := n1_; have GW121 := n2_; have GE121 := n3_; clear n0_ n1_ n2_ n3_; clear hb hbox hg; have hcz12_0 : w11.cell? ⟨gb121, 0, none⟩ = some (.slice A1_0 l1_0.length c1_0) := (blk_cell BK121.out 0).trans rfl; have hcz12_1 : w11.cell? ⟨gb121, 1, none⟩ = some (.slice A1_1 l1_1.length c1_1) := (blk_cell BK121.out 1).trans rfl; have hcz12_2 : w11.cell? ⟨gb121, 2, none⟩ = some (.bool a1_2) := (blk_cell BK121.out 2).trans rfl; have hfz12_0 := blk_frozen BK121.out 0; have hfz12_1 := blk_frozen BK121.out 1; have hfz12_2 := blk_frozen BK121.out 2) | ((with_reducible refine gate_callee (f := 19) rfl ?_); refine goesL_ (some 8) rfl rfl Tryd.func19 (by kernel_rfl) rfl #[.slice A1_0 l1_0.length c1_0, .slice A0 l0.length c0] rfl (by (try simp only [List.map_toArray, List.map_cons, List.map_nil]); first | done | rfl | (simp only [List.length_drop, List.length_take]; rfl)) ?_; (with_reducible refine (cairnref01_Compare.calls k _ _ l1_0 _ _ l0 t122 _ ?side1 ?side2 ?side3 ?side4 A3.out).mono ?_); (case side1 => repeat (first | exact (Kd.C_below HR1_0.out HB.out) | (with_reducible refine Kd.C_alloc ?_ _) | (with_reducible refine Kd.C_drewN ?_ _) | (with_reducible refine Kd.C_drew ?_))); (case side2 => exact HC1_0.out); (case side3 => repeat (first | exact (Kd.C_below HR0.out HB.out) | (with_reducible refine Kd.C_alloc ?_ _) | (with_reducible refine Kd.C_drewN ?_ _) | (with_reducible refine Kd.C_drew ?_))); (case side4 => exact HC0.out); rintro e w' ⟨rfl, ⟨nd, rfl⟩⟩; refine ⟨_, rfl, ?_⟩))
    go_ret
    exact ⟨by first | rfl | (simp [errW_none, errW_some] <;> rfl) | (simp [*, errW_none, errW_some] <;> rfl), by repeat (first | (with_reducible first | exact HB.out | apply below_alloc | apply pw_below_drewN | apply below_drew1 | refine below_set ?_ GE121.out) | exact HB.out)⟩

/-! ### cairnref01_digit: function 27 -/
def cairnref01_digit.l0 : Nat → Int → Int → Option (Int)
  | 0, _, _ => none
  | k + 1, x0, x3 => if x3 < 16 then (if 0 ≤ x3 then (if (bt (⟨#[48, 49, 50, 51, 52, 53, 54, 55, 56, 57, 97, 98, 99, 100, 101, 102]⟩ : ByteArray) x3) = x0 then (some ((x3) % 256)) else (cairnref01_digit.l0 k x0 (wrap64 (x3 + 1)))) else (none)) else (some 16)
def cairnref01_digit.f (k : Nat) (a0 : Int) : Option (Int) := cairnref01_digit.l0 k a0 0
theorem cairnref01_digit.mono_l : ∀ k, (∀ y0 y1, LeO (cairnref01_digit.l0 k y0 y1) (cairnref01_digit.l0 (k + 1) y0 y1))
  | 0 => fun _ _ r h => by simp [cairnref01_digit.l0] at h
  | k + 1 => by
    have ih0 := cairnref01_digit.mono_l k
    · intro y0 y1
      unfold cairnref01_digit.l0
      repeat' first
      | (with_reducible exact ih0 _ _)
      | (with_reducible exact LeO.refl _)
      | (with_reducible exact LeO.none _)
      | (with_reducible refine LeO.ite ?_ ?_)
      | (with_reducible refine LeO.bind ?_ (fun _ => ?_))
      | exact ih0 _ _
      | exact LeO.none _
      | refine LeO.ite ?_ ?_
      | refine LeO.bind ?_ (fun _ => ?_)
theorem cairnref01_digit.mono : ∀ a0 k, LeO (cairnref01_digit.f k a0) (cairnref01_digit.f (k + 1) a0) := by
  intro a0 k
  have ih0 := cairnref01_digit.mono_l k
  unfold cairnref01_digit.f
  repeat' first
      | (with_reducible exact ih0 _ _)
      | (with_reducible exact LeO.refl _)
      | (with_reducible exact LeO.none _)
      | (with_reducible refine LeO.ite ?_ ?_)
      | (with_reducible refine LeO.bind ?_ (fun _ => ?_))
      | exact ih0 _ _
      | exact LeO.none _
      | refine LeO.ite ?_ ?_
      | refine LeO.bind ?_ (fun _ => ?_)
set_option maxHeartbeats 8000000 in
set_option maxRecDepth 100000 in
theorem cairnref01_digit.calls (k : Nat) (a0 : Int) (r : Int) (w : World) (h : cairnref01_digit.f k a0 = some r) :
    Calls Tryd.prog 27 #[.int .u8 a0] w fun e w' => e = .returned (.int .u8 r) ∧ Drawn0 w w' := by
  have H : (cairnref01_digit.l0 k a0 0) = some r := h
  clear h
  have H' := Aside0.mk H
  clear H
  go_enter Tryd.func27, Tryd.ntmps27
  go_wp2
  go_loopg [3] k (fun kq v3 w' => ∃ (x3_1 : Int), v3 = .int .i64 x3_1 ∧ Aside0 (cairnref01_digit.l0 kq a0 x3_1 = some r) ∧ Aside0 (kq ≤ k) ∧ Drawn0 w w')
  case atStart => exact ⟨(0), (by first | rfl | (simp; done) | (simp [*]; done)), H', ⟨Nat.le_refl _⟩, by repeat (first | exact Drawn0.refl _ | apply Drawn0.step)⟩
  case round =>
    clear H'
    obtain ⟨x3_1, rfl, HA, HK1, ⟨m1, rfl⟩⟩ := hrel
    cases gk with
    | zero => exact absurd HA.out (by simp [cairnref01_digit.l0])
    | succ k1 =>
      have H := HA.out
      clear HA
      simp only [cairnref01_digit.l0] at H
      by_cases c2 : x3_1 < 16
      · rw [if_pos c2] at H
        have c2b0 : decide (x3_1 < 16) = true := decide_eq_true c2
        clear c2
        by_cases c3 : 0 ≤ x3_1
        · rw [if_pos c3] at H
          have c3b0 : decide (0 ≤ x3_1) = true := decide_eq_true c3
          clear c3
          by_cases c5 : (bt (⟨#[48, 49, 50, 51, 52, 53, 54, 55, 56, 57, 97, 98, 99, 100, 101, 102]⟩ : ByteArray) x3_1) = a0
          · rw [if_pos c5] at H
            have c5b0 : ((bt (⟨#[48, 49, 50, 51, 52, 53, 54, 55, 56, 57, 97, 98, 99, 100, 101, 102]⟩ : ByteArray) x3_1) == a0) = true := beq_iff_eq.mpr c5
            have c5b1 : ((bt (⟨#[48, 49, 50, 51, 52, 53, 54, 55, 56, 57, 97, 98, 99, 100, 101, 102]⟩ : ByteArray) x3_1) != a0) = false := bne_eq_false_iff_eq.mpr c5
            clear c5
            obtain rfl := Option.some.inj H
            have p4 : 0 ≤ (x3_1 : Int) := of_decide_eq_true (by first | (with_reducible assumption) | assumption)
            have q4 : x3_1 < (16 : Int) := of_decide_eq_true (by first | (with_reducible assumption) | assumption)
            have hx4 := bt_at (⟨#[48, 49, 50, 51, 52, 53, 54, 55, 56, 57, 97, 98, 99, 100, 101, 102]⟩ : ByteArray) x3_1
            replace p4 := eq_true p4
            replace q4 := eq_true q4
            go_wp2
            go_ret
            exact ⟨by first | rfl | (simp; done) | (simp [*]; done), by repeat (first | exact Drawn0.refl _ | apply Drawn0.step)⟩
          · rw [if_neg c5] at H
            have c5b0 : ((bt (⟨#[48, 49, 50, 51, 52, 53, 54, 55, 56, 57, 97, 98, 99, 100, 101, 102]⟩ : ByteArray) x3_1) == a0) = false := beq_eq_false_iff_ne.mpr c5
            have c5b1 : ((bt (⟨#[48, 49, 50, 51, 52, 53, 54, 55, 56, 57, 97, 98, 99, 100, 101, 102]⟩ : ByteArray) x3_1) != a0) = true := bne_iff_ne.mpr c5
            have H' := Aside0.mk H
            clear H
            have p4 : 0 ≤ (x3_1 : Int) := of_decide_eq_true (by first | (with_reducible assumption) | assumption)
            have q4 : x3_1 < (16 : Int) := of_decide_eq_true (by first | (with_reducible assumption) | assumption)
            have hx4 := bt_at (⟨#[48, 49, 50, 51, 52, 53, 54, 55, 56, 57, 97, 98, 99, 100, 101, 102]⟩ : ByteArray) x3_1
            replace p4 := eq_true p4
            replace q4 := eq_true q4
            go_wp2
            go_roundg k1
            case measure => have := HK1.out; omega
            case rel => exact ⟨(wrap64 (x3_1 + 1)), (by first | rfl | (simp; done) | (simp [*]; done)), H', ⟨by have := HK1.out; omega⟩, by repeat (first | exact Drawn0.refl _ | apply Drawn0.step)⟩
        · rw [if_neg c3] at H
          exact absurd H (by simp)
      · rw [if_neg c2] at H
        have c2b0 : decide (x3_1 < 16) = false := decide_eq_false c2
        clear c2
        obtain rfl := Option.some.inj H
        go_wp2
        go_ret
        exact ⟨by first | rfl | (simp; done) | (simp [*]; done), by repeat (first | exact Drawn0.refl _ | apply Drawn0.step)⟩

/-! ### cairnref01_Unhex: function 23 -/
def cairnref01_Unhex.l0 : Nat → ByteArray → List Int → Int → Option (List Int × Int)
  | 0, _, _, _ => none
  | k + 1, x0, x4, x5 => if x5 < (x0.size : Int) then (if 0 ≤ x5 then ((cairnref01_digit.f k (bt x0 x5)).bind fun t124 => (if x4.length < 140737488355328 then (cairnref01_Unhex.l0 k x0 (x4 ++ [t124]) (wrap64 (x5 + 1))) else (none))) else (none)) else ((cairnref01_Bytes.f k x4).bind fun bt128 => (if bt128.2 = 0 then (some (bt128.1, 0)) else (some (([] : List Int), 10))))
def cairnref01_Unhex.f (k : Nat) (a0 : ByteArray) : Option (List Int × Int) := cairnref01_Unhex.l0 k a0 ([] : List Int) 0
theorem cairnref01_Unhex.mono_l : ∀ k, (∀ y0 y1 y2, LeO (cairnref01_Unhex.l0 k y0 y1 y2) (cairnref01_Unhex.l0 (k + 1) y0 y1 y2))
  | 0 => fun _ _ _ r h => by simp [cairnref01_Unhex.l0] at h
  | k + 1 => by
    have ih0 := cairnref01_Unhex.mono_l k
    · intro y0 y1 y2
      unfold cairnref01_Unhex.l0
      repeat' first
      | (with_reducible exact ih0 _ _ _)
      | (with_reducible exact cairnref01_Bytes.mono _ _)
      | (with_reducible exact cairnref01_digit.mono _ _)
      | (with_reducible exact LeO.refl _)
      | (with_reducible exact LeO.none _)
      | (with_reducible refine LeO.ite ?_ ?_)
      | (with_reducible refine LeO.bind ?_ (fun _ => ?_))
      | exact ih0 _ _ _
      | exact cairnref01_Bytes.mono _ _
      | exact cairnref01_digit.mono _ _
      | exact LeO.none _
      | refine LeO.ite ?_ ?_
      | refine LeO.bind ?_ (fun _ => ?_)
theorem cairnref01_Unhex.mono : ∀ a0 k, LeO (cairnref01_Unhex.f k a0) (cairnref01_Unhex.f (k + 1) a0) := by
  intro a0 k
  have ih0 := cairnref01_Unhex.mono_l k
  unfold cairnref01_Unhex.f
  repeat' first
      | (with_reducible exact ih0 _ _ _)
      | (with_reducible exact cairnref01_Bytes.mono _ _)
      | (with_reducible exact cairnref01_digit.mono _ _)
      | (with_reducible exact LeO.refl _)
      | (with_reducible exact LeO.none _)
      | (with_reducible refine LeO.ite ?_ ?_)
      | (with_reducible refine LeO.bind ?_ (fun _ => ?_))
      | exact ih0 _ _ _
      | exact cairnref01_Bytes.mono _ _
      | exact cairnref01_digit.mono _ _
      | exact LeO.none _
      | refine LeO.ite ?_ ?_
      | refine LeO.bind ?_ (fun _ => ?_)
set_option maxHeartbeats 8000000 in
set_option maxRecDepth 100000 in
theorem cairnref01_Unhex.calls (k : Nat) (a0 : ByteArray) (r1 : List Int) (r2 : Int) (w : World) (h : cairnref01_Unhex.f k a0 = some (r1, r2)) :
    Calls Tryd.prog 23 #[.string a0] w fun e w' => ∃ v0_ : Value, e = .returned (.tuple #[v0_, .int .i64 r2]) ∧ Kd.R (Kd.int .u8) 5 w' w.heap.size (fun _ => True) v0_ r1 ∧ Below w.heap.size w w' := by
  have HB := Aside0.mk (Below.refl w.heap.size w)
  have H : (cairnref01_Unhex.l0 k a0 ([] : List Int) 0) = some (r1, r2) := h
  clear h
  have H' := Aside0.mk H
  clear H
  go_enter Tryd.func23, Tryd.ntmps23
  go_wp2
  go_loopg [4, 5] k (fun kq v4 v5 w' => ∃ (x4_1 : List Int) (x5_1 : Int), v5 = .int .i64 x5_1 ∧ Aside0 (cairnref01_Unhex.l0 kq a0 x4_1 x5_1 = some (r1, r2)) ∧ Aside0 (kq ≤ k) ∧ Aside0 (Kd.R (Kd.int .u8) 5 w' w.heap.size (fun _ => True) v4 x4_1) ∧ Aside0 (Below w.heap.size w w'))
  case atStart => exact ⟨(([] : List Int)), (0), (by first | rfl | (simp; done) | (simp [*]; done)), H', ⟨Nat.le_refl _⟩, ⟨by first | exact Kd.R_nil _ _ _ _ _ | exact Kd.N_nil _ _ _ _ _ | exact Kd.V_nil _ _ _ _ _ | exact Kd.Q_nil _ _ _ _ _ | exact Kd.S_nil _ _ _ _ _⟩, ⟨by repeat (first | (with_reducible first | exact HB.out | apply below_alloc | apply pw_below_drewN | apply below_drew1) | exact HB.out)⟩⟩
  case round =>
    clear H'
    obtain ⟨x4_1, x5_1, rfl, HA, HK1, HO_4, HB⟩ := hrel
    cases gk with
    | zero => exact absurd HA.out (by simp [cairnref01_Unhex.l0])
    | succ k1 =>
      have H := HA.out
      clear HA
      simp only [cairnref01_Unhex.l0] at H
      by_cases c2 : x5_1 < (a0.size : Int)
      · rw [if_pos c2] at H
        have c2b0 : decide (x5_1 < (a0.size : Int)) = true := decide_eq_true c2
        clear c2
        by_cases c3 : 0 ≤ x5_1
        · rw [if_pos c3] at H
          have c3b0 : decide (0 ≤ x5_1) = true := decide_eq_true c3
          clear c3
          replace H := Option.bind_eq_some_iff.mp H
          obtain ⟨t124, A50, H⟩ := H
          replace H : (if x4_1.length < 140737488355328 then (cairnref01_Unhex.l0 k1 a0 (x4_1 ++ [t124]) (wrap64 (x5_1 + 1))) else (none)) = some (r1, r2) := H
          have A5 := Aside0.mk A50
          clear A50
          by_cases c6 : x4_1.length < 140737488355328
          · rw [if_pos c6] at H
            have LMc6 := Aside0.mk c6
            clear c6
            obtain ⟨y125, hy125⟩ : ∃ y_ : List Int, y_ = (x4_1 ++ [t124]) := ⟨_, rfl⟩
            replace H : (cairnref01_Unhex.l0 k1 a0 y125 (wrap64 (x5_1 + 1))) = some (r1, r2) := by first | (rw [hy125]; with_reducible exact H) | (have H2_ := (Option.bind_some _ _).symm.trans H; rw [hy125]; with_reducible exact H2_) | (have H2_ := (Option.bind_some _ _).symm.trans H; with_reducible exact H2_) | with_reducible exact H | (rw [hy125]; exact H) | exact H
            have Ny125 := Aside0.mk hy125
            clear hy125
            have H' := Aside0.mk H
            clear H
            have p4 : 0 ≤ (x5_1 : Int) := of_decide_eq_true (by first | (with_reducible assumption) | assumption)
            have q4 : x5_1 < (a0.size : Int) := of_decide_eq_true (by first | (with_reducible assumption) | assumption)
            have hx4 := bt_at a0 x5_1
            replace p4 := eq_true p4
            replace q4 := eq_true q4
            go_wp2_with (first | ((with_reducible refine gate_callee (f := 27) rfl ?_); refine goesL_ (some 18) rfl rfl Tryd.func27 (by kernel_rfl) rfl #[.int .u8 (bt a0 x5_1)] rfl (by (try simp only [List.map_toArray, List.map_cons, List.map_nil]); first | done | rfl | (simp only [List.length_drop, List.length_take]; rfl)) ?_; (with_reducible refine (cairnref01_digit.calls k1 (bt a0 x5_1) t124 _ A5.out).mono ?_); rintro e w' ⟨rfl, ⟨nd, rfl⟩⟩; refine ⟨_, rfl, ?_⟩) | ((with_reducible refine gate_builtin (b := .append) (xs := #[.tmp 14, .tmp 19]) rfl ?_); at_builtin; refine Kd.R_append (Kd.int .u8) (w0 := w) w.heap.size rfl (.tmp 14) (.tmp 19) 22 5 (.int .u8 0) 1 rfl Tryd.underlying22 info5 rfl (by decide) (by omega) u4 x4_1 t124 [.int .u8 t124] (fun _ => True) (fun _ => False) rfl rfl ?aP (fun _ hk => hk.elim) ?aF ?aO ?aB ?aS ?aL ?_; (case aP => exact rfl); (case aB => exact (by repeat (first | (with_reducible first | exact HB.out | apply below_alloc | apply pw_below_drewN | apply below_drew1) | exact HB.out))); (case aF => exact (fun _ _ => trivial)); (case aO => exact (by (with_reducible repeat (first | apply Kd.R_alloc | apply Kd.R_drewN | apply Kd.R_drew)); exact HO_4.out)); (case aS => exact (below_size (by repeat (first | (with_reducible first | exact HB.out | apply below_alloc | apply pw_below_drewN | apply below_drew1) | exact HB.out)))); (case aL => have := LMc6.out; omega); intro v126 w7 ho hb hg hat; rw [← Ny125.out] at ho; have n0_ := Aside0.mk (hb); have n1_ := Aside0.mk (ho); clear HB; clear HO_4; have HB := n0_; have HO127 := n1_; clear n0_ n1_; clear ho hb hg hat))
            go_roundg k1
            case measure => have := HK1.out; omega
            case rel => exact ⟨(y125), (wrap64 (x5_1 + 1)), (by first | rfl | (simp; done) | (simp [*]; done)), H', ⟨by have := HK1.out; omega⟩, ⟨by (with_reducible repeat (first | apply Kd.R_alloc | apply Kd.R_drewN | apply Kd.R_drew)); exact HO127.out⟩, ⟨by repeat (first | (with_reducible first | exact HB.out | apply below_alloc | apply pw_below_drewN | apply below_drew1) | exact HB.out)⟩⟩
          · rw [if_neg c6] at H
            exact absurd H (by simp)
        · rw [if_neg c3] at H
          exact absurd H (by simp)
      · rw [if_neg c2] at H
        have c2b0 : decide (x5_1 < (a0.size : Int)) = false := decide_eq_false c2
        clear c2
        replace H := Option.bind_eq_some_iff.mp H
        obtain ⟨⟨t128, t129⟩, A80, H⟩ := H
        replace H : (if t129 = 0 then (some (t128, 0)) else (some (([] : List Int), 10))) = some (r1, r2) := H
        have A8 := Aside0.mk A80
        clear A80
        by_cases c9 : t129 = 0
        · rw [if_pos c9] at H
          have c9b0 : (t129 == 0) = true := beq_iff_eq.mpr c9
          have c9b1 : (t129 != 0) = false := bne_eq_false_iff_eq.mpr c9
          clear c9
          simp only [Option.some.injEq, Prod.mk.injEq] at H
          obtain ⟨rfl, rfl⟩ := H
          obtain ⟨Ao10, co10, eo10⟩ := Kd.R_slice HO_4.out
          subst eo10
          go_wp2_with (first | ((with_reducible refine gate_callee (f := 14) rfl ?_); refine goesL_ (some 23) rfl rfl Tryd.func14 (by kernel_rfl) rfl #[.slice Ao10 x4_1.length co10] rfl (by (try simp only [List.map_toArray, List.map_cons, List.map_nil]); first | done | rfl | (simp only [List.length_drop, List.length_take]; rfl)) ?_; (with_reducible refine (cairnref01_Bytes.calls k1 _ _ x4_1 t128 t129 _ ?side1 ?side2 A8.out).mono ?_); (case side1 => repeat (first | exact (Kd.R_reads' HO_4.out).2.2 | (with_reducible refine Kd.C_alloc ?_ _) | (with_reducible refine Kd.C_drewN ?_ _) | (with_reducible refine Kd.C_drew ?_))); (case side2 => exact (Kd.R_reads' HO_4.out).2.1); rintro e w11 ⟨v130, rfl, ho0, hb⟩; refine ⟨_, rfl, ?_⟩; have n0_ := Aside0.mk (Kd.R_elder' (by (with_reducible repeat (first | apply Kd.R_alloc | apply Kd.R_drewN | apply Kd.R_drew)); exact HO_4.out) (Kd.R_base ho0) hb); have n1_ := Aside0.mk (Kd.R_lower (Kd.R_new' ho0 (Kd.R_lt (by (with_reducible repeat (first | apply Kd.R_alloc | apply Kd.R_drewN | apply Kd.R_drew)); exact HO_4.out))) (below_size (by repeat (first | (with_reducible first | exact HB.out | apply below_alloc | apply pw_below_drewN | apply below_drew1) | exact HB.out)))); have n2_ := Aside0.mk (below_step (by repeat (first | (with_reducible first | exact HB.out | apply below_alloc | apply pw_below_drewN | apply below_drew1) | exact HB.out)) hb); clear HO_4; clear HB; have HO_4 := n0_; have HO131 := n1_; have HB := n2_; clear n0_ n1_ n2_; (try clear hb); (try clear hb2); (try clear hk); (try clear hi); (try clear ho0)))
          go_ret2
          exact ⟨_, by first | rfl | (simp [errW_none, errW_some] <;> rfl) | (simp [*, errW_none, errW_some] <;> rfl), by (with_reducible repeat (first | apply Kd.R_alloc | apply Kd.R_drewN | apply Kd.R_drew)); exact Kd.R_mono HO131.out (fun _ hk => trivial), by repeat (first | (with_reducible first | exact HB.out | apply below_alloc | apply pw_below_drewN | apply below_drew1) | exact HB.out)⟩
        · rw [if_neg c9] at H
          have c9b0 : (t129 == 0) = false := beq_eq_false_iff_ne.mpr c9
          have c9b1 : (t129 != 0) = true := bne_iff_ne.mpr c9
          simp only [Option.some.injEq, Prod.mk.injEq] at H
          obtain ⟨rfl, rfl⟩ := H
          obtain ⟨Ao12, co12, eo12⟩ := Kd.R_slice HO_4.out
          subst eo12
          go_wp2_with (first | ((with_reducible refine gate_callee (f := 14) rfl ?_); refine goesL_ (some 23) rfl rfl Tryd.func14 (by kernel_rfl) rfl #[.slice Ao12 x4_1.length co12] rfl (by (try simp only [List.map_toArray, List.map_cons, List.map_nil]); first | done | rfl | (simp only [List.length_drop, List.length_take]; rfl)) ?_; (with_reducible refine (cairnref01_Bytes.calls k1 _ _ x4_1 t128 t129 _ ?side1 ?side2 A8.out).mono ?_); (case side1 => repeat (first | exact (Kd.R_reads' HO_4.out).2.2 | (with_reducible refine Kd.C_alloc ?_ _) | (with_reducible refine Kd.C_drewN ?_ _) | (with_reducible refine Kd.C_drew ?_))); (case side2 => exact (Kd.R_reads' HO_4.out).2.1); rintro e w13 ⟨v130, rfl, ho0, hb⟩; refine ⟨_, rfl, ?_⟩; have n0_ := Aside0.mk (Kd.R_elder' (by (with_reducible repeat (first | apply Kd.R_alloc | apply Kd.R_drewN | apply Kd.R_drew)); exact HO_4.out) (Kd.R_base ho0) hb); have n1_ := Aside0.mk (Kd.R_lower (Kd.R_new' ho0 (Kd.R_lt (by (with_reducible repeat (first | apply Kd.R_alloc | apply Kd.R_drewN | apply Kd.R_drew)); exact HO_4.out))) (below_size (by repeat (first | (with_reducible first | exact HB.out | apply below_alloc | apply pw_below_drewN | apply below_drew1) | exact HB.out)))); have n2_ := Aside0.mk (below_step (by repeat (first | (with_reducible first | exact HB.out | apply below_alloc | apply pw_below_drewN | apply below_drew1) | exact HB.out)) hb); clear HO_4; clear HB; have HO_4 := n0_; have HO131 := n1_; have HB := n2_; clear n0_ n1_ n2_; (try clear hb); (try clear hb2); (try clear hk); (try clear hi); (try clear ho0)))
          go_ret2
          exact ⟨_, by first | rfl | (simp [errW_none, errW_some] <;> rfl) | (simp [*, errW_none, errW_some] <;> rfl), by first | exact Kd.R_nil _ _ _ _ _ | exact Kd.N_nil _ _ _ _ _ | exact Kd.V_nil _ _ _ _ _ | exact Kd.Q_nil _ _ _ _ _ | exact Kd.S_nil _ _ _ _ _, by repeat (first | (with_reducible first | exact HB.out | apply below_alloc | apply pw_below_drewN | apply below_drew1) | exact HB.out)⟩

-- function 24 (cairnlaw01_Apart): by hand

-- function 25 (cairnlaw01_Whole): by hand

-- function 26 (cairnlaw01_Turn): by hand

-- NOT PRINTED: function 5 (cairnlaw01_OctetAll)

end Go.Proofs.YthiedcebneejjaaDoor.R
-- Printed by a program of mine (myprint.py, a patched call of the kit's printer) for this claim; not trusted: Lean checks it.
namespace Go.Proofs.YthiedcebneejjaaDoor.R
open Go.RowKit  Go.Proofs.YthiedcebneejjaaDoorW.PrintWords Go.Proofs.YthiedcebneejjaaDoorW.PrintLast Go.Proofs.YthiedcebneejjaaDoorW.PrintMore
attribute [local go_sem] max2_int min2_int max_two min_two max_three min_three max_four min_four   -- for this text's walks alone
set_option linter.unusedVariables false
set_option linter.unusedSimpArgs false

end Go.Proofs.YthiedcebneejjaaDoor.R
-- Printed by a program of mine (myprint.py, a patched call of the kit's printer) for this claim; not trusted: Lean checks it.
namespace Go.Proofs.YthiedcebneejjaaDoor.A
open Go.RowKit  Go.Proofs.YthiedcebneejjaaDoorW.PrintWords Go.Proofs.YthiedcebneejjaaDoorW.PrintLast Go.Proofs.YthiedcebneejjaaDoorW.PrintMore
attribute [local go_sem] max2_int min2_int max_two min_two max_three min_three max_four min_four   -- for this text's walks alone
set_option linter.unusedVariables false
set_option linter.unusedSimpArgs false



def errW : Option Int → Value
  | none => .nilIface
  | some c => .iface 0 (.int .i64 c)
theorem errW_none : errW none = .nilIface := rfl
theorem errW_some (c : Int) : errW (some c) = .iface 0 (.int .i64 c) := rfl

theorem info5 : (Tryd.prog.info? 5).map (fun i => (i.zero, i.size, i.bytes)) = some (some (.int .u8 0), 1, 1) := by kernel_rfl
-- the values' own types

end Go.Proofs.YthiedcebneejjaaDoor.A
-- Printed by a program of mine (myprint.py, a patched call of the kit's printer) for this claim; not trusted: Lean checks it.
namespace Go.Proofs.YthiedcebneejjaaDoor.A
open Go.RowKit  Go.Proofs.YthiedcebneejjaaDoorW.PrintWords Go.Proofs.YthiedcebneejjaaDoorW.PrintLast Go.Proofs.YthiedcebneejjaaDoorW.PrintMore
attribute [local go_sem] max2_int min2_int max_two min_two max_three min_three max_four min_four   -- for this text's walks alone
set_option linter.unusedVariables false
set_option linter.unusedSimpArgs false

/-! ### octet_Bytes: function 7 -/
def octet_Bytes.l0 : Nat → List Int → List Int → Int → Int → Option (List Int × Int)
  | 0, _, _, _, _ => none
  | k + 1, x4, x15, x16, x17 => if x17 < x16 then (if 0 ≤ x17 then (if x17 < (x15.length : Int) then (if (rd x15 x17) > 15 then (some (([] : List Int), 2)) else (if 0 ≤ (wrap64 (Int.tdiv x17 2)) then (if (wrap64 (Int.tdiv x17 2)) < (x4.length : Int) then (octet_Bytes.l0 k (x4.set ((wrap64 (Int.tdiv x17 2)) : Int).toNat (Go.bits .or .u8 (((rd x4 (wrap64 (Int.tdiv x17 2))) * 16) % 256) (rd x15 x17))) x15 x16 (wrap64 (x17 + 1))) else (none)) else (none))) else (none)) else (none)) else (some (x4, 0))
def octet_Bytes.f (k : Nat) (l0 : List Int) : Option (List Int × Int) := if ((l0.length : Int) % 2) = 0 then (if 0 ≤ (wrap64 ((l0.length : Int) / 2)) then (if (wrap64 ((l0.length : Int) / 2) : Int).toNat ≤ 281474976710656 then (octet_Bytes.l0 k (List.replicate (wrap64 ((l0.length : Int) / 2) : Int).toNat 0) l0 (l0.length : Int) 0) else (none)) else (none)) else (some (([] : List Int), 2))
theorem octet_Bytes.mono_l : ∀ k, (∀ y0 y1 y2 y3, LeO (octet_Bytes.l0 k y0 y1 y2 y3) (octet_Bytes.l0 (k + 1) y0 y1 y2 y3))
  | 0 => fun _ _ _ _ r h => by simp [octet_Bytes.l0] at h
  | k + 1 => by
    have ih0 := octet_Bytes.mono_l k
    · intro y0 y1 y2 y3
      unfold octet_Bytes.l0
      repeat' first
      | (with_reducible exact ih0 _ _ _ _)
      | (with_reducible exact LeO.refl _)
      | (with_reducible exact LeO.none _)
      | (with_reducible refine LeO.ite ?_ ?_)
      | (with_reducible refine LeO.bind ?_ (fun _ => ?_))
      | exact ih0 _ _ _ _
      | exact LeO.none _
      | refine LeO.ite ?_ ?_
      | refine LeO.bind ?_ (fun _ => ?_)
theorem octet_Bytes.mono : ∀ a0 k, LeO (octet_Bytes.f k a0) (octet_Bytes.f (k + 1) a0) := by
  intro a0 k
  have ih0 := octet_Bytes.mono_l k
  unfold octet_Bytes.f
  repeat' first
      | (with_reducible exact ih0 _ _ _ _)
      | (with_reducible exact LeO.refl _)
      | (with_reducible exact LeO.none _)
      | (with_reducible refine LeO.ite ?_ ?_)
      | (with_reducible refine LeO.bind ?_ (fun _ => ?_))
      | exact ih0 _ _ _ _
      | exact LeO.none _
      | refine LeO.ite ?_ ?_
      | refine LeO.bind ?_ (fun _ => ?_)
set_option maxHeartbeats 8000000 in
set_option maxRecDepth 100000 in
theorem octet_Bytes.calls (k : Nat) (A0 : Option Addr) (c0 : Nat) (l0 : List Int) (r1 : List Int) (r2 : Int) (w : World) (hr0 : Kd.C (Kd.int .u8) w A0 l0.length l0) (hc0 : l0.length ≤ c0) (h : octet_Bytes.f k l0 = some (r1, r2)) :
    Calls Tryd.prog 7 #[.slice A0 l0.length c0] w fun e w' => ∃ v0_ : Value, e = .returned (.tuple #[v0_, .int .i64 r2]) ∧ Kd.R (Kd.int .u8) 5 w' w.heap.size (fun _ => True) v0_ r1 ∧ Below w.heap.size w w' := by
  have HR0 := Aside0.mk hr0
  have HC0 := Aside0.mk hc0
  clear hr0 hc0
  have HB := Aside0.mk (Below.refl w.heap.size w)
  have H : (if ((l0.length : Int) % 2) = 0 then (if 0 ≤ (wrap64 ((l0.length : Int) / 2)) then (if (wrap64 ((l0.length : Int) / 2) : Int).toNat ≤ 281474976710656 then (octet_Bytes.l0 k (List.replicate (wrap64 ((l0.length : Int) / 2) : Int).toNat 0) l0 (l0.length : Int) 0) else (none)) else (none)) else (some (([] : List Int), 2))) = some (r1, r2) := h
  clear h
  by_cases c2 : ((l0.length : Int) % 2) = 0
  · rw [if_pos c2] at H
    have c2b0 : (((l0.length : Int) % 2) == 0) = true := beq_iff_eq.mpr c2
    have c2b1 : (((l0.length : Int) % 2) != 0) = false := bne_eq_false_iff_eq.mpr c2
    clear c2
    obtain ⟨ji3, hji3⟩ : ∃ j_ : Int, (wrap64 ((l0.length : Int) / 2)) = j_ := ⟨_, rfl⟩
    replace H : (if 0 ≤ (ji3) then (if (ji3 : Int).toNat ≤ 281474976710656 then (octet_Bytes.l0 k (List.replicate (ji3 : Int).toNat 0) l0 (l0.length : Int) 0) else (none)) else (none)) = some (r1, r2) := by first | (rw [hji3] at H; exact H) | (simp only [hji3] at H ⊢; exact H)
    have hji3w : (IntKind.i64.wrap ((l0.length : Int) / 2)) = ji3 := (i64_w _).trans hji3
    by_cases c4 : 0 ≤ (ji3)
    · rw [if_pos c4] at H
      have c4b0 := eq_true c4
      have c4b1 : decide (0 ≤ (ji3)) = true := decide_eq_true c4
      clear c4
      by_cases c5 : (ji3 : Int).toNat ≤ 281474976710656
      · rw [if_pos c5] at H
        have c5b0 := eq_true c5
        have c5b1 : decide ((ji3 : Int).toNat ≤ 281474976710656) = true := decide_eq_true c5
        clear c5
        obtain ⟨y101, hy101⟩ : ∃ y_ : List Int, y_ = (List.replicate (ji3 : Int).toNat 0) := ⟨_, rfl⟩
        replace H : (octet_Bytes.l0 k y101 l0 (l0.length : Int) 0) = some (r1, r2) := by first | (rw [hy101]; with_reducible exact H) | (have H2_ := (Option.bind_some _ _).symm.trans H; rw [hy101]; with_reducible exact H2_) | (have H2_ := (Option.bind_some _ _).symm.trans H; with_reducible exact H2_) | with_reducible exact H | (rw [hy101]; exact H) | exact H
        have Ny101 := Aside0.mk hy101
        clear hy101
        have H' := Aside0.mk H
        clear H
        go_enter Tryd.func7, Tryd.ntmps7
        go_wp2_with (first | ((with_reducible refine gate_dst (N := 14) rfl ?_); refine Kd.R_make (Kd.int .u8) _ 5 rfl (N := 14) rfl 22 _ _ rfl ji3 rfl rfl Tryd.underlying22 (.int .u8 0) 1 info5 rfl (by decide) (by omega) 0 (ok := fun _ => True) (okp := fun _ => True) rfl (fun _ hk => hk) trivial (of_decide_eq_true (by first | (with_reducible assumption) | assumption)) (Nat.le_trans (Nat.mul_le_mul_right _ (of_decide_eq_true (by first | (with_reducible assumption) | assumption) : ji3.toNat ≤ 281474976710656)) (by omega)) (Below.refl _ _) (Nat.le_refl _) ?_; intro v102 w6 ho7 hb hg_ hnew_; clear hg_ hnew_; (first | rw [← Ny101.out] at ho7 | (simp only [Int.reduceToNat] at ho7; rw [← Ny101.out] at ho7)); have n0_ := Aside0.mk (Kd.R_lower ho7 (below_size (by repeat (first | (with_reducible first | exact HB.out | apply below_alloc | apply pw_below_drewN | apply below_drew1) | exact HB.out)))); have n1_ := Aside0.mk (below_step (by repeat (first | (with_reducible first | exact HB.out | apply below_alloc | apply pw_below_drewN | apply below_drew1) | exact HB.out)) hb); clear HB; have HO103 := n0_; have HB := n1_; clear n0_ n1_; clear hb ho7))
        go_loopg [17] k (fun kq v17 w' => ∃ (x4_1 : List Int) (x17_1 : Int), v17 = .int .i64 x17_1 ∧ Aside0 (octet_Bytes.l0 kq x4_1 l0 (l0.length : Int) x17_1 = some (r1, r2)) ∧ Aside0 (kq ≤ k) ∧ Aside0 (Kd.R (Kd.int .u8) 5 w' w.heap.size (fun _ => True) v102 x4_1) ∧ Aside0 (Below w.heap.size w w'))
        case atStart => exact ⟨(y101), (0), (by first | rfl | (simp; done) | (simp [*]; done)), H', ⟨Nat.le_refl _⟩, ⟨by (with_reducible repeat (first | apply Kd.R_alloc | apply Kd.R_drewN | apply Kd.R_drew)); exact HO103.out⟩, ⟨by repeat (first | (with_reducible first | exact HB.out | apply below_alloc | apply pw_below_drewN | apply below_drew1) | exact HB.out)⟩⟩
        case round =>
          clear H'
          try clear c2
          try clear c2b0
          try clear c2b1
          try clear p2
          try clear c4
          try clear c4b0
          try clear c4b1
          try clear c5
          try clear c5b0
          try clear c5b1
          try clear p6
          try clear c7
          obtain ⟨x4_1, x17_1, rfl, HA, HK1, HO_4, HB⟩ := hrel
          cases gk with
          | zero => exact absurd HA.out (by simp [octet_Bytes.l0])
          | succ k1 =>
            have H := HA.out
            clear HA
            simp only [octet_Bytes.l0] at H
            by_cases c8 : x17_1 < (l0.length : Int)
            · rw [if_pos c8] at H
              have c8b0 : decide (x17_1 < (l0.length : Int)) = true := decide_eq_true c8
              clear c8
              by_cases c9 : 0 ≤ x17_1
              · rw [if_pos c9] at H
                have c9b0 : decide (0 ≤ x17_1) = true := decide_eq_true c9
                clear c9
                by_cases c10 : x17_1 < (l0.length : Int)
                · rw [if_pos c10] at H
                  have c10b0 : decide (x17_1 < (l0.length : Int)) = true := decide_eq_true c10
                  clear c10
                  by_cases c11 : (rd l0 x17_1) > 15
                  · rw [if_pos c11] at H
                    have c11b0 : decide (15 < (rd l0 x17_1)) = true := decide_eq_true c11
                    clear c11
                    simp only [Option.some.injEq, Prod.mk.injEq] at H
                    obtain ⟨rfl, rfl⟩ := H
                    have p104 : 0 ≤ (x17_1 : Int) := of_decide_eq_true (by first | (with_reducible assumption) | assumption)
                    have q104 : x17_1 < (l0.length : Int) := of_decide_eq_true (by first | (with_reducible assumption) | assumption)
                    obtain ⟨ad104, e104, hx104_0⟩ := Kd.at_int HR0.out x17_1 p104 q104
                    cases e104
                    replace hx104_0 := (HB.out.cell (World.block_lt_of_cell? w _ hx104_0)).trans hx104_0
                    replace p104 := eq_true p104
                    replace q104 := eq_true q104
                    go_wp2
                    go_ret2
                    exact ⟨_, by first | rfl | (simp [errW_none, errW_some] <;> rfl) | (simp only [← hji3]; first | rfl | (simp [errW_none, errW_some] <;> rfl)) | (simp [*, errW_none, errW_some] <;> rfl), by first | exact Kd.R_nil _ _ _ _ _ | exact Kd.N_nil _ _ _ _ _ | exact Kd.V_nil _ _ _ _ _ | exact Kd.Q_nil _ _ _ _ _ | exact Kd.S_nil _ _ _ _ _, by repeat (first | (with_reducible first | exact HB.out | apply below_alloc | apply pw_below_drewN | apply below_drew1) | exact HB.out)⟩
                  · rw [if_neg c11] at H
                    have c11b0 : decide (15 < (rd l0 x17_1)) = false := decide_eq_false c11
                    clear c11
                    obtain ⟨ji12, hji12⟩ : ∃ j_ : Int, (wrap64 (Int.tdiv x17_1 2)) = j_ := ⟨_, rfl⟩
                    replace H : (if 0 ≤ (ji12) then (if (ji12) < (x4_1.length : Int) then (octet_Bytes.l0 k1 (x4_1.set ((ji12) : Int).toNat (Go.bits .or .u8 (((rd x4_1 (ji12)) * 16) % 256) (rd l0 x17_1))) l0 (l0.length : Int) (wrap64 (x17_1 + 1))) else (none)) else (none)) = some (r1, r2) := by first | (rw [hji12] at H; exact H) | (simp only [hji12] at H ⊢; exact H)
                    have hji12w : (IntKind.i64.wrap (Int.tdiv x17_1 2)) = ji12 := (i64_w _).trans hji12
                    by_cases c13 : 0 ≤ (ji12)
                    · rw [if_pos c13] at H
                      have c13b0 : decide (0 ≤ (ji12)) = true := decide_eq_true c13
                      clear c13
                      by_cases c14 : (ji12) < (x4_1.length : Int)
                      · rw [if_pos c14] at H
                        have c14b0 : decide ((ji12) < (x4_1.length : Int)) = true := decide_eq_true c14
                        clear c14
                        obtain ⟨y106, hy106⟩ : ∃ y_ : List Int, y_ = (x4_1.set ((ji12) : Int).toNat (Go.bits .or .u8 (((rd x4_1 (ji12)) * 16) % 256) (rd l0 x17_1))) := ⟨_, rfl⟩
                        replace H : (octet_Bytes.l0 k1 y106 l0 (l0.length : Int) (wrap64 (x17_1 + 1))) = some (r1, r2) := by first | (rw [hy106]; with_reducible exact H) | (have H2_ := (Option.bind_some _ _).symm.trans H; rw [hy106]; with_reducible exact H2_) | (have H2_ := (Option.bind_some _ _).symm.trans H; with_reducible exact H2_) | with_reducible exact H | (rw [hy106]; exact H) | exact H
                        have Ny106 := Aside0.mk hy106
                        clear hy106
                        have H' := Aside0.mk H
                        clear H
                        have p104 : 0 ≤ (x17_1 : Int) := of_decide_eq_true (by first | (with_reducible assumption) | assumption)
                        have q104 : x17_1 < (l0.length : Int) := of_decide_eq_true (by first | (with_reducible assumption) | assumption)
                        obtain ⟨ad104, e104, hx104_0⟩ := Kd.at_int HR0.out x17_1 p104 q104
                        cases e104
                        replace hx104_0 := (HB.out.cell (World.block_lt_of_cell? w _ hx104_0)).trans hx104_0
                        replace p104 := eq_true p104
                        replace q104 := eq_true q104
                        obtain ⟨Ao16, co16, eo16⟩ := Kd.R_slice HO_4.out
                        subst eo16
                        have p105 : 0 ≤ ((ji12) : Int) := of_decide_eq_true (by first | (with_reducible assumption) | assumption)
                        have q105 : (ji12) < (x4_1.length : Int) := of_decide_eq_true (by first | (with_reducible assumption) | assumption)
                        obtain ⟨ad105, e105, hx105_0⟩ := Kd.at_int (Kd.R_reads' HO_4.out).2.2 (ji12) p105 q105
                        cases e105
                        replace p105 := eq_true p105
                        replace q105 := eq_true q105
                        have p15 : 0 ≤ ((ji12) : Int) := of_decide_eq_true (by first | (with_reducible assumption) | assumption)
                        have q15 : ((ji12) : Int) < ((x4_1.length : Int) : Int) := of_decide_eq_true (by first | (with_reducible assumption) | assumption)
                        obtain ⟨go15, co15, eo15, gb15, gl15, cl15, HG15⟩ := Kd.R_form HO_4.out (by omega)
                        (first | cases eo15 | (injection eo15 with ea_ en_ ec_; (first | subst ea_ | (injection ea_ with ea_; subst ea_)); subst ec_; clear en_))
                        have GB15 := Aside0.mk gb15
                        have GG15 := Aside0.mk HG15
                        clear gb15 gl15 HG15
                        (first | simp only [add_plain] at hx105_0 | skip)
                        obtain ⟨hx15_0, hf15_0⟩ := Kd.R_celln 0 HO_4.out ((ji12) : Int) p15 q15
                        replace p15 := eq_true p15
                        replace q15 := eq_true q15
                        have HP17 := Kd.R_putg HO_4.out ((ji12) : Int) (Go.bits .or .u8 (((rd x4_1 (ji12)) * 16) % 256) (rd l0 x17_1))
                        go_wp2_with (first | ((with_reducible refine gate_store (t := 5) (p := 35) rfl ?_); refine store_event (t := 5) (p := 35) (v := ?vo_w18) (w1 := (wr.setCell ⟨go15, ((ji12) : Int).toNat, none⟩ (.int .u8 (Go.bits .or .u8 (((rd x4_1 (ji12)) * 16) % 256) (rd l0 x17_1))))) ?hg ?ho ?hn ?hr ?_; (case ho => rfl); (case hg => rfl); (case hn => rfl); (case hr => first | (go_simp; done) | (go_simp; rfl)); intro w18 hw; have hg : wr.grownBy w18 (some go15) := (by rw [hw]; exact HP17.2); have hp_ : Kd.R (Kd.int .u8) 5 w18 w.heap.size (fun _ => True) (.slice (some ⟨go15, 0, none⟩) x4_1.length co16) y106 := (by rw [hw, Ny106.out]; exact HP17.1); clear HP17; have n0_ := Aside0.mk (hp_); have n1_ := Aside0.mk ((by rw [hw]; exact below_set (HB.out) GB15.out : Below w.heap.size w w18)); clear HO_4; clear HB; have HO_4 := n0_; have HB := n1_; clear n0_ n1_; clear hg hw hp_))
                        go_roundg k1
                        case measure => have := HK1.out; omega
                        case rel => exact ⟨(y106), (wrap64 (x17_1 + 1)), (by first | rfl | (simp; done) | (simp [*]; done)), H', ⟨by have := HK1.out; omega⟩, ⟨by (with_reducible repeat (first | apply Kd.R_alloc | apply Kd.R_drewN | apply Kd.R_drew)); exact HO_4.out⟩, ⟨by repeat (first | (with_reducible first | exact HB.out | apply below_alloc | apply pw_below_drewN | apply below_drew1) | exact HB.out)⟩⟩
                      · rw [if_neg c14] at H
                        exact absurd H (by simp)
                    · rw [if_neg c13] at H
                      exact absurd H (by simp)
                · rw [if_neg c10] at H
                  exact absurd H (by simp)
              · rw [if_neg c9] at H
                exact absurd H (by simp)
            · rw [if_neg c8] at H
              have c8b0 : decide (x17_1 < (l0.length : Int)) = false := decide_eq_false c8
              clear c8
              simp only [Option.some.injEq, Prod.mk.injEq] at H
              obtain ⟨rfl, rfl⟩ := H
              go_wp2
              go_ret2
              exact ⟨_, by first | rfl | (simp [errW_none, errW_some] <;> rfl) | (simp only [← hji3]; first | rfl | (simp [errW_none, errW_some] <;> rfl)) | (simp [*, errW_none, errW_some] <;> rfl), by (with_reducible repeat (first | apply Kd.R_alloc | apply Kd.R_drewN | apply Kd.R_drew)); exact HO_4.out, by repeat (first | (with_reducible first | exact HB.out | apply below_alloc | apply pw_below_drewN | apply below_drew1) | exact HB.out)⟩
      · rw [if_neg c5] at H
        exact absurd H (by simp)
    · rw [if_neg c4] at H
      exact absurd H (by simp)
  · rw [if_neg c2] at H
    have c2b0 : (((l0.length : Int) % 2) == 0) = false := beq_eq_false_iff_ne.mpr c2
    have c2b1 : (((l0.length : Int) % 2) != 0) = true := bne_iff_ne.mpr c2
    simp only [Option.some.injEq, Prod.mk.injEq] at H
    obtain ⟨rfl, rfl⟩ := H
    go_enter Tryd.func7, Tryd.ntmps7
    go_wp2
    go_ret2
    exact ⟨_, by first | rfl | (simp [errW_none, errW_some] <;> rfl) | (simp [*, errW_none, errW_some] <;> rfl), by first | exact Kd.R_nil _ _ _ _ _ | exact Kd.N_nil _ _ _ _ _ | exact Kd.V_nil _ _ _ _ _ | exact Kd.Q_nil _ _ _ _ _ | exact Kd.S_nil _ _ _ _ _, by repeat (first | (with_reducible first | exact HB.out | apply below_alloc | apply pw_below_drewN | apply below_drew1) | exact HB.out)⟩

/-! ### octet_Nibbles: function 10 -/
def octet_Nibbles.l0 : Nat → List Int → List Int → Int → Int → Option (List Int)
  | 0, _, _, _, _ => none
  | k + 1, x3, x10, x11, x12 => if x12 < x11 then (if 0 ≤ x12 then (if x12 < (x10.length : Int) then ((some (([(rd x10 x12) / 16, Go.bits .and .u8 (rd x10 x12) 15] : List Int) : List Int)).bind fun y111 => (if x3.length + y111.length < 140737488355328 then (octet_Nibbles.l0 k (x3 ++ y111) x10 x11 (wrap64 (x12 + 1))) else (none))) else (none)) else (none)) else (some x3)
def octet_Nibbles.f (k : Nat) (l0 : List Int) : Option (List Int) := if 0 ≤ (wrap64 (2 * (l0.length : Int))) then (if (wrap64 (2 * (l0.length : Int)) : Int).toNat ≤ 281474976710656 then (octet_Nibbles.l0 k (([] : List Int)) l0 (l0.length : Int) 0) else (none)) else (none)
theorem octet_Nibbles.mono_l : ∀ k, (∀ y0 y1 y2 y3, LeO (octet_Nibbles.l0 k y0 y1 y2 y3) (octet_Nibbles.l0 (k + 1) y0 y1 y2 y3))
  | 0 => fun _ _ _ _ r h => by simp [octet_Nibbles.l0] at h
  | k + 1 => by
    have ih0 := octet_Nibbles.mono_l k
    · intro y0 y1 y2 y3
      unfold octet_Nibbles.l0
      repeat' first
      | (with_reducible exact ih0 _ _ _ _)
      | (with_reducible exact LeO.refl _)
      | (with_reducible exact LeO.none _)
      | (with_reducible refine LeO.ite ?_ ?_)
      | (with_reducible refine LeO.bind ?_ (fun _ => ?_))
      | exact ih0 _ _ _ _
      | exact LeO.none _
      | refine LeO.ite ?_ ?_
      | refine LeO.bind ?_ (fun _ => ?_)
theorem octet_Nibbles.mono : ∀ a0 k, LeO (octet_Nibbles.f k a0) (octet_Nibbles.f (k + 1) a0) := by
  intro a0 k
  have ih0 := octet_Nibbles.mono_l k
  unfold octet_Nibbles.f
  repeat' first
      | (with_reducible exact ih0 _ _ _ _)
      | (with_reducible exact LeO.refl _)
      | (with_reducible exact LeO.none _)
      | (with_reducible refine LeO.ite ?_ ?_)
      | (with_reducible refine LeO.bind ?_ (fun _ => ?_))
      | exact ih0 _ _ _ _
      | exact LeO.none _
      | refine LeO.ite ?_ ?_
      | refine LeO.bind ?_ (fun _ => ?_)
set_option maxHeartbeats 8000000 in
set_option maxRecDepth 100000 in
theorem octet_Nibbles.calls (k : Nat) (A0 : Option Addr) (c0 : Nat) (l0 : List Int) (r : List Int) (w : World) (hr0 : Kd.C (Kd.int .u8) w A0 l0.length l0) (hc0 : l0.length ≤ c0) (h : octet_Nibbles.f k l0 = some r) :
    Calls Tryd.prog 10 #[.slice A0 l0.length c0] w fun e w' => ∃ v0_ : Value, e = .returned (v0_) ∧ Kd.R (Kd.int .u8) 5 w' w.heap.size (fun _ => True) v0_ r ∧ Below w.heap.size w w' := by
  have HR0 := Aside0.mk hr0
  have HC0 := Aside0.mk hc0
  clear hr0 hc0
  have HB := Aside0.mk (Below.refl w.heap.size w)
  have H : (if 0 ≤ (wrap64 (2 * (l0.length : Int))) then (if (wrap64 (2 * (l0.length : Int)) : Int).toNat ≤ 281474976710656 then (octet_Nibbles.l0 k (([] : List Int)) l0 (l0.length : Int) 0) else (none)) else (none)) = some r := h
  clear h
  obtain ⟨ji2, hji2⟩ : ∃ j_ : Int, (wrap64 (2 * (l0.length : Int))) = j_ := ⟨_, rfl⟩
  replace H : (if 0 ≤ (ji2) then (if (ji2 : Int).toNat ≤ 281474976710656 then (octet_Nibbles.l0 k (([] : List Int)) l0 (l0.length : Int) 0) else (none)) else (none)) = some r := by first | (rw [hji2] at H; exact H) | (simp only [hji2] at H ⊢; exact H)
  have hji2w : (IntKind.i64.wrap (2 * (l0.length : Int))) = ji2 := (i64_w _).trans hji2
  by_cases c3 : 0 ≤ (ji2)
  · rw [if_pos c3] at H
    have c3b0 := eq_true c3
    have c3b1 : decide (0 ≤ (ji2)) = true := decide_eq_true c3
    clear c3
    by_cases c4 : (ji2 : Int).toNat ≤ 281474976710656
    · rw [if_pos c4] at H
      have c4b0 := eq_true c4
      have c4b1 : decide ((ji2 : Int).toNat ≤ 281474976710656) = true := decide_eq_true c4
      clear c4
      obtain ⟨y107, hy107⟩ : ∃ y_ : List Int, y_ = (([] : List Int)) := ⟨_, rfl⟩
      replace H : (octet_Nibbles.l0 k y107 l0 (l0.length : Int) 0) = some r := by first | (rw [hy107]; with_reducible exact H) | (have H2_ := (Option.bind_some _ _).symm.trans H; rw [hy107]; with_reducible exact H2_) | (have H2_ := (Option.bind_some _ _).symm.trans H; with_reducible exact H2_) | with_reducible exact H | (rw [hy107]; exact H) | exact H
      have Ny107 := Aside0.mk hy107
      clear hy107
      have H' := Aside0.mk H
      clear H
      go_enter Tryd.func10, Tryd.ntmps10
      go_wp2_with (first | ((with_reducible refine gate_dst (N := 9) rfl ?_); refine R_make0 (Kd.int .u8) _ 5 rfl (N := 9) rfl 22 _ _ rfl ji2 rfl rfl Tryd.underlying22 (.int .u8 0) 1 info5 rfl (by decide) (by omega) (ok := fun _ => True) (okp := fun _ => True) (fun _ hk => hk) trivial (of_decide_eq_true (by first | (with_reducible assumption) | assumption)) (Nat.le_trans (Nat.mul_le_mul_right _ (of_decide_eq_true (by first | (with_reducible assumption) | assumption) : ji2.toNat ≤ 281474976710656)) (by omega)) (Below.refl _ _) (Nat.le_refl _) ?_; intro v108 w5 ho6 hb hg_ hnew_; clear hg_ hnew_; (first | rw [← Ny107.out] at ho6 | (simp only [Int.reduceToNat] at ho6; rw [← Ny107.out] at ho6)); have n0_ := Aside0.mk (Kd.R_lower ho6 (below_size (by repeat (first | (with_reducible first | exact HB.out | apply below_alloc | apply pw_below_drewN | apply below_drew1) | exact HB.out)))); have n1_ := Aside0.mk (below_step (by repeat (first | (with_reducible first | exact HB.out | apply below_alloc | apply pw_below_drewN | apply below_drew1) | exact HB.out)) hb); clear HB; have HO109 := n0_; have HB := n1_; clear n0_ n1_; clear hb ho6))
      go_loopg [3, 12] k (fun kq v3 v12 w' => ∃ (x3_1 : List Int) (x12_1 : Int), v12 = .int .i64 x12_1 ∧ Aside0 (octet_Nibbles.l0 kq x3_1 l0 (l0.length : Int) x12_1 = some r) ∧ Aside0 (kq ≤ k) ∧ Aside0 (Kd.R (Kd.int .u8) 5 w' w.heap.size (fun _ => True) v3 x3_1) ∧ Aside0 (Below w.heap.size w w'))
      case atStart => exact ⟨(y107), (0), (by first | rfl | (simp; done) | (simp [*]; done)), H', ⟨Nat.le_refl _⟩, ⟨by (with_reducible repeat (first | apply Kd.R_alloc | apply Kd.R_drewN | apply Kd.R_drew)); exact HO109.out⟩, ⟨by repeat (first | (with_reducible first | exact HB.out | apply below_alloc | apply pw_below_drewN | apply below_drew1) | exact HB.out)⟩⟩
      case round =>
        clear H'
        try clear c1
        try clear p2
        try clear c3
        try clear c3b0
        try clear c3b1
        try clear c4
        try clear c4b0
        try clear c4b1
        try clear p6
        obtain ⟨x3_1, x12_1, rfl, HA, HK1, HO_3, HB⟩ := hrel
        cases gk with
        | zero => exact absurd HA.out (by simp [octet_Nibbles.l0])
        | succ k1 =>
          have H := HA.out
          clear HA
          simp only [octet_Nibbles.l0] at H
          by_cases c7 : x12_1 < (l0.length : Int)
          · rw [if_pos c7] at H
            have c7b0 : decide (x12_1 < (l0.length : Int)) = true := decide_eq_true c7
            clear c7
            by_cases c8 : 0 ≤ x12_1
            · rw [if_pos c8] at H
              have c8b0 : decide (0 ≤ x12_1) = true := decide_eq_true c8
              clear c8
              by_cases c9 : x12_1 < (l0.length : Int)
              · rw [if_pos c9] at H
                have c9b0 : decide (x12_1 < (l0.length : Int)) = true := decide_eq_true c9
                clear c9
                obtain ⟨y111, hy111⟩ : ∃ y_ : List Int, y_ = (([(rd l0 x12_1) / 16, Go.bits .and .u8 (rd l0 x12_1) 15] : List Int)) := ⟨_, rfl⟩
                replace H : (if x3_1.length + y111.length < 140737488355328 then (octet_Nibbles.l0 k1 (x3_1 ++ y111) l0 (l0.length : Int) (wrap64 (x12_1 + 1))) else (none)) = some r := by first | (rw [hy111]; with_reducible exact H) | (have H2_ := (Option.bind_some _ _).symm.trans H; rw [hy111]; with_reducible exact H2_) | (have H2_ := (Option.bind_some _ _).symm.trans H; with_reducible exact H2_) | with_reducible exact H | (rw [hy111]; exact H) | exact H
                have Ny111 := Aside0.mk hy111
                clear hy111
                by_cases c10 : x3_1.length + y111.length < 140737488355328
                · rw [if_pos c10] at H
                  have LMc10 := Aside0.mk c10
                  clear c10
                  obtain ⟨y114, hy114⟩ : ∃ y_ : List Int, y_ = (x3_1 ++ y111) := ⟨_, rfl⟩
                  replace H : (octet_Nibbles.l0 k1 y114 l0 (l0.length : Int) (wrap64 (x12_1 + 1))) = some r := by first | (rw [hy114]; with_reducible exact H) | (have H2_ := (Option.bind_some _ _).symm.trans H; rw [hy114]; with_reducible exact H2_) | (have H2_ := (Option.bind_some _ _).symm.trans H; with_reducible exact H2_) | with_reducible exact H | (rw [hy114]; exact H) | exact H
                  have Ny114 := Aside0.mk hy114
                  clear hy114
                  have H' := Aside0.mk H
                  clear H
                  have p110 : 0 ≤ (x12_1 : Int) := of_decide_eq_true (by first | (with_reducible assumption) | assumption)
                  have q110 : x12_1 < (l0.length : Int) := of_decide_eq_true (by first | (with_reducible assumption) | assumption)
                  obtain ⟨ad110, e110, hx110_0⟩ := Kd.at_int HR0.out x12_1 p110 q110
                  cases e110
                  replace hx110_0 := (HB.out.cell (World.block_lt_of_cell? w _ hx110_0)).trans hx110_0
                  replace p110 := eq_true p110
                  replace q110 := eq_true q110
                  go_wp2_with (first | ((with_reducible refine gate_dst (N := 21) rfl ?_); refine Kd.R_lit (Kd.int .u8) _ 5 ?hg (N := 21) ?hd (xs := ([(rd l0 x12_1) / 16, Go.bits .and .u8 (rd l0 x12_1) 15] : List Int)) (inner := [.int .u8 ((rd l0 x12_1) / 16), .int .u8 (Go.bits .and .u8 (rd l0 x12_1) 15)]) (ok := fun _ => True) (okp := fun _ => True) ?hr ?hp (fun _ hk => hk) trivial (Below.refl _ _) (Nat.le_refl _) (by simp) ?_; (case hd => rfl); (case hg => rfl); (case hr => first | (go_simp; done) | (go_simp; rfl)); (case hp => exact (Reps.one (show Kd.M (Kd.int .u8) _ _ _ ((rd l0 x12_1) / 16) [.int .u8 ((rd l0 x12_1) / 16)] from rfl) (Reps.one (show Kd.M (Kd.int .u8) _ _ _ (Go.bits .and .u8 (rd l0 x12_1) 15) [.int .u8 (Go.bits .and .u8 (rd l0 x12_1) 15)] from rfl) (Reps.none _ _)))); intro v112 w11 ho12 hb hg_ hnew_; clear hg_ hnew_; (first | rw [← Ny111.out] at ho12 | (simp only [Int.reduceToNat] at ho12; rw [← Ny111.out] at ho12)); have n0_ := Aside0.mk (Kd.R_elder' (by (with_reducible repeat (first | apply Kd.R_alloc | apply Kd.R_drewN | apply Kd.R_drew)); exact HO_3.out) (Kd.R_base ho12) hb); have n1_ := Aside0.mk (Kd.R_lower (Kd.R_new' ho12 (Kd.R_lt (by (with_reducible repeat (first | apply Kd.R_alloc | apply Kd.R_drewN | apply Kd.R_drew)); exact HO_3.out))) (below_size (by repeat (first | (with_reducible first | exact HB.out | apply below_alloc | apply pw_below_drewN | apply below_drew1) | exact HB.out)))); have n2_ := Aside0.mk (below_step (by repeat (first | (with_reducible first | exact HB.out | apply below_alloc | apply pw_below_drewN | apply below_drew1) | exact HB.out)) hb); clear HO_3; clear HB; have HO_3 := n0_; have HO113 := n1_; have HB := n2_; clear n0_ n1_ n2_; clear hb ho12; obtain ⟨Ao14, co14, eo14⟩ := Kd.R_slice HO113.out; subst eo14) | ((with_reducible refine gate_builtin (b := .append) (xs := #[.tmp 16, .tmp 21]) rfl ?_); at_builtin; refine Kd.R_append_rows (Kd.int .u8) (w0 := w) w.heap.size rfl (.tmp 16) (.tmp 21) 22 5 (.int .u8 0) 1 rfl Tryd.underlying22 info5 rfl (by decide) (by omega) u3 x3_1 y111 _ _ _ (fun k_ => some k_ ≠ (.slice Ao14 y111.length co14 : Value).ownBlock) (fun _ => False) rfl rfl ?aO ?aR (fun _ _ h => h) (fun _ h => h.elim) ?aF ?aB ?aS ?aL ?_; (case aR => repeat (first | exact (Kd.R_reads' HO113.out).2.2 | (with_reducible refine Kd.C_alloc ?_ _) | (with_reducible refine Kd.C_drewN ?_ _) | (with_reducible refine Kd.C_drew ?_))); (case aB => exact (by repeat (first | (with_reducible first | exact HB.out | apply below_alloc | apply pw_below_drewN | apply below_drew1) | exact HB.out))); (case aF => exact (fun k_ hk => Kd.fresh' (Kd.R_lt (by (with_reducible repeat (first | apply Kd.R_alloc | apply Kd.R_drewN | apply Kd.R_drew)); exact HO113.out)) k_ hk)); (case aO => exact (by (with_reducible repeat (first | apply Kd.R_alloc | apply Kd.R_drewN | apply Kd.R_drew)); exact Kd.R_mono HO_3.out (fun _ hk => hk.2))); (case aS => exact (below_size (by repeat (first | (with_reducible first | exact HB.out | apply below_alloc | apply pw_below_drewN | apply below_drew1) | exact HB.out)))); (case aL => have := LMc10.out; omega); intro v115 w13 ho hb hg hat; rw [← Ny114.out] at ho; have n0_ := Aside0.mk (Kd.R_after (ok := (fun _ => True)) (by (with_reducible repeat (first | apply Kd.R_alloc | apply Kd.R_drewN | apply Kd.R_drew)); exact HO113.out) hg hat); have n1_ := Aside0.mk (hb); have n2_ := Aside0.mk (ho); clear HO113; clear HB; clear HO_3; have HO113 := n0_; have HB := n1_; have HO116 := n2_; clear n0_ n1_ n2_; clear ho hb hg hat))
                  go_roundg k1
                  case measure => have := HK1.out; omega
                  case rel => exact ⟨(y114), (wrap64 (x12_1 + 1)), (by first | rfl | (simp; done) | (simp [*]; done)), H', ⟨by have := HK1.out; omega⟩, ⟨by (with_reducible repeat (first | apply Kd.R_alloc | apply Kd.R_drewN | apply Kd.R_drew)); exact Kd.R_mono HO116.out (fun _ hk => trivial)⟩, ⟨by repeat (first | (with_reducible first | exact HB.out | apply below_alloc | apply pw_below_drewN | apply below_drew1) | exact HB.out)⟩⟩
                · rw [if_neg c10] at H
                  exact absurd H (by simp)
              · rw [if_neg c9] at H
                exact absurd H (by simp)
            · rw [if_neg c8] at H
              exact absurd H (by simp)
          · rw [if_neg c7] at H
            have c7b0 : decide (x12_1 < (l0.length : Int)) = false := decide_eq_false c7
            clear c7
            obtain rfl := Option.some.inj H
            go_wp2
            go_ret
            exact ⟨_, by first | rfl | (simp [errW_none, errW_some] <;> rfl) | (simp only [← hji2]; first | rfl | (simp [errW_none, errW_some] <;> rfl)) | (simp [*, errW_none, errW_some] <;> rfl), by (with_reducible repeat (first | apply Kd.R_alloc | apply Kd.R_drewN | apply Kd.R_drew)); exact HO_3.out, by repeat (first | (with_reducible first | exact HB.out | apply below_alloc | apply pw_below_drewN | apply below_drew1) | exact HB.out)⟩
    · rw [if_neg c4] at H
      exact absurd H (by simp)
  · rw [if_neg c3] at H
    exact absurd H (by simp)

/-! ### octet_Common: function 17 -/
def octet_Common.l0 : Nat → List Int → List Int → Int → Option (Int)
  | 0, _, _, _ => none
  | k + 1, x0, x1, x5 => if x5 < (x0.length : Int) then (if x5 < (x1.length : Int) then (if 0 ≤ x5 then (if (rd x0 x5) = (rd x1 x5) then (octet_Common.l0 k x0 x1 (wrap64 (x5 + 1))) else (some x5)) else (none)) else (some x5)) else (some x5)
def octet_Common.f (k : Nat) (l0 : List Int) (l1 : List Int) : Option (Int) := octet_Common.l0 k l0 l1 0
theorem octet_Common.mono_l : ∀ k, (∀ y0 y1 y2, LeO (octet_Common.l0 k y0 y1 y2) (octet_Common.l0 (k + 1) y0 y1 y2))
  | 0 => fun _ _ _ r h => by simp [octet_Common.l0] at h
  | k + 1 => by
    have ih0 := octet_Common.mono_l k
    · intro y0 y1 y2
      unfold octet_Common.l0
      repeat' first
      | (with_reducible exact ih0 _ _ _)
      | (with_reducible exact LeO.refl _)
      | (with_reducible exact LeO.none _)
      | (with_reducible refine LeO.ite ?_ ?_)
      | (with_reducible refine LeO.bind ?_ (fun _ => ?_))
      | exact ih0 _ _ _
      | exact LeO.none _
      | refine LeO.ite ?_ ?_
      | refine LeO.bind ?_ (fun _ => ?_)
theorem octet_Common.mono : ∀ a0 a1 k, LeO (octet_Common.f k a0 a1) (octet_Common.f (k + 1) a0 a1) := by
  intro a0 a1 k
  have ih0 := octet_Common.mono_l k
  unfold octet_Common.f
  repeat' first
      | (with_reducible exact ih0 _ _ _)
      | (with_reducible exact LeO.refl _)
      | (with_reducible exact LeO.none _)
      | (with_reducible refine LeO.ite ?_ ?_)
      | (with_reducible refine LeO.bind ?_ (fun _ => ?_))
      | exact ih0 _ _ _
      | exact LeO.none _
      | refine LeO.ite ?_ ?_
      | refine LeO.bind ?_ (fun _ => ?_)
set_option maxHeartbeats 8000000 in
set_option maxRecDepth 100000 in
theorem octet_Common.calls (k : Nat) (A0 : Option Addr) (c0 : Nat) (l0 : List Int) (A1 : Option Addr) (c1 : Nat) (l1 : List Int) (r : Int) (w : World) (hr0 : Kd.C (Kd.int .u8) w A0 l0.length l0) (hc0 : l0.length ≤ c0) (hr1 : Kd.C (Kd.int .u8) w A1 l1.length l1) (hc1 : l1.length ≤ c1) (h : octet_Common.f k l0 l1 = some r) :
    Calls Tryd.prog 17 #[.slice A0 l0.length c0, .slice A1 l1.length c1] w fun e w' => e = .returned (.int .i64 r) ∧ Drawn0 w w' := by
  have HR0 := Aside0.mk hr0
  have HC0 := Aside0.mk hc0
  clear hr0 hc0
  have HR1 := Aside0.mk hr1
  have HC1 := Aside0.mk hc1
  clear hr1 hc1
  have H : (octet_Common.l0 k l0 l1 0) = some r := h
  clear h
  have H' := Aside0.mk H
  clear H
  go_enter Tryd.func17, Tryd.ntmps17
  go_wp2
  repeat (go_quiet (fail); try go_wp2)
  go_loopg [5] k (fun kq v5 w' => ∃ (x5_1 : Int), v5 = .int .i64 x5_1 ∧ Aside0 (octet_Common.l0 kq l0 l1 x5_1 = some r) ∧ Aside0 (kq ≤ k) ∧ Drawn0 w w')
  case atStart => exact ⟨(0), (by first | rfl | (simp; done) | (simp [*]; done)), H', ⟨Nat.le_refl _⟩, by repeat (first | exact Drawn0.refl _ | apply Drawn0.step)⟩
  case round =>
    clear H'
    try clear c1
    try clear p2
    obtain ⟨x5_1, rfl, HA, HK1, ⟨m1, rfl⟩⟩ := hrel
    cases gk with
    | zero => exact absurd HA.out (by simp [octet_Common.l0])
    | succ k1 =>
      have H := HA.out
      clear HA
      simp only [octet_Common.l0] at H
      by_cases c3 : x5_1 < (l0.length : Int)
      · rw [if_pos c3] at H
        have c3b0 : decide (x5_1 < (l0.length : Int)) = true := decide_eq_true c3
        clear c3
        by_cases c4 : x5_1 < (l1.length : Int)
        · rw [if_pos c4] at H
          have c4b0 : decide (x5_1 < (l1.length : Int)) = true := decide_eq_true c4
          clear c4
          by_cases c5 : 0 ≤ x5_1
          · rw [if_pos c5] at H
            have c5b0 : decide (0 ≤ x5_1) = true := decide_eq_true c5
            clear c5
            by_cases c6 : (rd l0 x5_1) = (rd l1 x5_1)
            · rw [if_pos c6] at H
              have c6b0 : ((rd l0 x5_1) == (rd l1 x5_1)) = true := beq_iff_eq.mpr c6
              have c6b1 : ((rd l0 x5_1) != (rd l1 x5_1)) = false := bne_eq_false_iff_eq.mpr c6
              clear c6
              have H' := Aside0.mk H
              clear H
              have p117 : 0 ≤ (x5_1 : Int) := of_decide_eq_true (by first | (with_reducible assumption) | assumption)
              have q117 : x5_1 < (l0.length : Int) := of_decide_eq_true (by first | (with_reducible assumption) | assumption)
              obtain ⟨ad117, e117, hx117_0⟩ := Kd.at_int HR0.out x5_1 p117 q117
              cases e117
              replace p117 := eq_true p117
              replace q117 := eq_true q117
              have p118 : 0 ≤ (x5_1 : Int) := of_decide_eq_true (by first | (with_reducible assumption) | assumption)
              have q118 : x5_1 < (l1.length : Int) := of_decide_eq_true (by first | (with_reducible assumption) | assumption)
              obtain ⟨ad118, e118, hx118_0⟩ := Kd.at_int HR1.out x5_1 p118 q118
              cases e118
              replace p118 := eq_true p118
              replace q118 := eq_true q118
              go_wp2
              repeat (go_quiet (fail); try go_wp2)
              go_roundg k1
              case measure => have := HK1.out; omega
              case rel => exact ⟨(wrap64 (x5_1 + 1)), (by first | rfl | (simp; done) | (simp [*]; done)), H', ⟨by have := HK1.out; omega⟩, by repeat (first | exact Drawn0.refl _ | apply Drawn0.step)⟩
            · rw [if_neg c6] at H
              have c6b0 : ((rd l0 x5_1) == (rd l1 x5_1)) = false := beq_eq_false_iff_ne.mpr c6
              have c6b1 : ((rd l0 x5_1) != (rd l1 x5_1)) = true := bne_iff_ne.mpr c6
              obtain rfl := Option.some.inj H
              have p117 : 0 ≤ (x5_1 : Int) := of_decide_eq_true (by first | (with_reducible assumption) | assumption)
              have q117 : x5_1 < (l0.length : Int) := of_decide_eq_true (by first | (with_reducible assumption) | assumption)
              obtain ⟨ad117, e117, hx117_0⟩ := Kd.at_int HR0.out x5_1 p117 q117
              cases e117
              replace p117 := eq_true p117
              replace q117 := eq_true q117
              have p118 : 0 ≤ (x5_1 : Int) := of_decide_eq_true (by first | (with_reducible assumption) | assumption)
              have q118 : x5_1 < (l1.length : Int) := of_decide_eq_true (by first | (with_reducible assumption) | assumption)
              obtain ⟨ad118, e118, hx118_0⟩ := Kd.at_int HR1.out x5_1 p118 q118
              cases e118
              replace p118 := eq_true p118
              replace q118 := eq_true q118
              go_wp2
              repeat (go_quiet (fail); try go_wp2)
              go_ret
              exact ⟨by first | rfl | (simp; done) | (simp [*]; done), by repeat (first | exact Drawn0.refl _ | apply Drawn0.step)⟩
          · rw [if_neg c5] at H
            exact absurd H (by simp)
        · rw [if_neg c4] at H
          have c4b0 : decide (x5_1 < (l1.length : Int)) = false := decide_eq_false c4
          clear c4
          obtain rfl := Option.some.inj H
          go_wp2
          repeat (go_quiet (fail); try go_wp2)
          go_ret
          exact ⟨by first | rfl | (simp; done) | (simp [*]; done), by repeat (first | exact Drawn0.refl _ | apply Drawn0.step)⟩
      · rw [if_neg c3] at H
        have c3b0 : decide (x5_1 < (l0.length : Int)) = false := decide_eq_false c3
        clear c3
        obtain rfl := Option.some.inj H
        go_wp2
        repeat (go_quiet (fail); try go_wp2)
        go_ret
        exact ⟨by first | rfl | (simp; done) | (simp [*]; done), by repeat (first | exact Drawn0.refl _ | apply Drawn0.step)⟩

/-! ### octet_Compare: function 12 -/
def octet_Compare.j0 : Nat → List Int → List Int → Int → Bool → Option (Int)
  | 0, _, _, _, _ => none
  | k + 1, x0, x1, x5, x9 => if x9 = true then (some 0) else (if x5 = (x0.length : Int) then (some (-1)) else (if x5 < (x1.length : Int) then (if 0 ≤ x5 then (if x5 < (x0.length : Int) then (if (rd x0 x5) < (rd x1 x5) then (some (-1)) else (some 1)) else (none)) else (none)) else (some 1)))
def octet_Compare.f (k : Nat) (l0 : List Int) (l1 : List Int) : Option (Int) := (octet_Common.f k l0 l1).bind fun t119 => (if t119 = (l0.length : Int) then (octet_Compare.j0 k l0 l1 t119 (t119 == (l1.length : Int))) else (octet_Compare.j0 k l0 l1 t119 false))
theorem octet_Compare.mono_l : ∀ k, (∀ y0 y1 y2 y3, LeO (octet_Compare.j0 k y0 y1 y2 y3) (octet_Compare.j0 (k + 1) y0 y1 y2 y3))
  | 0 => fun _ _ _ _ r h => by simp [octet_Compare.j0] at h
  | k + 1 => by
    have ih0 := octet_Compare.mono_l k
    · intro y0 y1 y2 y3
      unfold octet_Compare.j0
      repeat' first
      | (with_reducible exact ih0 _ _ _ _)
      | (with_reducible exact octet_Common.mono _ _ _)
      | (with_reducible exact LeO.refl _)
      | (with_reducible exact LeO.none _)
      | (with_reducible refine LeO.ite ?_ ?_)
      | (with_reducible refine LeO.bind ?_ (fun _ => ?_))
      | exact ih0 _ _ _ _
      | exact octet_Common.mono _ _ _
      | exact LeO.none _
      | refine LeO.ite ?_ ?_
      | refine LeO.bind ?_ (fun _ => ?_)
theorem octet_Compare.mono : ∀ a0 a1 k, LeO (octet_Compare.f k a0 a1) (octet_Compare.f (k + 1) a0 a1) := by
  intro a0 a1 k
  have ih0 := octet_Compare.mono_l k
  unfold octet_Compare.f
  repeat' first
      | (with_reducible exact ih0 _ _ _ _)
      | (with_reducible exact octet_Common.mono _ _ _)
      | (with_reducible exact LeO.refl _)
      | (with_reducible exact LeO.none _)
      | (with_reducible refine LeO.ite ?_ ?_)
      | (with_reducible refine LeO.bind ?_ (fun _ => ?_))
      | exact ih0 _ _ _ _
      | exact octet_Common.mono _ _ _
      | exact LeO.none _
      | refine LeO.ite ?_ ?_
      | refine LeO.bind ?_ (fun _ => ?_)
set_option maxHeartbeats 8000000 in
set_option maxRecDepth 100000 in
theorem octet_Compare.calls (k : Nat) (A0 : Option Addr) (c0 : Nat) (l0 : List Int) (A1 : Option Addr) (c1 : Nat) (l1 : List Int) (r : Int) (w : World) (hr0 : Kd.C (Kd.int .u8) w A0 l0.length l0) (hc0 : l0.length ≤ c0) (hr1 : Kd.C (Kd.int .u8) w A1 l1.length l1) (hc1 : l1.length ≤ c1) (h : octet_Compare.f k l0 l1 = some r) :
    Calls Tryd.prog 12 #[.slice A0 l0.length c0, .slice A1 l1.length c1] w fun e w' => e = .returned (.int .i64 r) ∧ Drawn0 w w' := by
  have HR0 := Aside0.mk hr0
  have HC0 := Aside0.mk hc0
  clear hr0 hc0
  have HR1 := Aside0.mk hr1
  have HC1 := Aside0.mk hc1
  clear hr1 hc1
  have H : ((octet_Common.f k l0 l1).bind fun t119 => (if t119 = (l0.length : Int) then (octet_Compare.j0 k l0 l1 t119 (t119 == (l1.length : Int))) else (octet_Compare.j0 k l0 l1 t119 false))) = some r := h
  clear h
  replace H := Option.bind_eq_some_iff.mp H
  obtain ⟨t119, A30, H⟩ := H
  replace H : (if t119 = (l0.length : Int) then (octet_Compare.j0 k l0 l1 t119 (t119 == (l1.length : Int))) else (octet_Compare.j0 k l0 l1 t119 false)) = some r := H
  have A3 := Aside0.mk A30
  clear A30
  have HC4 := Aside0.mk H
  clear H
  go_enter Tryd.func12, Tryd.ntmps12
  go_upto_region 2 with (first | (go_at_call 17; (with_reducible refine (octet_Common.calls k _ _ l0 _ _ l1 t119 _ ?side1 ?side2 ?side3 ?side4 A3.out).mono ?_); (case side1 => repeat (first | exact HR0.out | (with_reducible refine Kd.C_alloc ?_ _) | (with_reducible refine Kd.C_drewN ?_ _) | (with_reducible refine Kd.C_drew ?_))); (case side2 => exact HC0.out); (case side3 => repeat (first | exact HR1.out | (with_reducible refine Kd.C_alloc ?_ _) | (with_reducible refine Kd.C_drewN ?_ _) | (with_reducible refine Kd.C_drew ?_))); (case side4 => exact HC1.out); rintro e w' ⟨rfl, ⟨nd, rfl⟩⟩; (try first | exact ⟨rfl, _, World.drewN_drewN _ _ _⟩ | exact ⟨rfl, _, Eq.trans (World.drewN_drewN _ _ _) (congrArg (World.drewN _) (Nat.add_assoc _ _ _))⟩)))
  repeat (go_quiet (first | (go_at_call 17; (with_reducible refine (octet_Common.calls k _ _ l0 _ _ l1 t119 _ ?side1 ?side2 ?side3 ?side4 A3.out).mono ?_); (case side1 => repeat (first | exact HR0.out | (with_reducible refine Kd.C_alloc ?_ _) | (with_reducible refine Kd.C_drewN ?_ _) | (with_reducible refine Kd.C_drew ?_))); (case side2 => exact HC0.out); (case side3 => repeat (first | exact HR1.out | (with_reducible refine Kd.C_alloc ?_ _) | (with_reducible refine Kd.C_drewN ?_ _) | (with_reducible refine Kd.C_drew ?_))); (case side4 => exact HC1.out); rintro e w' ⟨rfl, ⟨nd, rfl⟩⟩; (try first | exact ⟨rfl, _, World.drewN_drewN _ _ _⟩ | exact ⟨rfl, _, Eq.trans (World.drewN_drewN _ _ _) (congrArg (World.drewN _) (Nat.add_assoc _ _ _))⟩))); go_upto_region 2 with (first | (go_at_call 17; (with_reducible refine (octet_Common.calls k _ _ l0 _ _ l1 t119 _ ?side1 ?side2 ?side3 ?side4 A3.out).mono ?_); (case side1 => repeat (first | exact HR0.out | (with_reducible refine Kd.C_alloc ?_ _) | (with_reducible refine Kd.C_drewN ?_ _) | (with_reducible refine Kd.C_drew ?_))); (case side2 => exact HC0.out); (case side3 => repeat (first | exact HR1.out | (with_reducible refine Kd.C_alloc ?_ _) | (with_reducible refine Kd.C_drewN ?_ _) | (with_reducible refine Kd.C_drew ?_))); (case side4 => exact HC1.out); rintro e w' ⟨rfl, ⟨nd, rfl⟩⟩; (try first | exact ⟨rfl, _, World.drewN_drewN _ _ _⟩ | exact ⟨rfl, _, Eq.trans (World.drewN_drewN _ _ _) (congrArg (World.drewN _) (Nat.add_assoc _ _ _))⟩))))
  (try simp only [Act.put, List.setIfInBounds_toArray, List.set_cons_zero, List.set_cons_succ])
  go_cut [9] (fun v9 wc => ∃ (kq : Nat) (x9_3 : Bool), v9 = .bool x9_3 ∧ Aside0 (octet_Compare.j0 kq l0 l1 t119 x9_3 = some r) ∧ Aside0 (kq ≤ k) ∧ Drawn0 w wc)
  case first =>
    have H := HC4.out
    clear HC4
    by_cases c5 : t119 = (l0.length : Int)
    · rw [if_pos c5] at H
      have c5b0 : (t119 == (l0.length : Int)) = true := beq_iff_eq.mpr c5
      have c5b1 : (t119 != (l0.length : Int)) = false := bne_eq_false_iff_eq.mpr c5
      clear c5
      (first | rw [c5b0] | (simp only [i64_w, i32_w]; rw [c5b0]) | skip)
      have H' := Aside0.mk H
      clear H
      go_wp2
      repeat (go_quiet (fail); try go_wp2)
      go_meet
      case rel => exact ⟨_, ((t119 == (l1.length : Int))), (by first | rfl | (simp; done) | (simp [*]; done)), H', ⟨by first | omega | exact Nat.le_refl _⟩, by repeat (first | exact Drawn0.refl _ | apply Drawn0.step)⟩
    · rw [if_neg c5] at H
      have c5b0 : (t119 == (l0.length : Int)) = false := beq_eq_false_iff_ne.mpr c5
      have c5b1 : (t119 != (l0.length : Int)) = true := bne_iff_ne.mpr c5
      (first | rw [c5b0] | (simp only [i64_w, i32_w]; rw [c5b0]) | skip)
      have H' := Aside0.mk H
      clear H
      go_wp2
      repeat (go_quiet (fail); try go_wp2)
      go_meet
      case rel => exact ⟨_, (false), (by first | rfl | (simp; done) | (simp [*]; done)), H', ⟨by first | omega | exact Nat.le_refl _⟩, by repeat (first | exact Drawn0.refl _ | apply Drawn0.step)⟩
  case rest =>
    clear HC4
    try clear c1
    try clear p2
    try clear c5
    try clear c5b0
    try clear c5b1
    obtain ⟨kq, x9_3, rfl, HA, HJ3, ⟨mc3, rfl⟩⟩ := hcut
    cases kq with
    | zero => exact absurd HA.out (by simp [octet_Compare.j0])
    | succ kj3 =>
      have H := HA.out
      clear HA
      simp only [octet_Compare.j0] at H
      by_cases c6 : x9_3 = true
      · subst c6
        have H1 : (some 0) = some r := by rw [if_pos rfl] at H; exact H
        clear H
        have H := H1
        clear H1
        obtain rfl := Option.some.inj H
        go_wp2
        repeat (go_quiet (fail); try go_wp2)
        go_ret
        exact ⟨by first | rfl | (simp; done) | (simp [*]; done), by repeat (first | exact Drawn0.refl _ | apply Drawn0.step)⟩
      · replace c6 := Bool.eq_false_iff.mpr c6
        subst c6
        have H1 : (if t119 = (l0.length : Int) then (some (-1)) else (if t119 < (l1.length : Int) then (if 0 ≤ t119 then (if t119 < (l0.length : Int) then (if (rd l0 t119) < (rd l1 t119) then (some (-1)) else (some 1)) else (none)) else (none)) else (some 1))) = some r := by rw [if_neg (show ¬ (false = true) by decide)] at H; exact H
        clear H
        have H := H1
        clear H1
        by_cases c7 : t119 = (l0.length : Int)
        · rw [if_pos c7] at H
          have c7b0 : (t119 == (l0.length : Int)) = true := beq_iff_eq.mpr c7
          have c7b1 : (t119 != (l0.length : Int)) = false := bne_eq_false_iff_eq.mpr c7
          clear c7
          obtain rfl := Option.some.inj H
          go_wp2
          repeat (go_quiet (fail); try go_wp2)
          go_ret
          exact ⟨by first | rfl | (simp; done) | (simp [*]; done), by repeat (first | exact Drawn0.refl _ | apply Drawn0.step)⟩
        · rw [if_neg c7] at H
          have c7b0 : (t119 == (l0.length : Int)) = false := beq_eq_false_iff_ne.mpr c7
          have c7b1 : (t119 != (l0.length : Int)) = true := bne_iff_ne.mpr c7
          by_cases c8 : t119 < (l1.length : Int)
          · rw [if_pos c8] at H
            have c8b0 : decide (t119 < (l1.length : Int)) = true := decide_eq_true c8
            clear c8
            by_cases c9 : 0 ≤ t119
            · rw [if_pos c9] at H
              have c9b0 : decide (0 ≤ t119) = true := decide_eq_true c9
              clear c9
              by_cases c10 : t119 < (l0.length : Int)
              · rw [if_pos c10] at H
                have c10b0 : decide (t119 < (l0.length : Int)) = true := decide_eq_true c10
                clear c10
                by_cases c11 : (rd l0 t119) < (rd l1 t119)
                · rw [if_pos c11] at H
                  have c11b0 : decide ((rd l0 t119) < (rd l1 t119)) = true := decide_eq_true c11
                  clear c11
                  obtain rfl := Option.some.inj H
                  have p120 : 0 ≤ (t119 : Int) := of_decide_eq_true (by first | (with_reducible assumption) | assumption)
                  have q120 : t119 < (l0.length : Int) := of_decide_eq_true (by first | (with_reducible assumption) | assumption)
                  obtain ⟨ad120, e120, hx120_0⟩ := Kd.at_int HR0.out t119 p120 q120
                  cases e120
                  replace p120 := eq_true p120
                  replace q120 := eq_true q120
                  have p121 : 0 ≤ (t119 : Int) := of_decide_eq_true (by first | (with_reducible assumption) | assumption)
                  have q121 : t119 < (l1.length : Int) := of_decide_eq_true (by first | (with_reducible assumption) | assumption)
                  obtain ⟨ad121, e121, hx121_0⟩ := Kd.at_int HR1.out t119 p121 q121
                  cases e121
                  replace p121 := eq_true p121
                  replace q121 := eq_true q121
                  go_wp2
                  repeat (go_quiet (fail); try go_wp2)
                  go_ret
                  exact ⟨by first | rfl | (simp; done) | (simp [*]; done), by repeat (first | exact Drawn0.refl _ | apply Drawn0.step)⟩
                · rw [if_neg c11] at H
                  have c11b0 : decide ((rd l0 t119) < (rd l1 t119)) = false := decide_eq_false c11
                  clear c11
                  obtain rfl := Option.some.inj H
                  have p120 : 0 ≤ (t119 : Int) := of_decide_eq_true (by first | (with_reducible assumption) | assumption)
                  have q120 : t119 < (l0.length : Int) := of_decide_eq_true (by first | (with_reducible assumption) | assumption)
                  obtain ⟨ad120, e120, hx120_0⟩ := Kd.at_int HR0.out t119 p120 q120
                  cases e120
                  replace p120 := eq_true p120
                  replace q120 := eq_true q120
                  have p121 : 0 ≤ (t119 : Int) := of_decide_eq_true (by first | (with_reducible assumption) | assumption)
                  have q121 : t119 < (l1.length : Int) := of_decide_eq_true (by first | (with_reducible assumption) | assumption)
                  obtain ⟨ad121, e121, hx121_0⟩ := Kd.at_int HR1.out t119 p121 q121
                  cases e121
                  replace p121 := eq_true p121
                  replace q121 := eq_true q121
                  go_wp2
                  repeat (go_quiet (fail); try go_wp2)
                  go_ret
                  exact ⟨by first | rfl | (simp; done) | (simp [*]; done), by repeat (first | exact Drawn0.refl _ | apply Drawn0.step)⟩
              · rw [if_neg c10] at H
                exact absurd H (by simp)
            · rw [if_neg c9] at H
              exact absurd H (by simp)
          · rw [if_neg c8] at H
            have c8b0 : decide (t119 < (l1.length : Int)) = false := decide_eq_false c8
            clear c8
            obtain rfl := Option.some.inj H
            go_wp2
            repeat (go_quiet (fail); try go_wp2)
            go_ret
            exact ⟨by first | rfl | (simp; done) | (simp [*]; done), by repeat (first | exact Drawn0.refl _ | apply Drawn0.step)⟩

/-! ### octet_Within: function 21 -/
def octet_Within.f (k : Nat) (l0 : List Int) (l1_0 : List Int) (l1_1 : List Int) (a1_2 : Bool) : Option (Bool) := (octet_Compare.f k l1_0 l0).bind fun t123 => (if t123 ≤ 0 then (if a1_2 = true then (some true) else ((octet_Compare.f k l0 l1_1).bind fun t124 => (some (decide (t124 < 0))))) else (some false))
theorem octet_Within.mono : ∀ a0 a1 a2 a3 k, LeO (octet_Within.f k a0 a1 a2 a3) (octet_Within.f (k + 1) a0 a1 a2 a3) := by
  intro a0 a1 a2 a3 k
  unfold octet_Within.f
  repeat' first
      | (with_reducible exact octet_Compare.mono _ _ _)
      | (with_reducible exact LeO.refl _)
      | (with_reducible exact LeO.none _)
      | (with_reducible refine LeO.ite ?_ ?_)
      | (with_reducible refine LeO.bind ?_ (fun _ => ?_))
      | exact octet_Compare.mono _ _ _
      | exact LeO.none _
      | refine LeO.ite ?_ ?_
      | refine LeO.bind ?_ (fun _ => ?_)
set_option maxHeartbeats 8000000 in
set_option maxRecDepth 100000 in
theorem octet_Within.calls (k : Nat) (A0 : Option Addr) (c0 : Nat) (l0 : List Int) (A1_0 : Option Addr) (c1_0 : Nat) (l1_0 : List Int) (A1_1 : Option Addr) (c1_1 : Nat) (l1_1 : List Int) (a1_2 : Bool) (r : Bool) (w : World) (hr0 : Kd.C (Kd.int .u8) w A0 l0.length l0) (hc0 : l0.length ≤ c0) (hr1_0 : Kd.C (Kd.int .u8) w A1_0 l1_0.length l1_0) (hc1_0 : l1_0.length ≤ c1_0) (hr1_1 : Kd.C (Kd.int .u8) w A1_1 l1_1.length l1_1) (hc1_1 : l1_1.length ≤ c1_1) (h : octet_Within.f k l0 l1_0 l1_1 a1_2 = some r) :
    Calls Tryd.prog 21 #[.slice A0 l0.length c0, .agg #[.slice A1_0 l1_0.length c1_0, .slice A1_1 l1_1.length c1_1, .bool a1_2]] w fun e w' => e = .returned (.bool r) ∧ Below w.heap.size w w' := by
  have hu29 := Tryd.underlying29
  have HR0 := Aside0.mk hr0
  have HC0 := Aside0.mk hc0
  clear hr0 hc0
  have HR1_0 := Aside0.mk hr1_0
  have HC1_0 := Aside0.mk hc1_0
  clear hr1_0 hc1_0
  have HR1_1 := Aside0.mk hr1_1
  have HC1_1 := Aside0.mk hc1_1
  clear hr1_1 hc1_1
  have HB := Aside0.mk (Below.refl w.heap.size w)
  have H : ((octet_Compare.f k l1_0 l0).bind fun t123 => (if t123 ≤ 0 then (if a1_2 = true then (some true) else ((octet_Compare.f k l0 l1_1).bind fun t124 => (some (decide (t124 < 0))))) else (some false))) = some r := h
  clear h
  replace H := Option.bind_eq_some_iff.mp H
  obtain ⟨t123, A30, H⟩ := H
  replace H : (if t123 ≤ 0 then (if a1_2 = true then (some true) else ((octet_Compare.f k l0 l1_1).bind fun t124 => (some (decide (t124 < 0))))) else (some false)) = some r := H
  have A3 := Aside0.mk A30
  clear A30
  by_cases c4 : t123 ≤ 0
  · rw [if_pos c4] at H
    have c4b0 : decide (t123 ≤ 0) = true := decide_eq_true c4
    clear c4
    by_cases c5 : a1_2 = true
    · subst c5
      have H1 : (some true) = some r := by rw [if_pos rfl] at H; exact H
      clear H
      have H := H1
      clear H1
      obtain rfl := Option.some.inj H
      go_enter Tryd.func21, Tryd.ntmps21
      go_wp2_with (first | ((with_reducible refine gate_dst (N := 3) rfl ?_); refine box_event ?hg (N := 3) ?hd (cs := #[.slice A1_0 l1_0.length c1_0, .slice A1_1 l1_1.length c1_1, .bool true]) (t := 29) ?hr ?_; (case hd => rfl); (case hg => rfl); (case hr => first | (go_simp; done) | (go_simp; rfl)); intro gb122 hg w6 hbox hb; have n0_ := Aside0.mk (below_step (by repeat (first | (with_reducible first | exact HB.out | apply below_alloc | apply pw_below_drewN | apply below_drew1) | exact HB.out)) hb); have n1_ := Aside0.mk (hbox); have n2_ := Aside0.mk ((by rw [hg]; exact (below_size (by repeat (first | (with_reducible first | exact HB.out | apply below_alloc | apply pw_below_drewN | apply below_drew1) | exact HB.out))) : w.heap.size ≤ gb122)); have n3_ := Aside0.mk ((by rw [hg]; exact (below_size (by repeat (first | (with_reducible first | exact HB.out | apply below_alloc | apply pw_below_drewN | apply below_drew1) | exact HB.out))) : w.heap.size ≤ gb122)); clear HB; have HB := n0_; have BK122 := n1_; have GW122 := n2_; have GE122 := n3_; clear n0_ n1_ n2_ n3_; clear hb hbox hg; have hcz7_0 : w6.cell? ⟨gb122, 0, none⟩ = some (.slice A1_0 l1_0.length c1_0) := (blk_cell BK122.out 0).trans rfl; have hcz7_1 : w6.cell? ⟨gb122, 1, none⟩ = some (.slice A1_1 l1_1.length c1_1) := (blk_cell BK122.out 1).trans rfl; have hcz7_2 : w6.cell? ⟨gb122, 2, none⟩ = some (.bool true) := (blk_cell BK122.out 2).trans rfl; have hfz7_0 := blk_frozen BK122.out 0; have hfz7_1 := blk_frozen BK122.out 1; have hfz7_2 := blk_frozen BK122.out 2) | ((with_reducible refine gate_callee (f := 12) rfl ?_); refine goesL_ (some 8) rfl rfl Tryd.func12 (by kernel_rfl) rfl #[.slice A1_0 l1_0.length c1_0, .slice A0 l0.length c0] rfl (by (try simp only [List.map_toArray, List.map_cons, List.map_nil]); first | done | rfl | (simp only [List.length_drop, List.length_take]; rfl)) ?_; (with_reducible refine (octet_Compare.calls k _ _ l1_0 _ _ l0 t123 _ ?side1 ?side2 ?side3 ?side4 A3.out).mono ?_); (case side1 => repeat (first | exact (Kd.C_below HR1_0.out HB.out) | (with_reducible refine Kd.C_alloc ?_ _) | (with_reducible refine Kd.C_drewN ?_ _) | (with_reducible refine Kd.C_drew ?_))); (case side2 => exact HC1_0.out); (case side3 => repeat (first | exact (Kd.C_below HR0.out HB.out) | (with_reducible refine Kd.C_alloc ?_ _) | (with_reducible refine Kd.C_drewN ?_ _) | (with_reducible refine Kd.C_drew ?_))); (case side4 => exact HC0.out); rintro e w' ⟨rfl, ⟨nd, rfl⟩⟩; refine ⟨_, rfl, ?_⟩))
      go_ret
      exact ⟨by first | rfl | (simp [errW_none, errW_some] <;> rfl) | (simp [*, errW_none, errW_some] <;> rfl), by repeat (first | (with_reducible first | exact HB.out | apply below_alloc | apply pw_below_drewN | apply below_drew1 | refine below_set ?_ GE122.out) | exact HB.out)⟩
    · replace c5 := Bool.eq_false_iff.mpr c5
      subst c5
      have H1 : ((octet_Compare.f k l0 l1_1).bind fun t124 => (some (decide (t124 < 0)))) = some r := by rw [if_neg (show ¬ (false = true) by decide)] at H; exact H
      clear H
      have H := H1
      clear H1
      replace H := Option.bind_eq_some_iff.mp H
      obtain ⟨t124, A80, H⟩ := H
      replace H : (some (decide (t124 < 0))) = some r := H
      have A8 := Aside0.mk A80
      clear A80
      obtain rfl := Option.some.inj H
      go_enter Tryd.func21, Tryd.ntmps21
      go_wp2_with (first | ((with_reducible refine gate_dst (N := 3) rfl ?_); refine box_event ?hg (N := 3) ?hd (cs := #[.slice A1_0 l1_0.length c1_0, .slice A1_1 l1_1.length c1_1, .bool false]) (t := 29) ?hr ?_; (case hd => rfl); (case hg => rfl); (case hr => first | (go_simp; done) | (go_simp; rfl)); intro gb122 hg w9 hbox hb; have n0_ := Aside0.mk (below_step (by repeat (first | (with_reducible first | exact HB.out | apply below_alloc | apply pw_below_drewN | apply below_drew1) | exact HB.out)) hb); have n1_ := Aside0.mk (hbox); have n2_ := Aside0.mk ((by rw [hg]; exact (below_size (by repeat (first | (with_reducible first | exact HB.out | apply below_alloc | apply pw_below_drewN | apply below_drew1) | exact HB.out))) : w.heap.size ≤ gb122)); have n3_ := Aside0.mk ((by rw [hg]; exact (below_size (by repeat (first | (with_reducible first | exact HB.out | apply below_alloc | apply pw_below_drewN | apply below_drew1) | exact HB.out))) : w.heap.size ≤ gb122)); clear HB; have HB := n0_; have BK122 := n1_; have GW122 := n2_; have GE122 := n3_; clear n0_ n1_ n2_ n3_; clear hb hbox hg; have hcz10_0 : w9.cell? ⟨gb122, 0, none⟩ = some (.slice A1_0 l1_0.length c1_0) := (blk_cell BK122.out 0).trans rfl; have hcz10_1 : w9.cell? ⟨gb122, 1, none⟩ = some (.slice A1_1 l1_1.length c1_1) := (blk_cell BK122.out 1).trans rfl; have hcz10_2 : w9.cell? ⟨gb122, 2, none⟩ = some (.bool false) := (blk_cell BK122.out 2).trans rfl; have hfz10_0 := blk_frozen BK122.out 0; have hfz10_1 := blk_frozen BK122.out 1; have hfz10_2 := blk_frozen BK122.out 2) | ((with_reducible refine gate_callee (f := 12) rfl ?_); refine goesL_ (some 8) rfl rfl Tryd.func12 (by kernel_rfl) rfl #[.slice A1_0 l1_0.length c1_0, .slice A0 l0.length c0] rfl (by (try simp only [List.map_toArray, List.map_cons, List.map_nil]); first | done | rfl | (simp only [List.length_drop, List.length_take]; rfl)) ?_; (with_reducible refine (octet_Compare.calls k _ _ l1_0 _ _ l0 t123 _ ?side1 ?side2 ?side3 ?side4 A3.out).mono ?_); (case side1 => repeat (first | exact (Kd.C_below HR1_0.out HB.out) | (with_reducible refine Kd.C_alloc ?_ _) | (with_reducible refine Kd.C_drewN ?_ _) | (with_reducible refine Kd.C_drew ?_))); (case side2 => exact HC1_0.out); (case side3 => repeat (first | exact (Kd.C_below HR0.out HB.out) | (with_reducible refine Kd.C_alloc ?_ _) | (with_reducible refine Kd.C_drewN ?_ _) | (with_reducible refine Kd.C_drew ?_))); (case side4 => exact HC0.out); rintro e w' ⟨rfl, ⟨nd, rfl⟩⟩; refine ⟨_, rfl, ?_⟩) | (go_at_call 12; (with_reducible refine (octet_Compare.calls k _ _ l0 _ _ l1_1 t124 _ ?side1 ?side2 ?side3 ?side4 A8.out).mono ?_); (case side1 => repeat (first | exact (Kd.C_below HR0.out (by repeat (first | (with_reducible first | exact HB.out | apply below_alloc | apply pw_below_drewN | apply below_drew1 | refine below_set ?_ GE122.out) | exact HB.out))) | (with_reducible refine Kd.C_alloc ?_ _) | (with_reducible refine Kd.C_drewN ?_ _) | (with_reducible refine Kd.C_drew ?_))); (case side2 => exact HC0.out); (case side3 => repeat (first | exact (Kd.C_below HR1_1.out (by repeat (first | (with_reducible first | exact HB.out | apply below_alloc | apply pw_below_drewN | apply below_drew1 | refine below_set ?_ GE122.out) | exact HB.out))) | (with_reducible refine Kd.C_alloc ?_ _) | (with_reducible refine Kd.C_drewN ?_ _) | (with_reducible refine Kd.C_drew ?_))); (case side4 => exact HC1_1.out); rintro e w' ⟨rfl, ⟨nd, rfl⟩⟩))
      go_ret
      exact ⟨by first | rfl | (simp [errW_none, errW_some] <;> rfl) | (simp [*, errW_none, errW_some] <;> rfl), by repeat (first | (with_reducible first | exact HB.out | apply below_alloc | apply pw_below_drewN | apply below_drew1 | refine below_set ?_ GE122.out) | exact HB.out)⟩
  · rw [if_neg c4] at H
    have c4b0 : decide (t123 ≤ 0) = false := decide_eq_false c4
    clear c4
    obtain rfl := Option.some.inj H
    go_enter Tryd.func21, Tryd.ntmps21
    go_wp2_with (first | ((with_reducible refine gate_dst (N := 3) rfl ?_); refine box_event ?hg (N := 3) ?hd (cs := #[.slice A1_0 l1_0.length c1_0, .slice A1_1 l1_1.length c1_1, .bool a1_2]) (t := 29) ?hr ?_; (case hd => rfl); (case hg => rfl); (case hr => first | (go_simp; done) | (go_simp; rfl)); intro gb122 hg w11 hbox hb; have n0_ := Aside0.mk (below_step (by repeat (first | (with_reducible first | exact HB.out | apply below_alloc | apply pw_below_drewN | apply below_drew1) | exact HB.out)) hb); have n1_ := Aside0.mk (hbox); have n2_ := Aside0.mk ((by rw [hg]; exact (below_size (by repeat (first | (with_reducible first | exact HB.out | apply below_alloc | apply pw_below_drewN | apply below_drew1) | exact HB.out))) : w.heap.size ≤ gb122)); have n3_ := Aside0.mk ((by rw [hg]; exact (below_size (by repeat (first | (with_reducible first | exact HB.out | apply below_alloc | apply pw_below_drewN | apply below_drew1) | exact HB.out))) : w.heap.size ≤ gb122)); clear HB; have HB := n0_; have BK122 := n1_; have GW122 := n2_; have GE122 := n3_; clear n0_ n1_ n2_ n3_; clear hb hbox hg; have hcz12_0 : w11.cell? ⟨gb122, 0, none⟩ = some (.slice A1_0 l1_0.length c1_0) := (blk_cell BK122.out 0).trans rfl; have hcz12_1 : w11.cell? ⟨gb122, 1, none⟩ = some (.slice A1_1 l1_1.length c1_1) := (blk_cell BK122.out 1).trans rfl; have hcz12_2 : w11.cell? ⟨gb122, 2, none⟩ = some (.bool a1_2) := (blk_cell BK122.out 2).trans rfl; have hfz12_0 := blk_frozen BK122.out 0; have hfz12_1 := blk_frozen BK122.out 1; have hfz12_2 := blk_frozen BK122.out 2) | ((with_reducible refine gate_callee (f := 12) rfl ?_); refine goesL_ (some 8) rfl rfl Tryd.func12 (by kernel_rfl) rfl #[.slice A1_0 l1_0.length c1_0, .slice A0 l0.length c0] rfl (by (try simp only [List.map_toArray, List.map_cons, List.map_nil]); first | done | rfl | (simp only [List.length_drop, List.length_take]; rfl)) ?_; (with_reducible refine (octet_Compare.calls k _ _ l1_0 _ _ l0 t123 _ ?side1 ?side2 ?side3 ?side4 A3.out).mono ?_); (case side1 => repeat (first | exact (Kd.C_below HR1_0.out HB.out) | (with_reducible refine Kd.C_alloc ?_ _) | (with_reducible refine Kd.C_drewN ?_ _) | (with_reducible refine Kd.C_drew ?_))); (case side2 => exact HC1_0.out); (case side3 => repeat (first | exact (Kd.C_below HR0.out HB.out) | (with_reducible refine Kd.C_alloc ?_ _) | (with_reducible refine Kd.C_drewN ?_ _) | (with_reducible refine Kd.C_drew ?_))); (case side4 => exact HC0.out); rintro e w' ⟨rfl, ⟨nd, rfl⟩⟩; refine ⟨_, rfl, ?_⟩))
    go_ret
    exact ⟨by first | rfl | (simp [errW_none, errW_some] <;> rfl) | (simp [*, errW_none, errW_some] <;> rfl), by repeat (first | (with_reducible first | exact HB.out | apply below_alloc | apply pw_below_drewN | apply below_drew1 | refine below_set ?_ GE122.out) | exact HB.out)⟩

end Go.Proofs.YthiedcebneejjaaDoor.A
set_option linter.unusedVariables false
set_option linter.unusedSimpArgs false
namespace Go.Proofs.YthiedcebneejjaaDoor.Hand
open Go.RowKit Go.Proofs.YthiedcebneejjaaDoorW.PrintWords Go.Proofs.YthiedcebneejjaaDoorW.PrintLast Go.Proofs.YthiedcebneejjaaDoorW.PrintMore
open Go.Proofs.YthiedcebneejjaaDoor.A

/-- a digit's byte -/
def digC (n : Int) : Int := if n < 10 then 48 + n else 87 + n
/-- The table of digits lies where the program keeps it. -/
structure Glob (w : World) : Prop where
  at_ : w.rangeAt 0 0 ((List.range 16).map fun i : Nat => Value.int .u8 (digC (i : Int)))
theorem Glob.cell {w : World} (h : Glob w) (i : Int) (h0 : 0 ≤ i) (h1 : i < 16) : w.cell? ⟨0, i.toNat, none⟩ = some (.int .u8 (digC i)) := by
  have := h.at_ i.toNat (.int .u8 (digC i)) (by
    have hl : i.toNat < 16 := by omega
    simp [hl, Int.toNat_of_nonneg h0])
  simpa using this
theorem Glob.lt {w : World} (h : Glob w) : 0 < w.heap.size := by
  have := World.block_lt_of_cell? w _ (h.cell 0 (by omega) (by omega))
  simpa using this
theorem Glob.of_below {w w' : World} (h : Glob w) (hb : Below w.heap.size w w') : Glob w' := ⟨fun j v hv => by
  have h1 := h.at_ j v hv
  rw [hb.cell (p := ⟨0, 0 + j, none⟩) h.lt]; exact h1⟩

/-- an element of an array of one-cell elements, by value -/
theorem run_index_row {P : Program} (t e : TypeId) (n : Nat) (d : TypeDesc) (ht : P.underlying t = some (.array n e)) (he : P.underlying e = some d) (hd : d.isRow = false) (hsz : ∀ w, (sizeOf e).run P w = .ok 1 w)
    (cs : Array Value) (i : Nat) (v : Value) (hi : i < n) (hv : cs[i]? = some v) (w : World) : (Instr.index t (.agg cs) (.int .i64 i)).run P w = .ok v w := by
  have hag : ∀ w, (isAgg e).run P w = .ok false w := fun w => by
    unfold isAgg
    rw [Sem.run_bind, run_underlying he w]
    cases d <;> simp_all
  simp [Instr.index, asIntOf, Sem.run_bind, run_underlying ht, hi, part, hag, hsz, hv]
def digL : List Value := (List.range 16).map fun i : Nat => Value.int .u8 (digC (i : Int))
theorem digL_at (i : Nat) (h : i < 16) : digL.toArray[i]? = some (.int .u8 (digC (i : Int))) := by simp [digL, h]

def octet_Hex.f (k : Nat) (l0 : List Int) : Option ByteArray := (octet_Nibbles.f k l0).bind fun ns => if (∀ n ∈ ns, 0 ≤ n ∧ n < 16) ∧ ns.length ≤ 70368744177664 then some (strOfNums (ns.map digC)) else none
theorem octet_Hex.mono : ∀ a0 k, LeO (octet_Hex.f k a0) (octet_Hex.f (k + 1) a0) := fun a0 k => by
  unfold octet_Hex.f
  exact LeO.bind (octet_Nibbles.mono _ _) fun _ => LeO.refl _

theorem nums_snoc (k : IntKind) (xs : List Int) (y : Int) : nums k xs ++ [Value.int k y] = nums k (xs ++ [y]) := by simp [nums]
theorem take_map_snoc (ns : List Int) (f : Int → Int) (j : Nat) (h : j < ns.length) : (ns.take j).map f ++ [f (ns.getD j 0)] = (ns.take (j + 1)).map f := by
  rw [List.take_succ_eq_append_getElem h, List.map_append]
  simp [List.getD, h]

set_option maxHeartbeats 1000000 in
set_option maxRecDepth 100000 in
theorem octet_Hex.calls (k : Nat) (A0 : Option Addr) (c0 : Nat) (l0 : List Int) (r : ByteArray) (w : World) (hr0 : Kd.C (Kd.int .u8) w A0 l0.length l0) (hc0 : l0.length ≤ c0) (hG : Glob w) (h : octet_Hex.f k l0 = some r) :
    Calls Tryd.prog 11 #[.slice A0 l0.length c0] w fun e w' => e = .returned (.string r) ∧ Below w.heap.size w w' := by
  obtain ⟨ns, hns, hr⟩ := Option.bind_eq_some_iff.1 h
  have HN := Aside0.mk hns
  clear h hns
  by_cases hc : (∀ n ∈ ns, 0 ≤ n ∧ n < 16) ∧ ns.length ≤ 70368744177664
  case neg => rw [if_neg hc] at hr; cases hr
  rw [if_pos hc] at hr
  obtain rfl := Option.some.inj hr
  have HC := Aside0.mk hc
  have HR0 := Aside0.mk hr0
  have HC0 := Aside0.mk hc0
  have HG := Aside0.mk hG
  have hlen := hc.2
  clear hc hr hr0 hc0 hG
  go_enter Tryd.func11, Tryd.ntmps11
  go_wp2_with fail
  refine (octet_Nibbles.calls k _ _ l0 ns _ HR0.out HC0.out HN.out).mono ?_
  rintro e w1 ⟨v0, rfl, hR, hB⟩
  obtain ⟨A1, c1, rfl, hn1, hR1⟩ := Kd.R_reads hR
  have HR1 := Aside0.mk hR1
  have HB := Aside0.mk hB
  have HG1 := Aside0.mk (HG.out.of_below hB)
  clear hR hR1 hB
  go_wp2
  go_loopw [3, 5, 9] (fun v _ i wr => ∃ (j : Nat) (vv : Value), j ≤ ns.length ∧ vv = v ∧ i = .int .i64 j ∧ wr.ownsRow w1.heap.size 5 1 vv ((ns.take j).map digC).length (nums .u8 ((ns.take j).map digC)) ∧ Below w1.heap.size w1 wr)
    (fun _ _ i _ => ns.length - (intOf i).toNat)
  case atStart => exact ⟨0, _, by omega, rfl, rfl, own_nil _ _ _ _, Below.refl _ _⟩
  case round =>
    obtain ⟨j, vv, hj, rfl, rfl, hO, hBr⟩ := hrel
    have HO := Aside0.mk hO
    have HBr := Aside0.mk hBr
    clear hO hBr
    by_cases hlt : j < ns.length
    · have hrd := HC.out.1 (rd ns j) (by unfold rd; simp [List.getD, hlt])
      obtain ⟨ad, hA, hx⟩ := Kd.at_int (Kd.C_below HR1.out HBr.out) (j : Int) (by omega) (by exact_mod_cast hlt)
      subst hA
      obtain ⟨x, hx0⟩ : ∃ x, x = rd ns j := ⟨_, rfl⟩
      rw [← hx0] at hx hrd
      rw [Int.toNat_natCast] at hx
      have hgc := (HG1.out.of_below HBr.out).cell x hrd.1 hrd.2
      obtain ⟨hrd0, hrd1⟩ := hrd
      have HX0 := Aside0.mk hx0
      clear hx0
      go_wp2_with (at_builtin; refine print_append_num w1.heap.size rfl _ _ 22 5 .u8 1 rfl Tryd.underlying22 info5 (by omega) vv _ (digC x) rfl rfl HO.out HBr.out (below_size HBr.out) ?hl ?_; (case hl => simp; omega); intro v2 w2 hO2 hB2 hg2 hat2; clear hg2 hat2)
      go_wp2
      go_roundw
      case rel => exact ⟨j + 1, _, by omega, rfl, by go_num, by rw [← take_map_snoc ns digC j hlt]; rw [HX0.out] at hO2; exact hO2, hB2⟩
      case measure => simp [intOf]; omega
    · obtain rfl : j = ns.length := by omega
      have hcv := own_string (P := Tryd.prog) (src := 22) (dst := 9) Tryd.underlying22 Tryd.underlying5 Tryd.underlying9 HO.out
      rw [List.take_of_length_le (Nat.le_refl _)] at hcv
      go_wp2
      go_ret
      exact ⟨rfl, below_step HB.out HBr.out⟩

/-- what the inner loop has found among the first m digits -/
def hexUpto (c : Int) : Nat → Int
  | 0 => -1
  | m + 1 => if digC m = c then (m : Int) else hexUpto c m
/-- a byte's number as a digit, -1 if it is none -/
def hexd (c : Int) : Int := if 48 ≤ c ∧ c ≤ 57 then c - 48 else if 97 ≤ c ∧ c ≤ 102 then c - 87 else -1
theorem hexUpto_16 (c : Int) : hexUpto c 16 = hexd c := by
  unfold hexd
  simp only [hexUpto, digC]
  repeat' split
  all_goals omega
theorem hexd_lt (c : Int) : hexd c < 16 := by unfold hexd; repeat' split; all_goals omega
theorem bytesOf_getD (s : ByteArray) (j : Nat) (h : j < s.size) : (bytesOf s).getD j 0 = ((s[j]).toNat : Int) := by
  have hl : j < (bytesOf s).length := by rw [bytesOf_length]; exact h
  rw [List.getD, List.getElem?_eq_getElem hl]
  simp [bytesOf]
  rfl
theorem bytesOf_take_snoc (s : ByteArray) (j : Nat) (h : j < s.size) : (bytesOf s).take (j + 1) = (bytesOf s).take j ++ [((s[j]).toNat : Int)] := by
  have hl : j < (bytesOf s).length := by rw [bytesOf_length]; exact h
  rw [List.take_succ_eq_append_getElem hl, ← bytesOf_getD s j h, List.getD, List.getElem?_eq_getElem hl]; rfl
def octet_Unhex.f (k : Nat) (s : ByteArray) : Option (List Int × Int) :=
  if s.size ≤ 70368744177664 then
    if ∀ c ∈ bytesOf s, 0 ≤ hexd c then (octet_Bytes.f k ((bytesOf s).map hexd)).bind fun r => if r.2 = 0 then some (r.1, 0) else some ([], 10)
    else some ([], 10)
  else none
theorem octet_Unhex.mono : ∀ a0 k, LeO (octet_Unhex.f k a0) (octet_Unhex.f (k + 1) a0) := fun a0 k => by
  unfold octet_Unhex.f
  refine LeO.ite (LeO.ite (LeO.bind (octet_Bytes.mono _ _) fun _ => LeO.refl _) (LeO.refl _)) (LeO.refl _)

set_option maxHeartbeats 1000000 in
set_option maxRecDepth 100000 in
theorem octet_Unhex.calls (k : Nat) (a0 : ByteArray) (r1 : List Int) (r2 : Int) (w : World) (hG : Glob w) (h : octet_Unhex.f k a0 = some (r1, r2)) :
    Calls Tryd.prog 8 #[.string a0] w fun e w' => ∃ v0_ : Value, e = .returned (.tuple #[v0_, .int .i64 r2]) ∧ Kd.R (Kd.int .u8) 5 w' w.heap.size (fun _ => True) v0_ r1 ∧ Below w.heap.size w w' := by
  unfold octet_Unhex.f at h
  by_cases hsz : a0.size ≤ 70368744177664
  case neg => rw [if_neg hsz] at h; cases h
  rw [if_pos hsz] at h
  have H := Aside0.mk h
  have HG := Aside0.mk hG
  clear h hG
  go_enter Tryd.func8, Tryd.ntmps8
  go_wp2
  go_loopw [4, 5, 6, 7, 8, 13] (fun v _ _ _ _ i wr => ∃ (j : Nat) (vv : Value), j ≤ a0.size ∧ vv = v ∧ i = .int .i64 j ∧ (∀ c ∈ (bytesOf a0).take j, 0 ≤ hexd c) ∧ wr.ownsRow w.heap.size 5 1 vv (((bytesOf a0).take j).map hexd).length (nums .u8 (((bytesOf a0).take j).map hexd)) ∧ Below w.heap.size w wr)
    (fun _ _ _ _ _ i _ => a0.size - (intOf i).toNat)
  case atStart => exact ⟨0, _, by omega, rfl, rfl, by simp, own_nil _ _ _ _, Below.refl _ _⟩
  case round =>
    obtain ⟨j, vv, hj, rfl, rfl, hall, hO, hBr⟩ := hrel
    have HO := Aside0.mk hO
    have HBr := Aside0.mk hBr
    have HA := Aside0.mk hall
    clear hO hBr hall
    by_cases hlt : j < a0.size
    · have HT : Aside0 (wr.rangeAt 0 0 digL) := Aside0.mk (HG.out.of_below HBr.out).at_
      have hi46 : (Tryd.prog.info? 46).map (·.size) = some digL.length := by kernel_rfl
      have HI := Aside0.mk hi46
      clear hi46
      obtain ⟨c, hcv⟩ : ∃ c : Int, c = ((a0[j]).toNat : Int) := ⟨_, rfl⟩
      have HCV := Aside0.mk hcv
      clear hcv
      go_wp2_with (with_reducible refine gate_dst (N := 16) rfl ?_; refine wpList_load_mid rfl 46 _ rfl 0 0 rfl _ _ HT.out Tryd.underlying46 rfl HI.out ?_)
      go_loopw [6, 7, 8, 17] (fun n _ _ q wq => ∃ m : Nat, m ≤ 16 ∧ q = .int .i64 m ∧ n = .int .i64 (hexUpto c m) ∧ wq = wr) (fun _ _ _ q _ => 16 - (intOf q).toNat)
      case atStart => exact ⟨0, by omega, rfl, rfl, rfl⟩
      case round =>
        obtain ⟨m, hm, rfl, rfl, rfl⟩ := hrel
        by_cases hm16 : m < 16
        · have hix := run_index_row (P := Tryd.prog) 46 5 16 _ Tryd.underlying46 Tryd.underlying5 rfl (fun w => by kernel_rfl) digL.toArray m _ hm16 (digL_at m hm16) wr
          by_cases hdc : digC m = c
          · have hb : ((digC m == ((a0[j]).toNat : Int))) = true := by rw [beq_iff_eq, ← HCV.out]; exact hdc
            have HDC := Aside0.mk hdc
            clear hdc
            go_wp2
            go_roundw
            case rel => exact ⟨m + 1, by omega, by go_num, by rw [hexUpto, if_pos HDC.out]; exact ⟨rfl, trivial⟩⟩
            case measure => simp [intOf]; omega
          · have hb : ((digC m == ((a0[j]).toNat : Int))) = false := by rw [beq_eq_false_iff_ne, ← HCV.out]; exact hdc
            have HDC := Aside0.mk hdc
            clear hdc
            go_wp2
            go_roundw
            case rel => exact ⟨m + 1, by omega, by go_num, by rw [hexUpto, if_neg HDC.out]; exact ⟨rfl, trivial⟩⟩
            case measure => simp [intOf]; omega
        · obtain rfl : m = 16 := by omega
          rw [hexUpto_16]
          obtain ⟨x, hx⟩ : ∃ x, x = hexd c := ⟨_, rfl⟩
          have hx16 := hexd_lt c
          rw [← hx] at hx16 ⊢
          have HX := Aside0.mk hx
          clear hx
          by_cases hneg : x < 0
          · go_wp2
            go_ret2
            have h := H.out
            rw [if_neg (fun hall => by
              have := hall c (by rw [HCV.out, ← bytesOf_getD a0 j hlt, List.getD]; rw [List.getElem?_eq_getElem (show j < (bytesOf a0).length by rw [bytesOf_length]; exact hlt)]; exact List.getElem_mem _)
              rw [← HX.out] at this; omega)] at h
            simp only [Option.some.injEq, Prod.mk.injEq] at h
            obtain ⟨rfl, rfl⟩ := h
            exact ⟨_, rfl, Kd.R_nil _ _ _ _ _, HBr.out⟩
          · have hx0 : 0 ≤ x := by omega
            go_wp2_with (at_builtin; refine print_append_num w.heap.size rfl _ _ 22 5 .u8 1 rfl Tryd.underlying22 info5 (by omega) vv _ x rfl rfl HO.out HBr.out (below_size HBr.out) ?hl ?_; (case hl => simp [bytesOf_length]; omega); intro v2 w2 hO2 hB2 hg2 hat2; clear hg2 hat2)
            go_wp2
            go_roundw
            case rel =>
              have e1 := bytesOf_take_snoc a0 j hlt
              refine ⟨j + 1, _, by omega, rfl, by go_num, ?_, ?_, hB2⟩
              · intro c' hc'
                rw [e1] at hc'
                rcases List.mem_append.1 hc' with h1 | h1
                · exact HA.out c' h1
                · rw [List.mem_singleton.1 h1, ← HCV.out, ← HX.out]; exact hx0
              · rw [e1, List.map_append, List.map_cons, List.map_nil, ← HCV.out, ← HX.out]; exact hO2
            case measure => simp [intOf]; omega
    · obtain rfl : j = a0.size := by omega
      have et : (bytesOf a0).take a0.size = bytesOf a0 := List.take_of_length_le (by rw [bytesOf_length]; omega)
      have hall := HA.out
      rw [et] at hall
      have h := H.out
      rw [if_pos hall] at h
      obtain ⟨⟨b1, b2⟩, hb, hr⟩ := Option.bind_eq_some_iff.1 h
      have hO := HO.out
      rw [et] at hO
      obtain ⟨L, hL⟩ : ∃ L, L = (bytesOf a0).map hexd := ⟨_, rfl⟩
      rw [← hL] at hO hb
      clear hL
      obtain ⟨A1, c1, ev, hle, hrd⟩ := own_reads_of_le (enc := Value.int .u8) (d := (0 : Int)) (xs := L) hO
      subst ev
      have HBB := Aside0.mk hb
      have HRR := Aside0.mk hr
      have HCC := Aside0.mk (Kd.C_of_reads (h1 := fun _ => rfl) hrd)
      have HLE := Aside0.mk hle
      clear h hb hr hO hrd hle hall et
      go_wp2_with fail
      refine (octet_Bytes.calls k _ _ _ b1 b2 _ HCC.out HLE.out HBB.out).mono ?_
      rintro e w1 ⟨v0, rfl, hR, hB⟩
      have HR := Aside0.mk hR
      have HB := Aside0.mk hB
      clear hR hB
      by_cases h0 : b2 = 0
      · have hb2 : (b2 != 0) = false := by simp [h0]
        have H0 := Aside0.mk h0
        clear h0
        go_wp2
        go_ret2
        have hr := HRR.out
        rw [if_pos H0.out] at hr
        simp only [Option.some.injEq, Prod.mk.injEq] at hr
        obtain ⟨rfl, rfl⟩ := hr
        exact ⟨_, rfl, Kd.R_lower HR.out (below_size HBr.out), below_step HBr.out HB.out⟩
      · have hb2 : (b2 != 0) = true := by simp [h0]
        have H0 := Aside0.mk h0
        clear h0
        go_wp2
        go_ret2
        have hr := HRR.out
        rw [if_neg H0.out] at hr
        simp only [Option.some.injEq, Prod.mk.injEq] at hr
        obtain ⟨rfl, rfl⟩ := hr
        exact ⟨_, rfl, Kd.R_nil _ _ _ _ _, below_step HBr.out HB.out⟩

end Go.Proofs.YthiedcebneejjaaDoor.Hand
set_option linter.unusedVariables false
set_option linter.unusedSimpArgs false
namespace Go.Proofs.YthiedcebneejjaaDoor.Hand
open Go.RowKit Go.Proofs.YthiedcebneejjaaDoorW.PrintWords
open Go.Proofs.YthiedcebneejjaaDoor.A

/-- bytes -/
def BL (l : List Int) : Prop := ∀ x ∈ l, 0 ≤ x ∧ x ≤ 255
def nibs (l : List Int) : List Int := l.flatMap fun x => [x / 16, x % 16]
theorem nibs_nil : nibs [] = [] := rfl
theorem nibs_cons (x : Int) (l : List Int) : nibs (x :: l) = x / 16 :: x % 16 :: nibs l := rfl
theorem nibs_length (l : List Int) : (nibs l).length = 2 * l.length := by
  induction l with
  | nil => rfl
  | cons x l ih => rw [nibs_cons, List.length_cons, List.length_cons, ih, List.length_cons]; omega
theorem wrap64_nat (n : Nat) (h : n ≤ 4294967296) : wrap64 (n : Int) = n := by unfold wrap64; omega
theorem wrap64_in (x : Int) (h0 : -4294967296 ≤ x) (h1 : x ≤ 4294967296) : wrap64 x = x := by unfold wrap64; omega
theorem rd_nat (l : List Int) (i : Nat) (h : i < l.length) : rd l (i : Int) = l[i] := by simp [rd, List.getD, h]
theorem drop_cons (l : List Int) (i : Nat) (h : i < l.length) : l.drop i = l[i] :: l.drop (i + 1) := List.drop_eq_getElem_cons h

theorem nib_loop (l : List Int) (hb : BL l) (hl : l.length ≤ 1073741824) : ∀ (d i : Nat) (acc : List Int), i + d = l.length → acc.length = 2 * i →
    Ev (fun k => octet_Nibbles.l0 k acc l l.length i) (acc ++ nibs (l.drop i)) := by
  intro d
  induction d with
  | zero =>
    intro i acc hi ha
    refine Ev.step (f := fun _ => some (acc ++ nibs (l.drop i))) (fun k => ?_) (Ev.now _)
    simp only [octet_Nibbles.l0]
    rw [if_neg (by omega), List.drop_of_length_le (by omega), nibs_nil, List.append_nil]
  | succ d ih =>
    intro i acc hi ha
    have hlt : i < l.length := by omega
    have h1 := ih (i + 1) (acc ++ [l[i] / 16, l[i] % 16]) (by omega) (by simp; omega)
    rw [List.append_assoc] at h1
    rw [drop_cons l i hlt, nibs_cons]
    refine Ev.step (fun k => ?_) h1
    have hx := hb l[i] (List.getElem_mem _)
    simp only [octet_Nibbles.l0, Option.bind_some]
    rw [if_pos (by omega), if_pos (by omega), if_pos (by omega), rd_nat l i hlt, u8_and15 _ hx.1 (by omega), if_pos (by simp; omega), wrap64_in _ (by omega) (by omega)]
    rfl
theorem nib_ev (l : List Int) (hb : BL l) (hl : l.length ≤ 1073741824) : Ev (fun k => octet_Nibbles.f k l) (nibs l) := by
  have h := nib_loop l hb hl l.length 0 [] (by omega) rfl
  refine Ev.congr (fun k => ?_) h
  unfold octet_Nibbles.f
  rw [wrap64_in _ (by omega) (by omega), if_pos (by omega), if_pos (by omega)]
  rfl

/-! ### Bytes -/
def pairs : List Int → List Int
  | a :: b :: r => (16 * a + b) :: pairs r
  | _ => []
theorem pairs_nibs (l : List Int) : pairs (nibs l) = l := by
  induction l with
  | nil => rfl
  | cons x l ih => rw [nibs_cons, pairs, ih]; congr 1; omega
def NL (l : List Int) : Prop := ∀ x ∈ l, 0 ≤ x ∧ x ≤ 15
theorem nibs_NL (l : List Int) (h : BL l) : NL (nibs l) := by
  induction l with
  | nil => intro x hx; cases hx
  | cons y l ih =>
    intro x hx
    have hy := h y (List.mem_cons_self ..)
    rw [nibs_cons] at hx
    rcases List.mem_cons.1 hx with rfl | hx
    · omega
    · rcases List.mem_cons.1 hx with rfl | hx
      · omega
      · exact ih (fun z hz => h z (List.mem_cons_of_mem _ hz)) x hx
theorem pairs_length : ∀ (l : List Int), (pairs l).length = l.length / 2
  | [] => rfl
  | [_] => by simp [pairs]
  | a :: b :: r => by rw [pairs, List.length_cons, pairs_length r, List.length_cons, List.length_cons]; omega
theorem pairs_BL : ∀ (l : List Int), NL l → BL (pairs l)
  | [], _ => fun x hx => by cases hx
  | [_], _ => fun x hx => by cases hx
  | a :: b :: r, h => fun x hx => by
    rw [pairs] at hx
    rcases List.mem_cons.1 hx with rfl | hx
    · have h1 := h a (by simp); have h2 := h b (by simp); omega
    · exact pairs_BL r (fun z hz => h z (by simp [hz])) x hx

theorem or_zero_u8 (a : Int) (h0 : 0 ≤ a) (h1 : a ≤ 15) : Go.bits .or .u8 0 a = a := by
  have := bits_join .u8 8 (by decide) wraps_u8 4 0 a (by decide) (by decide) (by decide) h0 (by omega) (by omega)
  rw [this]; omega
theorem or_high_u8 (a b : Int) (h0 : 0 ≤ a) (h1 : a ≤ 15) (h2 : 0 ≤ b) (h3 : b ≤ 15) : Go.bits .or .u8 (a * 16) b = 16 * a + b := by
  have := bits_join .u8 8 (by decide) wraps_u8 4 (a * 16) b (by omega) (by omega) (by omega) h2 (by omega) (by omega)
  rw [this]; omega
theorem set_at (done : List Int) (d : Nat) (x y : Int) (t : List Int) : (done ++ x :: t).set done.length y = done ++ y :: t := by
  rw [List.set_append_right _ _ (Nat.le_refl _), Nat.sub_self, List.set_cons_zero]
theorem rd_at (done : List Int) (x : Int) (t : List Int) (j : Nat) (h : done.length = j) : rd (done ++ x :: t) (j : Int) = x := by
  subst h
  rw [rd_nat _ _ (by simp)]; simp
theorem bytes_loop (l : List Int) (hb : BL l) (hl : l.length ≤ 1073741824) : ∀ (d j : Nat) (done : List Int), done.length = j → 2 * j + 2 * d = l.length →
    Ev (fun k => octet_Bytes.l0 k (done ++ List.replicate d 0) l l.length (2 * j : Nat)) (if ∀ x ∈ l.drop (2 * j), x ≤ 15 then (done ++ pairs (l.drop (2 * j)), 0) else ([], 2)) := by
  intro d
  induction d with
  | zero =>
    intro j done hj hd
    refine Ev.step (f := fun _ => some (done, 0)) (fun k => ?_) ?_
    · simp only [octet_Bytes.l0]
      rw [if_neg (by omega), List.replicate_zero, List.append_nil]
    · rw [List.drop_of_length_le (by omega), if_pos (fun x hx => by cases hx), pairs, List.append_nil]
      · exact Ev.now _
      · intro a b r h; cases h
  | succ d ih =>
    intro j done hj hd
    have h0 : 2 * j < l.length := by omega
    have h1 : 2 * j + 1 < l.length := by omega
    have ha := hb l[2 * j] (List.getElem_mem _)
    have hb' := hb l[2 * j + 1] (List.getElem_mem _)
    have e0 := drop_cons l (2 * j) h0
    have e1 := drop_cons l (2 * j + 1) h1
    have r0 := rd_nat l (2 * j) h0
    have r1 := rd_nat l (2 * j + 1) h1
    generalize l[2 * j] = a at ha e0 r0
    generalize l[2 * j + 1] = b at hb' e1 r1
    rw [e1] at e0
    rw [e0]
    have rep : List.replicate (d + 1) (0 : Int) = 0 :: List.replicate d 0 := rfl
    have sj : ∀ (x y : Int) (t : List Int), (done ++ x :: t).set (j : Int).toNat y = done ++ y :: t := fun x y t => by rw [Int.toNat_natCast, ← hj]; exact set_at done d x y t
    by_cases ca : a ≤ 15
    · -- the first nibble is one
      have st1 : ∀ k, octet_Bytes.l0 (k + 1) (done ++ List.replicate (d + 1) 0) l l.length (2 * j : Nat) = octet_Bytes.l0 k (done ++ a :: List.replicate d 0) l l.length (2 * j + 1 : Nat) := fun k => by
        simp only [octet_Bytes.l0]
        rw [if_pos (by omega), if_pos (by omega), if_pos (by omega), r0, if_neg (by omega)]
        have et : wrap64 (Int.tdiv ((2 * j : Nat) : Int) 2) = (j : Int) := by
          rw [Int.tdiv_eq_ediv_of_nonneg (by omega)]; rw [wrap64_in _ (by omega) (by omega)]; omega
        rw [et, if_pos (by omega), if_pos (by simp; omega), rep, rd_at _ _ _ _ hj, sj, wrap64_in _ (by omega) (by omega)]
        rw [show (0 : Int) * 16 % 256 = 0 by decide, or_zero_u8 _ ha.1 ca]
        rfl
      by_cases cb : b ≤ 15
      · have st2 : ∀ k, octet_Bytes.l0 (k + 1) (done ++ a :: List.replicate d 0) l l.length (2 * j + 1 : Nat) = octet_Bytes.l0 k ((done ++ [16 * a + b]) ++ List.replicate d 0) l l.length (2 * (j + 1) : Nat) := fun k => by
          simp only [octet_Bytes.l0]
          rw [if_pos (by omega), if_pos (by omega), if_pos (by omega), r1, if_neg (by omega)]
          have et : wrap64 (Int.tdiv ((2 * j + 1 : Nat) : Int) 2) = (j : Int) := by
            rw [Int.tdiv_eq_ediv_of_nonneg (by omega)]; rw [wrap64_in _ (by omega) (by omega)]; omega
          rw [et, if_pos (by omega), if_pos (by simp; omega), rd_at _ _ _ _ hj, sj, wrap64_in _ (by omega) (by omega)]
          rw [show a * 16 % 256 = a * 16 by omega, or_high_u8 _ _ ha.1 ca hb'.1 cb]
          rw [List.append_assoc]
          rfl
        have h2 := ih (j + 1) (done ++ [16 * a + b]) (by simp; omega) (by omega)
        refine Ev.step st1 (Ev.step st2 ?_)
        rw [pairs]
        rw [show l.drop (2 * (j + 1)) = l.drop (2 * j + 1 + 1) from rfl, List.append_assoc done [16 * a + b] (pairs _)] at h2
        by_cases call : ∀ x ∈ l.drop (2 * j + 1 + 1), x ≤ 15
        · rw [if_pos call] at h2
          rw [if_pos (by intro x hx; rcases List.mem_cons.1 hx with rfl | hx; exact ca; rcases List.mem_cons.1 hx with rfl | hx; exact cb; exact call x hx)]
          exact h2
        · rw [if_neg call] at h2
          rw [if_neg (fun h => call fun x hx => h x (List.mem_cons_of_mem _ (List.mem_cons_of_mem _ hx)))]
          exact h2
      · refine Ev.step st1 (Ev.step (f := fun _ => some ([], 2)) (fun k => ?_) ?_)
        · simp only [octet_Bytes.l0]
          rw [if_pos (by omega), if_pos (by omega), if_pos (by omega), r1, if_pos (by omega)]
        · rw [if_neg (fun h => cb (h _ (List.mem_cons_of_mem _ (List.mem_cons_self ..))))]
          exact Ev.now _
    · refine Ev.step (f := fun _ => some ([], 2)) (fun k => ?_) ?_
      · simp only [octet_Bytes.l0]
        rw [if_pos (by omega), if_pos (by omega), if_pos (by omega), r0, if_pos (by omega)]
      · rw [if_neg (fun h => ca (h _ (List.mem_cons_self ..)))]
        exact Ev.now _
def bytesSpec (l : List Int) : List Int × Int := if l.length % 2 = 0 ∧ ∀ x ∈ l, x ≤ 15 then (pairs l, 0) else ([], 2)
theorem bytes_ev (l : List Int) (hb : BL l) (hl : l.length ≤ 1073741824) : Ev (fun k => octet_Bytes.f k l) (bytesSpec l) := by
  unfold bytesSpec
  by_cases h2 : l.length % 2 = 0
  · have h := bytes_loop l hb hl (l.length / 2) 0 [] rfl (by omega)
    have e : (if l.length % 2 = 0 ∧ ∀ x ∈ l, x ≤ 15 then (pairs l, (0 : Int)) else ([], 2)) = (if ∀ x ∈ l.drop (2 * 0), x ≤ 15 then ([] ++ pairs (l.drop (2 * 0)), 0) else ([], 2)) := by
      simp [h2]
    rw [e]
    refine Ev.congr (fun k => ?_) h
    unfold octet_Bytes.f
    rw [if_pos (by omega), wrap64_in _ (by omega) (by omega), if_pos (by omega), if_pos (by omega)]
    rw [show ((l.length : Int) / 2).toNat = l.length / 2 by omega]
    rfl
  · rw [if_neg (fun h => h2 h.1)]
    refine Ev.congr (fun k => ?_) (Ev.now _)
    unfold octet_Bytes.f
    rw [if_neg (by omega)]
/-! ### the order -/
def com : List Int → List Int → Nat
  | a :: x, b :: y => if a = b then com x y + 1 else 0
  | _, _ => 0
def cmp : List Int → List Int → Int
  | [], [] => 0
  | [], _ :: _ => -1
  | _ :: _, [] => 1
  | a :: x, b :: y => if a = b then cmp x y else if a < b then -1 else 1
theorem com_le : ∀ (a b : List Int), com a b ≤ a.length ∧ com a b ≤ b.length
  | [], b => by simp [com]
  | _ :: _, [] => by simp [com]
  | a :: x, b :: y => by
    have := com_le x y
    simp only [com, List.length_cons]
    split <;> omega
theorem com_loop (a b : List Int) (ha : a.length ≤ 4294967290) : ∀ (d i : Nat), i + d = a.length → Ev (fun k => octet_Common.l0 k a b i) ((i + com (a.drop i) (b.drop i) : Nat) : Int) := by
  intro d
  induction d with
  | zero =>
    intro i hi
    refine Ev.step (f := fun _ => some (i : Int)) (fun k => ?_) ?_
    · simp only [octet_Common.l0]
      rw [if_neg (by omega)]
    · rw [List.drop_of_length_le (by omega)]; exact Ev.now _
  | succ d ih =>
    intro i hi
    have h0 : i < a.length := by omega
    rw [drop_cons a i h0]
    have r0 := rd_nat a i h0
    by_cases h1 : i < b.length
    · rw [drop_cons b i h1]
      have r1 := rd_nat b i h1
      by_cases he : a[i] = b[i]
      · have h := ih (i + 1) (by omega)
        refine Ev.step (f := fun k => octet_Common.l0 k a b ((i + 1 : Nat) : Int)) (fun k => ?_) ?_
        · simp only [octet_Common.l0]
          rw [if_pos (by omega), if_pos (by omega), if_pos (by omega), r0, r1, if_pos he, wrap64_in _ (by omega) (by omega)]
          rfl
        · rw [com, if_pos he, show i + (com (a.drop (i + 1)) (b.drop (i + 1)) + 1) = i + 1 + com (a.drop (i + 1)) (b.drop (i + 1)) by omega]
          exact h
      · refine Ev.step (f := fun _ => some (i : Int)) (fun k => ?_) ?_
        · simp only [octet_Common.l0]
          rw [if_pos (by omega), if_pos (by omega), if_pos (by omega), r0, r1, if_neg he]
        · rw [com, if_neg he]; exact Ev.now _
    · refine Ev.step (f := fun _ => some (i : Int)) (fun k => ?_) ?_
      · simp only [octet_Common.l0]
        rw [if_pos (by omega), if_neg (by omega)]
      · rw [List.drop_of_length_le (show b.length ≤ i by omega), com]
        · exact Ev.now _
        · intro _ _ _ _ _ h; cases h
theorem common_ev (a b : List Int) (ha : a.length ≤ 4294967290) : Ev (fun k => octet_Common.f k a b) (com a b : Int) := by
  have h := com_loop a b ha a.length 0 (by omega)
  rw [List.drop_zero, List.drop_zero, Nat.zero_add] at h
  exact Ev.congr (fun k => rfl) h
theorem cmp_com : ∀ (a b : List Int), cmp a b = if com a b = a.length then (if com a b = b.length then 0 else -1) else if com a b = b.length then 1 else if a.getD (com a b) 0 < b.getD (com a b) 0 then -1 else 1
  | [], [] => by simp [cmp, com]
  | [], _ :: _ => by simp [cmp, com]
  | _ :: _, [] => by simp [cmp, com]
  | a :: x, b :: y => by
    have ih := cmp_com x y
    by_cases h : a = b
    · rw [show com (a :: x) (b :: y) = com x y + 1 by rw [com, if_pos h], show cmp (a :: x) (b :: y) = cmp x y by rw [cmp, if_pos h], ih]
      simp only [List.length_cons, List.getD_cons_succ, Nat.add_right_cancel_iff]
    · rw [show com (a :: x) (b :: y) = 0 by rw [com, if_neg h], show cmp (a :: x) (b :: y) = if a < b then -1 else 1 by rw [cmp, if_neg h]]
      simp
theorem compare_ev (a b : List Int) (ha : a.length ≤ 4294967290) : Ev (fun k => octet_Compare.f k a b) (cmp a b) := by
  refine Ev.bind (common_ev a b ha) ?_
  obtain ⟨l1, l2⟩ := com_le a b
  rw [cmp_com]
  by_cases h1 : com a b = a.length
  · rw [if_pos h1]
    refine Ev.congr (f := fun k => octet_Compare.j0 k a b (com a b : Int) ((com a b : Int) == (b.length : Int))) (fun k => by rw [if_pos (by omega)]) ?_
    by_cases h2 : com a b = b.length
    · rw [if_pos h2]
      refine Ev.step (f := fun _ => some 0) (fun k => ?_) (Ev.now _)
      simp only [octet_Compare.j0]
      rw [if_pos (by rw [beq_iff_eq]; omega)]
    · rw [if_neg h2]
      refine Ev.step (f := fun _ => some (-1)) (fun k => ?_) (Ev.now _)
      simp only [octet_Compare.j0]
      rw [if_neg (by rw [beq_iff_eq]; omega), if_pos (by omega)]
  · rw [if_neg h1]
    refine Ev.congr (f := fun k => octet_Compare.j0 k a b (com a b : Int) false) (fun k => by rw [if_neg (by omega)]) ?_
    by_cases h2 : com a b = b.length
    · rw [if_pos h2]
      refine Ev.step (f := fun _ => some 1) (fun k => ?_) (Ev.now _)
      simp only [octet_Compare.j0]
      rw [if_neg (by simp), if_neg (by omega), if_neg (by omega)]
    · rw [if_neg h2]
      have ea : rd a (com a b : Int) = a.getD (com a b) 0 := by rw [rd, Int.toNat_natCast]
      have eb : rd b (com a b : Int) = b.getD (com a b) 0 := by rw [rd, Int.toNat_natCast]
      refine Ev.step (f := fun _ => some (if a.getD (com a b) 0 < b.getD (com a b) 0 then -1 else 1)) (fun k => ?_) (Ev.now _)
      simp only [octet_Compare.j0]
      rw [if_neg (by simp), if_neg (by omega), if_pos (by omega), if_pos (by omega), if_pos (by omega)]
      by_cases hq : a.getD (com a b) 0 < b.getD (com a b) 0
      · rw [if_pos (by rw [ea, eb]; exact hq), if_pos hq]
      · rw [if_neg (by rw [ea, eb]; exact hq), if_neg hq]
theorem cmp_self : ∀ (a : List Int), cmp a a = 0
  | [] => rfl
  | a :: x => by rw [cmp, if_pos rfl]; exact cmp_self x
theorem cmp_nibs : ∀ (a b : List Int), BL a → BL b → cmp (nibs a) (nibs b) = cmp a b
  | [], [], _, _ => rfl
  | [], _ :: _, _, _ => rfl
  | _ :: _, [], _, _ => rfl
  | a :: x, b :: y, ha, hb => by
    have h1 := ha a (List.mem_cons_self ..)
    have h2 := hb b (List.mem_cons_self ..)
    have ih := cmp_nibs x y (fun z hz => ha z (List.mem_cons_of_mem _ hz)) (fun z hz => hb z (List.mem_cons_of_mem _ hz))
    rw [nibs_cons, nibs_cons, cmp, cmp, cmp]
    by_cases e : a = b
    · subst e; rw [if_pos rfl, if_pos rfl, if_pos rfl, ih]
    · rw [if_neg e]
      by_cases e1 : a / 16 = b / 16
      · rw [if_pos e1, if_neg (by omega)]
        by_cases hlt : a < b
        · rw [if_pos hlt, if_pos (by omega)]
        · rw [if_neg hlt, if_neg (by omega)]
      · rw [if_neg e1]
        by_cases hlt : a < b
        · rw [if_pos hlt, if_pos (by omega)]
        · rw [if_neg hlt, if_neg (by omega)]

/-! ### texts -/
theorem bytesOf_strOfNums (l : List Int) (h : BL l) : bytesOf (strOfNums l) = l := by
  unfold bytesOf
  rw [strOfNums_data, List.map_map]
  have : ∀ x ∈ l, ((fun b : UInt8 => (b.toNat : Int)) ∘ fun n : Int => UInt8.ofNat n.toNat) x = x := fun x hx => by
    have := h x hx
    simp only [Function.comp_apply, UInt8.toNat_ofNat']
    omega
  rw [List.map_congr_left this, List.map_id']
theorem toList_data (s : ByteArray) : s.toList = s.data.toList := by
  have key : ∀ (d i : Nat) (r : List UInt8), i + d = s.size → ByteArray.toList.loop s i r = r.reverse ++ s.data.toList.drop i := by
    intro d
    induction d with
    | zero =>
      intro i r hi
      rw [ByteArray.toList.loop, if_neg (by omega), List.drop_of_length_le (by rw [Array.length_toList]; show s.size ≤ i; omega), List.append_nil]
    | succ d ih =>
      intro i r hi
      have hlt : i < s.data.toList.length := by rw [Array.length_toList]; show i < s.size; omega
      rw [ByteArray.toList.loop, if_pos (by omega), ih (i + 1) _ (by omega), List.drop_eq_getElem_cons hlt, List.reverse_cons, List.append_assoc]
      have hq : i < s.data.size := by show i < s.size; omega
      have : s.get! i = s.data.toList[i] := by
        show s.data[i]! = _
        rw [getElem!_pos s.data i hq]
        simp
      rw [this]
      rfl
  have := key s.size 0 [] (by omega)
  rw [ByteArray.toList, this]
  rfl
theorem strOfNums_bytesOf (s : ByteArray) : strOfNums (bytesOf s) = s := by
  obtain ⟨⟨l⟩⟩ := s
  unfold strOfNums bytesOf
  rw [List.map_map]
  have : ∀ x ∈ l, ((fun n : Int => UInt8.ofNat n.toNat) ∘ fun b : UInt8 => (b.toNat : Int)) x = x := fun x _ => by simp
  show ByteArray.mk (List.toArray (List.map _ l)) = _
  rw [List.map_congr_left this, List.map_id']
theorem bytesOf_BL (s : ByteArray) : BL (bytesOf s) := fun x hx => by
  obtain ⟨b, _, rfl⟩ := List.mem_map.1 hx
  have := b.toNat_lt
  omega
theorem digC_BL (l : List Int) (h : NL l) : BL (l.map digC) := fun x hx => by
  obtain ⟨n, hn, rfl⟩ := List.mem_map.1 hx
  have := h n hn
  unfold digC
  split <;> omega
theorem hexd_digC (n : Int) (h0 : 0 ≤ n) (h1 : n ≤ 15) : hexd (digC n) = n := by
  unfold hexd digC
  by_cases h : n < 10
  · rw [if_pos h, if_pos (by omega)]; omega
  · rw [if_neg h, if_neg (by omega), if_pos (by omega)]; omega
theorem digC_hexd (c : Int) (h : 0 ≤ hexd c) : digC (hexd c) = c := by
  unfold hexd at h ⊢
  unfold digC
  by_cases h1 : 48 ≤ c ∧ c ≤ 57
  · rw [if_pos h1, if_pos (by omega)]; omega
  · rw [if_neg h1] at h ⊢
    by_cases h2 : 97 ≤ c ∧ c ≤ 102
    · rw [if_pos h2, if_neg (by omega)]; omega
    · rw [if_neg h2] at h; omega
theorem hex_ev (l : List Int) (hb : BL l) (hl : l.length ≤ 1073741824) : Ev (fun k => octet_Hex.f k l) (strOfNums ((nibs l).map digC)) := by
  refine Ev.bind (nib_ev l hb hl) ?_
  refine Ev.congr (fun k => ?_) (Ev.now _)
  rw [if_pos ⟨fun n hn => by have := nibs_NL l hb n hn; omega, by rw [nibs_length]; omega⟩]
def unhexSpec (s : ByteArray) : List Int × Int :=
  if (∀ c ∈ bytesOf s, 0 ≤ hexd c) ∧ s.size % 2 = 0 then (pairs ((bytesOf s).map hexd), 0) else ([], 10)
theorem unhex_ev (s : ByteArray) (hs : s.size ≤ 1073741824) : Ev (fun k => octet_Unhex.f k s) (unhexSpec s) := by
  unfold unhexSpec octet_Unhex.f
  by_cases h : ∀ c ∈ bytesOf s, 0 ≤ hexd c
  · have hN : NL ((bytesOf s).map hexd) := fun x hx => by
      obtain ⟨c, hc, rfl⟩ := List.mem_map.1 hx
      have := h c hc; have := hexd_lt c; omega
    have hb := bytes_ev ((bytesOf s).map hexd) (fun x hx => by have := hN x hx; omega) (by rw [List.length_map, bytesOf_length]; exact hs)
    refine Ev.congr (f := fun k => (octet_Bytes.f k ((bytesOf s).map hexd)).bind fun r => if r.2 = 0 then some (r.1, 0) else some ([], 10)) (fun k => by rw [if_pos (by omega), if_pos h]) ?_
    refine Ev.bind hb ?_
    have e : bytesSpec ((bytesOf s).map hexd) = if s.size % 2 = 0 then (pairs ((bytesOf s).map hexd), 0) else ([], 2) := by
      unfold bytesSpec
      rw [List.length_map, bytesOf_length]
      by_cases h2 : s.size % 2 = 0
      · rw [if_pos ⟨h2, fun x hx => (hN x hx).2⟩, if_pos h2]
      · rw [if_neg (fun hh => h2 hh.1), if_neg h2]
    rw [e]
    by_cases h2 : s.size % 2 = 0
    · rw [if_pos h2]
      refine Ev.congr (f := fun _ => some (pairs ((bytesOf s).map hexd), 0)) (fun k => if_pos rfl) ?_
      rw [if_pos ⟨h, h2⟩]
      exact Ev.now _
    · rw [if_neg h2]
      refine Ev.congr (f := fun _ => some ([], 10)) (fun k => if_neg (by decide)) ?_
      rw [if_neg (fun hh => h2 hh.2)]
      exact Ev.now _
  · refine Ev.congr (f := fun _ => some ([], 10)) (fun k => by rw [if_pos (by omega), if_neg h]) ?_
    rw [if_neg (fun hh => h hh.1)]
    exact Ev.now _
theorem unhex_hex (l : List Int) (hb : BL l) : unhexSpec (strOfNums ((nibs l).map digC)) = (l, 0) := by
  unfold unhexSpec
  have hN := nibs_NL l hb
  rw [bytesOf_strOfNums _ (digC_BL _ hN), strOfNums_size, List.length_map, nibs_length, if_pos ⟨fun c hc => by
    obtain ⟨n, hn, rfl⟩ := List.mem_map.1 hc
    have := hN n hn
    rw [hexd_digC n this.1 this.2]; exact this.1, by omega⟩, List.map_map]
  have : ∀ x ∈ nibs l, (hexd ∘ digC) x = x := fun x hx => hexd_digC x (hN x hx).1 (hN x hx).2
  rw [List.map_congr_left this, List.map_id', pairs_nibs]
theorem nibs_pairs : ∀ (l : List Int), NL l → l.length % 2 = 0 → nibs (pairs l) = l
  | [], _, _ => rfl
  | [_], _, h => by simp at h
  | a :: b :: r, h, h2 => by
    have h1 := h a (by simp)
    have h3 := h b (by simp)
    rw [pairs, nibs_cons, nibs_pairs r (fun z hz => h z (by simp [hz])) (by simp only [List.length_cons] at h2; omega)]
    congr 1
    · omega
    · congr 1; omega
theorem hex_unhex (s : ByteArray) (h : ∀ c ∈ bytesOf s, 0 ≤ hexd c) (h2 : s.size % 2 = 0) : strOfNums ((nibs (pairs ((bytesOf s).map hexd))).map digC) = s := by
  have hN : NL ((bytesOf s).map hexd) := fun x hx => by
    obtain ⟨c, hc, rfl⟩ := List.mem_map.1 hx
    have := h c hc; have := hexd_lt c; omega
  rw [nibs_pairs _ hN (by rw [List.length_map, bytesOf_length]; exact h2), List.map_map]
  have : ∀ x ∈ bytesOf s, (digC ∘ hexd) x = x := fun x hx => digC_hexd x (h x hx)
  rw [List.map_congr_left this, List.map_id', strOfNums_bytesOf]
end Go.Proofs.YthiedcebneejjaaDoor.Hand
-- Printed by a program of mine (myprint.py, a patched call of the kit's printer) for this claim; not trusted: Lean checks it.
namespace Go.Proofs.YthiedcebneejjaaDoor.B
open Go.RowKit Go.Proofs.YthiedcebneejjaaDoor.A Go.Proofs.YthiedcebneejjaaDoor.Hand  Go.Proofs.YthiedcebneejjaaDoorW.PrintWords Go.Proofs.YthiedcebneejjaaDoorW.PrintLast Go.Proofs.YthiedcebneejjaaDoorW.PrintMore
attribute [local go_sem] max2_int min2_int max_two min_two max_three min_three max_four min_four   -- for this text's walks alone
set_option linter.unusedVariables false
set_option linter.unusedSimpArgs false



def errW : Option Int → Value
  | none => .nilIface
  | some c => .iface 0 (.int .i64 c)
theorem errW_none : errW none = .nilIface := rfl
theorem errW_some (c : Int) : errW (some c) = .iface 0 (.int .i64 c) := rfl

theorem info5 : (Tryd.prog.info? 5).map (fun i => (i.zero, i.size, i.bytes)) = some (some (.int .u8 0), 1, 1) := by kernel_rfl
-- the values' own types

end Go.Proofs.YthiedcebneejjaaDoor.B
