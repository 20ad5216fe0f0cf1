/- octet.Common, Compare, Within by their plain answers, for strings of any length; the order they make. -/
import Derived.Test.YthiedcebneejjaaDoorPureB
import Derived.Test.YthiedcebneejjaaDoorExt
set_option linter.unusedVariables false
set_option linter.unusedSimpArgs false
namespace Go.Proofs.YthiedcebneejjaaDoor.Ord
open Go.RowKit Go.Proofs.YthiedcebneejjaaDoorW.PrintWords Go.Proofs.YthiedcebneejjaaDoorW.PrintLast Go.Proofs.YthiedcebneejjaaDoorW.PrintMore
open Go.Proofs.YthiedcebneejjaaDoor.A Go.Proofs.YthiedcebneejjaaDoor.Hand Go.Proofs.YthiedcebneejjaaDoor.B

theorem wrap64_big (x : Int) (h0 : 0 ≤ x) (h1 : x ≤ 9223372036854775807) : wrap64 x = x := by unfold wrap64; omega
theorem com_loopB (a b : List Int) (ha : a.length ≤ 9223372036854775807) : ∀ (d i : Nat), i + d = a.length → Ev (fun k => octet_Common.l0 k a b i) ((i + com (a.drop i) (b.drop i) : Nat) : Int) := by
  intro d
  induction d with
  | zero =>
    intro i hi
    refine Ev.step (f := fun _ => some (i : Int)) (fun k => ?_) ?_
    · simp only [octet_Common.l0]
      rw [if_neg (by omega)]
    · rw [List.drop_of_length_le (by omega)]; exact Ev.now _
  | succ d ih =>
    intro i hi
    have h0 : i < a.length := by omega
    rw [drop_cons a i h0]
    have r0 := rd_nat a i h0
    by_cases h1 : i < b.length
    · rw [drop_cons b i h1]
      have r1 := rd_nat b i h1
      by_cases he : a[i] = b[i]
      · have h := ih (i + 1) (by omega)
        refine Ev.step (f := fun k => octet_Common.l0 k a b ((i + 1 : Nat) : Int)) (fun k => ?_) ?_
        · simp only [octet_Common.l0]
          rw [if_pos (by omega), if_pos (by omega), if_pos (by omega), r0, r1, if_pos he, wrap64_big _ (by omega) (by omega)]
          rfl
        · rw [com, if_pos he, show i + (com (a.drop (i + 1)) (b.drop (i + 1)) + 1) = i + 1 + com (a.drop (i + 1)) (b.drop (i + 1)) by omega]
          exact h
      · refine Ev.step (f := fun _ => some (i : Int)) (fun k => ?_) ?_
        · simp only [octet_Common.l0]
          rw [if_pos (by omega), if_pos (by omega), if_pos (by omega), r0, r1, if_neg he]
        · rw [com, if_neg he]; exact Ev.now _
    · refine Ev.step (f := fun _ => some (i : Int)) (fun k => ?_) ?_
      · simp only [octet_Common.l0]
        rw [if_pos (by omega), if_neg (by omega)]
      · rw [List.drop_of_length_le (show b.length ≤ i by omega), com]
        · exact Ev.now _
        · intro _ _ _ _ _ h; cases h
theorem common_evB (a b : List Int) (ha : a.length ≤ 9223372036854775807) : Ev (fun k => octet_Common.f k a b) (com a b : Int) := by
  have h := com_loopB a b ha a.length 0 (by omega)
  rw [List.drop_zero, List.drop_zero, Nat.zero_add] at h
  exact Ev.congr (fun k => rfl) h
theorem compare_evB (a b : List Int) (ha : a.length ≤ 9223372036854775807) : Ev (fun k => octet_Compare.f k a b) (cmp a b) := by
  refine Ev.bind (common_evB a b ha) ?_
  obtain ⟨l1, l2⟩ := com_le a b
  rw [cmp_com]
  by_cases h1 : com a b = a.length
  · rw [if_pos h1]
    refine Ev.congr (f := fun k => octet_Compare.j0 k a b (com a b : Int) ((com a b : Int) == (b.length : Int))) (fun k => by rw [if_pos (by omega)]) ?_
    by_cases h2 : com a b = b.length
    · rw [if_pos h2]
      refine Ev.step (f := fun _ => some 0) (fun k => ?_) (Ev.now _)
      simp only [octet_Compare.j0]
      rw [if_pos (by rw [beq_iff_eq]; omega)]
    · rw [if_neg h2]
      refine Ev.step (f := fun _ => some (-1)) (fun k => ?_) (Ev.now _)
      simp only [octet_Compare.j0]
      rw [if_neg (by rw [beq_iff_eq]; omega), if_pos (by omega)]
  · rw [if_neg h1]
    refine Ev.congr (f := fun k => octet_Compare.j0 k a b (com a b : Int) false) (fun k => by rw [if_neg (by omega)]) ?_
    by_cases h2 : com a b = b.length
    · rw [if_pos h2]
      refine Ev.step (f := fun _ => some 1) (fun k => ?_) (Ev.now _)
      simp only [octet_Compare.j0]
      rw [if_neg (by simp), if_neg (by omega), if_neg (by omega)]
    · rw [if_neg h2]
      have ea : rd a (com a b : Int) = a.getD (com a b) 0 := by rw [rd, Int.toNat_natCast]
      have eb : rd b (com a b : Int) = b.getD (com a b) 0 := by rw [rd, Int.toNat_natCast]
      refine Ev.step (f := fun _ => some (if a.getD (com a b) 0 < b.getD (com a b) 0 then -1 else 1)) (fun k => ?_) (Ev.now _)
      simp only [octet_Compare.j0]
      rw [if_neg (by simp), if_neg (by omega), if_pos (by omega), if_pos (by omega), if_pos (by omega)]
      by_cases hq : a.getD (com a b) 0 < b.getD (com a b) 0
      · rw [if_pos (by rw [ea, eb]; exact hq), if_pos hq]
      · rw [if_neg (by rw [ea, eb]; exact hq), if_neg hq]

/-- a slice that reads as these bytes -/
structure Rs (w : World) (A : Option Addr) (c : Nat) (l : List Int) : Prop where
  rd : Kd.C (Kd.int .u8) w A l.length l
  cap : l.length ≤ c
theorem Rs.max {w : World} {A : Option Addr} {c : Nat} {l : List Int} (h : Rs w A c l) : l.length ≤ 9223372036854775807 := Kd.C_max h.rd
theorem Rs.ext {w w' : World} {A : Option Addr} {c : Nat} {l : List Int} (h : Rs w A c l) (hE : Ext w w') : Rs w' A c l := ⟨Kd.C_below h.rd hE, h.cap⟩
theorem drawn_ext {w w' : World} (h : Drawn0 w w') : Ext w w' := h.below
theorem common_calls (w : World) (A B : Option Addr) (c d : Nat) (a b : List Int) (ha : Rs w A c a) (hb : Rs w B d b) : Calls Tryd.prog 17 #[.slice A a.length c, .slice B b.length d] w (fun e w' => e = .returned (.int .i64 (com a b)) ∧ Ext w w') := by
  obtain ⟨k, hk⟩ := common_evB a b ha.max
  exact (octet_Common.calls k A c a B d b _ w ha.rd ha.cap hb.rd hb.cap (hk k (Nat.le_refl _))).mono fun e w' h => ⟨h.1, drawn_ext h.2⟩
theorem compare_calls (w : World) (A B : Option Addr) (c d : Nat) (a b : List Int) (ha : Rs w A c a) (hb : Rs w B d b) : Calls Tryd.prog 12 #[.slice A a.length c, .slice B b.length d] w (fun e w' => e = .returned (.int .i64 (cmp a b)) ∧ Ext w w') := by
  obtain ⟨k, hk⟩ := compare_evB a b ha.max
  exact (octet_Compare.calls k A c a B d b _ w ha.rd ha.cap hb.rd hb.cap (hk k (Nat.le_refl _))).mono fun e w' h => ⟨h.1, drawn_ext h.2⟩
/-- Within's answer -/
def withS (l lo hi : List Int) (o : Bool) : Bool := decide (cmp lo l ≤ 0) && (o || decide (cmp l hi < 0))
theorem within_ev (l lo hi : List Int) (o : Bool) (hl : l.length ≤ 9223372036854775807) (hlo : lo.length ≤ 9223372036854775807) : Ev (fun k => octet_Within.f k l lo hi o) (withS l lo hi o) := by
  refine Ev.bind (compare_evB lo l hlo) ?_
  by_cases h1 : cmp lo l ≤ 0
  · cases o
    · refine Ev.congr (f := fun k => (octet_Compare.f k l hi).bind fun t => some (decide (t < 0))) (fun k => by rw [if_pos h1, if_neg (by simp)]) ?_
      refine Ev.bind (compare_evB l hi hl) ?_
      simp only [withS, h1]
      exact Ev.now _
    · refine Ev.congr (f := fun _ => some true) (fun k => by rw [if_pos h1, if_pos rfl]) ?_
      simp only [withS, h1]
      exact Ev.now _
  · refine Ev.congr (f := fun _ => some false) (fun k => by rw [if_neg h1]) ?_
    simp only [withS, h1]
    exact Ev.now _
theorem within_calls (w : World) (A B D : Option Addr) (c d f : Nat) (l lo hi : List Int) (o : Bool) (hl : Rs w A c l) (hlo : Rs w B d lo) (hhi : Rs w D f hi) :
    Calls Tryd.prog 21 #[.slice A l.length c, .agg #[.slice B lo.length d, .slice D hi.length f, .bool o]] w (fun e w' => e = .returned (.bool (withS l lo hi o)) ∧ Ext w w') := by
  obtain ⟨k, hk⟩ := within_ev l lo hi o hl.max hlo.max
  exact (octet_Within.calls k A c l B d lo D f hi o _ w hl.rd hl.cap hlo.rd hlo.cap hhi.rd hhi.cap (hk k (Nat.le_refl _))).mono fun e w' h => ⟨h.1, h.2⟩
theorem Rs.none (w : World) : Rs w none 0 [] := ⟨Kd.C_nil _ _, Nat.le_refl _⟩
theorem fixed_calls (w : World) (hG : Glob w) : Calls Tryd.prog 9 #[] w (fun e w' => e = .returned (.bool true) ∧ Ext w w') :=
  (cairnlaw01_fixed.calls 40 true w hG fixed_k).mono fun e w' h => ⟨h.1, h.2⟩
theorem Glob.ext {w w' : World} (h : Glob w) (hE : Ext w w') : Glob w' := h.of_below hE
/-! ### the order -/
theorem cmp_neg : ∀ (a b : List Int), cmp b a = - cmp a b
  | [], [] => rfl
  | [], _ :: _ => rfl
  | _ :: _, [] => rfl
  | a :: x, b :: y => by
    rw [cmp, cmp]
    by_cases h : a = b
    · rw [if_pos h, if_pos h.symm]; exact cmp_neg x y
    · rw [if_neg h, if_neg (fun e => h e.symm)]
      by_cases h2 : a < b
      · rw [if_pos h2, if_neg (by omega)]; rfl
      · rw [if_neg h2, if_pos (by omega)]
theorem cmp_eq : ∀ (a b : List Int), cmp a b = 0 ↔ a = b
  | [], [] => by simp [cmp]
  | [], _ :: _ => by simp [cmp]
  | _ :: _, [] => by simp [cmp]
  | a :: x, b :: y => by
    have ih := cmp_eq x y
    rw [cmp]
    by_cases h : a = b
    · rw [if_pos h, ih, h]; simp
    · rw [if_neg h]
      constructor
      · intro h0; split at h0 <;> omega
      · intro h0; injection h0 with h1; exact absurd h1 h
theorem cmp_trans : ∀ (a b c : List Int), cmp a b ≤ 0 → cmp b c ≤ 0 → cmp a c ≤ 0
  | [], _, [] => by simp [cmp]
  | [], _, _ :: _ => by simp [cmp]
  | _ :: _, [], _ => by intro h; simp [cmp] at h
  | _ :: _, _ :: _, [] => by intro _ h; simp [cmp] at h
  | a :: x, b :: y, c :: z => by
    have ih := cmp_trans x y z
    rw [cmp, cmp, cmp]
    intro h1 h2
    by_cases e1 : a = b
    · by_cases e2 : b = c
      · rw [if_pos e1] at h1; rw [if_pos e2] at h2; rw [if_pos (e1.trans e2)]; exact ih h1 h2
      · rw [if_neg e2] at h2
        rw [if_neg (by rw [e1]; exact e2)]
        split at h2
        · rw [if_pos (by omega)]; omega
        · omega
    · rw [if_neg e1] at h1
      split at h1
      · by_cases e2 : b = c
        · rw [if_neg (by omega), if_pos (by omega)]; omega
        · rw [if_neg e2] at h2
          split at h2
          · rw [if_neg (by omega), if_pos (by omega)]; omega
          · omega
      · omega
theorem com_eq : ∀ (a b : List Int), com a b < a.length → com a b < b.length → a.getD (com a b) 0 ≠ b.getD (com a b) 0
  | [], b => by simp
  | _ :: _, [] => by simp
  | a :: x, b :: y => by
    have ih := com_eq x y
    rw [com]
    by_cases h : a = b
    · rw [if_pos h]; simpa using ih
    · rw [if_neg h]; simpa using h
theorem com_take : ∀ (a b : List Int), a.take (com a b) = b.take (com a b)
  | [], b => by simp [com]
  | _ :: _, [] => by simp [com]
  | a :: x, b :: y => by
    have ih := com_take x y
    rw [com]
    by_cases h : a = b
    · rw [if_pos h]; simp [ih, h]
    · rw [if_neg h]; simp
theorem str_inj (a b : List Int) (ha : BL a) (hb : BL b) : (strOfNums a = strOfNums b) ↔ a = b :=
  ⟨fun h => by rw [← bytesOf_strOfNums a ha, ← bytesOf_strOfNums b hb, h], fun h => by rw [h]⟩
end Go.Proofs.YthiedcebneejjaaDoor.Ord
