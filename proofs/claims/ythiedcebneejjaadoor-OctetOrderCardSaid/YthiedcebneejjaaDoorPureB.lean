/- The plain laws OctetNames and OctetBack: what the printed functions compute is true. -/
import Derived.Test.YthiedcebneejjaaDoorPure
import Derived.Test.YthiedcebneejjaaDoorBx2
set_option linter.unusedVariables false
set_option linter.unusedSimpArgs false
namespace Go.Proofs.YthiedcebneejjaaDoor.Hand
open Go.RowKit Go.Proofs.YthiedcebneejjaaDoorW.PrintWords
open Go.Proofs.YthiedcebneejjaaDoor.A Go.Proofs.YthiedcebneejjaaDoor.B

theorem fixed_k : cairnlaw01_fixed.f 40 = some true := by decide +kernel
theorem fixed_ev : Ev (fun k => cairnlaw01_fixed.f k) true := Ev.of (cairnlaw01_fixed.mono) fixed_k
theorem names_k : cairnlaw01_OctetNames.f 40 = some true := by decide +kernel

theorem back_j2 (A B F T : List Int) (o : Bool) (S : ByteArray) (hA : BL A) (hB : BL B) (lA : A.length ≤ 1073741824) (lB : B.length ≤ 1073741824) :
    Ev (fun k => cairnlaw01_OctetBack.j2 k false A B F T o S) true := by
  refine Ev.step (f := fun k => (octet_Nibbles.f k A).bind fun t167 => ((octet_Nibbles.f k B).bind fun t170 => ((octet_Compare.f k t167 t170).bind fun t173 => ((octet_Compare.f k A B).bind fun t174 => (some (t173 == t174)))))) (fun k => by simp only [cairnlaw01_OctetBack.j2]; rw [if_neg (by simp)]) ?_
  refine Ev.bind (nib_ev A hA lA) (Ev.bind (nib_ev B hB lB) (Ev.bind (compare_ev _ _ (by rw [nibs_length]; omega)) (Ev.bind (compare_ev A B (by omega)) ?_)))
  rw [cmp_nibs A B hA hB]
  exact Ev.congr (fun k => by rw [beq_self_eq_true]) (Ev.now _)
theorem back_l0 (A B F T : List Int) (o : Bool) (S : ByteArray) (n : List Int) (hn : NL n) (ln : n.length ≤ 2147483648) (hA : BL A) (hB : BL B) (lA : A.length ≤ 1073741824) (lB : B.length ≤ 1073741824) (lS : S.size ≤ 1073741824) :
    ∀ (d i : Nat), i + d = n.length → Ev (fun k => cairnlaw01_OctetBack.l0 k n i A B F T o S) true := by
  intro d
  induction d with
  | zero =>
    intro i hi
    refine Ev.step (f := fun k => (octet_Unhex.f k S).bind fun bt162 => (if bt162.2 = 0 then ((octet_Hex.f k bt162.1).bind fun t166 => (if t166.toList = S.toList then (cairnlaw01_OctetBack.j2 k false A B F T o S) else (cairnlaw01_OctetBack.j2 k true A B F T o S))) else (if bt162.2 = 10 then (cairnlaw01_OctetBack.j2 k ((bt162.1.length : Int) != 0) A B F T o S) else (cairnlaw01_OctetBack.j2 k true A B F T o S)))) (fun k => by simp only [cairnlaw01_OctetBack.l0]; rw [if_neg (by omega)]) ?_
    refine Ev.bind (unhex_ev S lS) ?_
    unfold unhexSpec
    by_cases h : (∀ c ∈ bytesOf S, 0 ≤ hexd c) ∧ S.size % 2 = 0
    · rw [if_pos h]
      refine Ev.congr (f := fun k => ((octet_Hex.f k (pairs ((bytesOf S).map hexd))).bind fun t166 => (if t166.toList = S.toList then (cairnlaw01_OctetBack.j2 k false A B F T o S) else (cairnlaw01_OctetBack.j2 k true A B F T o S)))) (fun k => if_pos rfl) ?_
      refine Ev.bind (hex_ev _ (pairs_BL _ fun x hx => by
        obtain ⟨c, hc, rfl⟩ := List.mem_map.1 hx
        have := h.1 c hc; have := hexd_lt c; omega) (by rw [pairs_length, List.length_map, bytesOf_length]; omega)) ?_
      rw [hex_unhex S h.1 h.2]
      exact Ev.congr (fun k => if_pos rfl) (back_j2 A B F T o S hA hB lA lB)
    · rw [if_neg h]
      exact Ev.congr (fun k => by rw [if_neg (by decide), if_pos rfl]; rfl) (back_j2 A B F T o S hA hB lA lB)
  | succ d ih =>
    intro i hi
    have h0 : i < n.length := by omega
    refine Ev.step (fun k => ?_) (ih (i + 1) (by omega))
    simp only [cairnlaw01_OctetBack.l0]
    have := (hn n[i] (List.getElem_mem _)).2
    rw [if_pos (by omega), if_pos (by omega), rd_nat n i h0, if_neg (by omega), wrap64_in _ (by omega) (by omega)]
    rfl
theorem bytes_nibs (A : List Int) (hA : BL A) : bytesSpec (nibs A) = (A, 0) := by
  unfold bytesSpec
  rw [if_pos ⟨by rw [nibs_length]; omega, fun x hx => (nibs_NL A hA x hx).2⟩, pairs_nibs]
theorem back_ev (A B F T : List Int) (o : Bool) (S : ByteArray) (hA : BL A) (hB : BL B) (lA : A.length ≤ 536870912) (lB : B.length ≤ 1073741824) (lS : S.size ≤ 1073741824) :
    Ev (fun k => cairnlaw01_OctetBack.f k A B F T o S) true := by
  unfold cairnlaw01_OctetBack.f
  have hN := nibs_NL A hA
  refine Ev.bind (nib_ev A hA (by omega)) ?_
  refine Ev.bind (bytes_ev (nibs A) (fun x hx => by have := hN x hx; omega) (by rw [nibs_length]; omega)) ?_
  rw [bytes_nibs A hA]
  refine Ev.bind (hex_ev A hA (by omega)) ?_
  refine Ev.bind (unhex_ev _ (by rw [strOfNums_size, List.length_map, nibs_length]; omega)) ?_
  rw [unhex_hex A hA]
  refine Ev.congr (f := fun k => (octet_Compare.f k A A).bind fun t158 => (if t158 = 0 then ((octet_Compare.f k A A).bind fun t159 => (if t159 = 0 then ((cairnlaw01_fixed.f k).bind fun t160 => (cairnlaw01_OctetBack.j0 k (nibs A) (!t160) A B F T o S)) else (cairnlaw01_OctetBack.j0 k (nibs A) true A B F T o S))) else (cairnlaw01_OctetBack.j0 k (nibs A) true A B F T o S))) (fun k => ?_) ?_
  · rw [if_pos (by rw [nibs_length, wrap64_in _ (by omega) (by omega)]; omega), if_pos rfl]
    refine congrArg _ (funext fun t => ?_)
    by_cases ht : t = 0
    · rw [if_pos ht, if_pos ht, if_pos (by rw [strOfNums_size, List.length_map, nibs_length, wrap64_in _ (by omega) (by omega)]; omega), if_pos rfl]
    · rw [if_neg ht, if_neg ht]
  · refine Ev.bind (compare_ev A A (by omega)) ?_
    rw [cmp_self]
    refine Ev.congr (fun k => if_pos rfl) ?_
    refine Ev.bind (compare_ev A A (by omega)) ?_
    rw [cmp_self]
    refine Ev.congr (fun k => if_pos rfl) ?_
    refine Ev.bind fixed_ev ?_
    refine Ev.step (f := fun k => cairnlaw01_OctetBack.l0 k (nibs A) 0 A B F T o S) (fun k => by simp only [cairnlaw01_OctetBack.j0]; rw [if_neg (by decide)]) ?_
    exact back_l0 A B F T o S (nibs A) hN (by rw [nibs_length]; omega) hA hB (by omega) lB lS (nibs A).length 0 (by omega)
end Go.Proofs.YthiedcebneejjaaDoor.Hand
