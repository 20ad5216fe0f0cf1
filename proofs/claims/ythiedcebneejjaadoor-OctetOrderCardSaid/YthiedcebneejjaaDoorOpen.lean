/- Plain lemmas of my own for opening arguments: a slice of bytes out of a cell, its reading, its bulk. In the words' vocabulary. -/
import Derived.Test.YthiedcebneejjaaDoorRows
import Derived.Test.YthiedcebneejjaaDoorWWords
import Derived.ProofKit
import Derived.OpenShut
set_option linter.unusedVariables false
set_option linter.unusedSimpArgs false
namespace Go.Proofs.YthiedcebneejjaaDoor.Open
open Go.ChangeShapes Go.WideShapes Go.ChangeAt Go.RowKit
open Go.Proofs.YthiedcebneejjaaDoorW.PrintWords

theorem bulk_one_le {H : Type} (d : DataW H) : 1 ≤ Rows.uptoBulk d := by
  cases d with
  | lit l => cases l <;> simp [Rows.uptoBulk]
  | nil => simp [Rows.uptoBulk]
  | ptr d => simp [Rows.uptoBulk]
  | slice elems spare => simp [Rows.uptoBulk]
  | agg parts => simp [Rows.uptoBulk]
  | iface t d => simp [Rows.uptoBulk]
  | map entries => simp [Rows.uptoBulk]
  | held h => simp [Rows.uptoBulk]
theorem bulk_part {H : Type} {d : DataW H} {l : List (DataW H)} (h : d ∈ l) : Rows.uptoBulk d ≤ Rows.uptoBulkAll l := by
  induction l with
  | nil => cases h
  | cons x r ih =>
    simp only [Rows.uptoBulkAll]
    cases List.mem_cons.1 h with
    | inl e => subst e; omega
    | inr e => have := ih e; omega
theorem bulk_length {H : Type} (l : List (DataW H)) : l.length ≤ Rows.uptoBulkAll l := by
  induction l with
  | nil => simp [Rows.uptoBulkAll]
  | cons x r ih => have := bulk_one_le x; simp only [Rows.uptoBulkAll, List.length_cons]; omega

variable {H : Type} {enc : TypeId × Value → H} {P : Program} {w : World}
/-- A slice of bytes in one cell: nil, or a row: how it reads, what its numbers are, how great it is. -/
theorem open_u8s {t e : TypeId} {fuel : Nat} {v : Value} {y : DataW H × List MemPlace} (ht : P.underlying t = some (.slice e)) (he : P.underlying e = some (.int .u8)) (hc : P.cellsOf e = 1)
    (h : DataW.trod enc P w 0 (fun _ => true) true fuel t [v] = some y) :
    ∃ (A : Option Addr) (c : Nat) (l : List Int), v = .slice A l.length c ∧ l.length ≤ c ∧ Kd.C (Kd.int .u8) w A l.length l ∧ (∀ x ∈ l, 0 ≤ x ∧ x ≤ 255) ∧ l.length ≤ Rows.uptoBulk y.1 := by
  rcases open_ints ht he hc h with ⟨hcs, hy⟩ | ⟨a, len, cap, zs, hcs, _, hl, hm, hz, hy, hcell, hwz⟩
  · simp only [List.cons.injEq, and_true] at hcs
    subst hcs
    obtain ⟨l, hll, hr, _, _, hcl⟩ := ReadsInt.ofRowC (k := .u8) (w := w) (a := none) (len := 0) (cap := 0) (zs := []) (.inl ⟨rfl, rfl, rfl, rfl⟩)
    obtain rfl : l = [] := List.eq_nil_of_length_eq_zero hll.symm
    exact ⟨none, 0, [], rfl, Nat.le_refl _, Kd.C_of_reads (d := (0 : Int)) (h1 := fun _ => rfl) hr, (fun x hx => by cases hx), Nat.zero_le _⟩
  · simp only [List.cons.injEq, and_true] at hcs
    subst hcs
    have hz' : zs.length = cap := by simpa using hz
    obtain ⟨l, hll, hr, _, hw, hcl⟩ := ReadsInt.ofRowC (k := .u8) (w := w) (a := some a) (len := len) (cap := cap) (zs := zs) (.inr ⟨a, rfl, hl, hm, hz', hcell, hwz⟩)
    subst hll
    refine ⟨some a, cap, l, rfl, hcl, Kd.C_of_reads (d := (0 : Int)) (h1 := fun _ => rfl) hr, fun x hx => ?_, ?_⟩
    · have := hw x hx
      simp [Lit.wf, IntKind.min, IntKind.max, IntKind.signed, IntKind.bits] at this
      omega
    · rw [hy]
      simp only [Rows.uptoBulk]
      have h1 := bulk_length (lits (H := H) .u8 (zs.take l.length))
      have h2 : (lits (H := H) .u8 (zs.take l.length)).length = l.length := by simp [lits]; omega
      omega
end Go.Proofs.YthiedcebneejjaaDoor.Open
