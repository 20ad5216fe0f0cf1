/- Arguments opened: slices of bytes, of numbers, of slices of bytes; how great they are. -/
import Derived.Test.YtnkhhnfmijljbaaDoorOwn
import Derived.ProofKit
import Derived.OpenShut
set_option linter.unusedVariables false
set_option linter.unusedSimpArgs false
namespace Go.Proofs.YtnkhhnfmijljbaaDoor
open Go.ChangeShapes Go.WideShapes Go.ChangeAt Go.RowKit Go.Proofs.YtnkhhnfmijljbaaDoorW.PrintWords Go.Proofs.YtnkhhnfmijljbaaDoorW.PrintLast Go.Proofs.YtnkhhnfmijljbaaDoorW.PrintMore
open Extern.Stop (cell)

theorem bulk_one_le {H : Type} (d : DataW H) : 1 ≤ Rows.uptoBulk d := by
  cases d with
  | lit l => cases l <;> simp [Rows.uptoBulk]
  | nil => simp [Rows.uptoBulk]
  | ptr d => simp [Rows.uptoBulk]
  | slice elems spare => simp [Rows.uptoBulk]
  | agg parts => simp [Rows.uptoBulk]
  | iface t d => simp [Rows.uptoBulk]
  | map entries => simp [Rows.uptoBulk]
  | held h => simp [Rows.uptoBulk]
theorem bulk_length {H : Type} (l : List (DataW H)) : l.length ≤ Rows.uptoBulkAll l := by
  induction l with
  | nil => simp [Rows.uptoBulkAll]
  | cons x r ih => have := bulk_one_le x; simp only [Rows.uptoBulkAll, List.length_cons]; omega
theorem bulk_sum {H : Type} {α : Type} (g : α → Nat) : ∀ (E : List (DataW H)) (f : Nat → α), (∀ i d, E[i]? = some d → g (f i) ≤ Rows.uptoBulk d) → (((List.range E.length).map f).map g).sum ≤ Rows.uptoBulkAll E
  | [], _, _ => by simp [Rows.uptoBulkAll]
  | d :: E, f, h => by
    have h0 := h 0 d rfl
    have ih := bulk_sum g E (f ∘ Nat.succ) (fun i d' hi => h (i + 1) d' (by simpa using hi))
    simp only [List.length_cons, List.range_succ_eq_map, List.map_cons, List.sum_cons, Rows.uptoBulkAll, List.map_map] at ih ⊢
    omega
section
variable {H : Type} {enc : TypeId × Value → H} {P : Program} {w : World} {t e : TypeId} {fuel : Nat} {v : Value}
theorem open_nums {k : IntKind} {y : DataW H × List MemPlace} (ht : P.underlying t = some (.slice e)) (he : P.underlying e = some (.int k)) (hc : P.cellsOf e = 1)
    (h : DataW.trod enc P w 0 (fun _ => true) true fuel t [v] = some y) :
    ∃ (A : Option Addr) (c : Nat) (l : List Int), v = .slice A l.length c ∧ l.length ≤ c ∧ ReadsInt w k A l.length l ∧ (∀ x ∈ l, (Lit.int k x).wf = true) ∧ l.length + 1 ≤ Rows.uptoBulk y.1 := by
  rcases open_ints ht he hc h with ⟨hcs, hy⟩ | ⟨a, len, cap, zs, hcs, _, hl, hm, hz, hy, hcell, hwz⟩
  · simp only [List.cons.injEq, and_true] at hcs
    subst hcs
    obtain ⟨l, hll, hr, _, _, hcl⟩ := ReadsInt.ofRowC (k := k) (w := w) (a := none) (len := 0) (cap := 0) (zs := []) (.inl ⟨rfl, rfl, rfl, rfl⟩)
    obtain rfl : l = [] := List.eq_nil_of_length_eq_zero hll.symm
    exact ⟨none, 0, [], rfl, Nat.le_refl _, hr, (fun x hx => by cases hx), by rw [hy]; simp [Rows.uptoBulk]⟩
  · simp only [List.cons.injEq, and_true] at hcs
    subst hcs
    have hz' : zs.length = cap := by simpa using hz
    obtain ⟨l, hll, hr, _, hw, hcl⟩ := ReadsInt.ofRowC (k := k) (w := w) (a := some a) (len := len) (cap := cap) (zs := zs) (.inr ⟨a, rfl, hl, hm, hz', hcell, hwz⟩)
    subst hll
    refine ⟨some a, cap, l, rfl, hcl, hr, hw, ?_⟩
    rw [hy]
    simp only [Rows.uptoBulk]
    have h1 := bulk_length (lits (H := H) k (zs.take l.length))
    have h2 : (lits (H := H) k (zs.take l.length)).length = l.length := by simp [lits]; omega
    omega
theorem bytes_of_ints (l : List Int) (h : ∀ x ∈ l, (Lit.int .u8 x).wf = true) : ∃ xs : List UInt8, l = ints xs := by
  refine ⟨l.map fun z => UInt8.ofNat z.toNat, ?_⟩
  rw [ints, List.map_map]
  conv => lhs; rw [← List.map_id l]
  refine List.map_congr_left (fun z hz => ?_)
  have := u8_of_wf (h z hz)
  simp only [Function.comp_apply, n8, id]
  rw [UInt8.toNat_ofNat', show z.toNat % 2 ^ 8 = z.toNat by omega]
  exact (Int.toNat_of_nonneg this.1).symm
theorem open_u8s {y : DataW H × List MemPlace} (ht : P.underlying t = some (.slice e)) (he : P.underlying e = some (.int .u8)) (hc : P.cellsOf e = 1)
    (h : DataW.trod enc P w 0 (fun _ => true) true fuel t [v] = some y) :
    ∃ (A : Option Addr) (c : Nat) (xs : List UInt8), v = .slice A xs.length c ∧ xs.length ≤ c ∧ Bs w A xs.length xs ∧ xs.length + 1 ≤ Rows.uptoBulk y.1 := by
  obtain ⟨A, c, l, rfl, hl, hr, hw, hb⟩ := open_nums ht he hc h
  obtain ⟨xs, rfl⟩ := bytes_of_ints l hw
  rw [ints_length] at hl hr hb ⊢
  exact ⟨A, c, xs, rfl, hl, Kd.C_of_reads (d := (0 : Int)) (h1 := fun _ => rfl) hr, hb⟩
end
section
variable {H : Type} {enc : TypeId × Value → H} {w : World} {r : Reach} {b0 : Nat} {v : Value} {d : DataW H} {p : List MemPlace}
theorem cells5 : Tryd.prog.cellsOf 5 = 1 := by kernel_rfl
theorem cells3 : Tryd.prog.cellsOf 3 = 1 := by kernel_rfl
theorem cells24 : Tryd.prog.cellsOf 24 = 1 := by kernel_rfl
/-- an argument []byte -/
theorem open_arg_bs (hv : Value.okWide Tryd.prog w r b0 24 v) (h : DataW.Trod enc Tryd.prog w 0 (fun _ => true) true 24 v d p) :
    ∃ (A : Option Addr) (c : Nat) (xs : List UInt8), v = .slice A xs.length c ∧ xs.length ≤ c ∧ Bs w A xs.length xs ∧ xs.length + 1 ≤ Rows.uptoBulk d := by
  obtain ⟨a, n, c, rfl⟩ := okWide_slice Tryd.underlying24 hv
  obtain ⟨fuel, hf⟩ := h
  exact open_u8s Tryd.underlying24 Tryd.underlying5 cells5 hf
/-- an argument []int -/
theorem open_arg_is (hv : Value.okWide Tryd.prog w r b0 34 v) (h : DataW.Trod enc Tryd.prog w 0 (fun _ => true) true 34 v d p) :
    ∃ (A : Option Addr) (c : Nat) (l : List Int), v = .slice A l.length c ∧ l.length ≤ c ∧ ReadsInt w .i64 A l.length l ∧ (∀ x ∈ l, (Lit.int .i64 x).wf = true) ∧ l.length + 1 ≤ Rows.uptoBulk d := by
  obtain ⟨a, n, c, rfl⟩ := okWide_slice Tryd.underlying34 hv
  obtain ⟨fuel, hf⟩ := h
  exact open_nums Tryd.underlying34 Tryd.underlying3 cells3 hf
/-- an argument [][]byte -/
theorem open_arg_bss (hv : Value.okWide Tryd.prog w r b0 22 v) (h : DataW.Trod enc Tryd.prog w 0 (fun _ => true) true 22 v d p) :
    ∃ (A : Option Addr) (c : Nat) (ps : List (List UInt8)), v = .slice A ps.length c ∧ ps.length ≤ c ∧ Bss w A ps.length ps ∧ (ps.map fun x => x.length + 1).sum ≤ Rows.uptoBulk d := by
  obtain ⟨a, n, c, rfl⟩ := okWide_slice Tryd.underlying22 hv
  obtain ⟨fuel, hf⟩ := h
  rcases DataW.trod_slice Tryd.underlying22 hf with ⟨hcs, hy⟩ | ⟨a', len, cap, elems, rest, m, _, hcs, hx, hb, hl, hm, hlen, hel, hsp, hns⟩
  · have e : (Value.slice a n c) = .slice none 0 0 := by simpa [Value.cells] using hcs
    injection e with e1 e2 e3
    subst e1 e2 e3
    refine ⟨none, 0, [], rfl, Nat.le_refl _, ⟨rfl, by simp, fun hp => by simp at hp⟩, Nat.zero_le _⟩
  · have e : (Value.slice a n c) = .slice (some a') len cap := by simpa [Value.cells] using hcs
    injection e with e1 e2 e3
    subst e1 e2 e3
    have key : ∀ i, ∃ q : List UInt8, ∀ y, elems[i]? = some y → (∃ A' c', w.cell? (a'.add i) = some (.slice A' q.length c') ∧ q.length ≤ c' ∧ Bs w A' q.length q) ∧ q.length + 1 ≤ Rows.uptoBulk y.1 := by
      intro i
      by_cases hi : i < elems.length
      · have h1 := hel i (by omega)
        rw [List.getElem?_eq_getElem hi, cells24, Nat.mul_one, Option.bind_eq_some_iff] at h1
        obtain ⟨cs', hcs', hy⟩ := h1
        obtain ⟨cv, rfl⟩ : ∃ cv, cs' = [cv] := by
          cases cs' with
          | nil => cases m <;> simp [DataW.trod, Tryd.underlying24] at hy
          | cons x l =>
            cases l with
            | nil => exact ⟨x, rfl⟩
            | cons z l => cases m <;> simp [DataW.trod, Tryd.underlying24] at hy
        obtain ⟨A', c', q, rfl, h2, h3, h4⟩ := open_u8s Tryd.underlying24 Tryd.underlying5 cells5 hy
        refine ⟨q, fun y hy' => ?_⟩
        rw [List.getElem?_eq_getElem hi] at hy'
        cases hy'
        exact ⟨⟨A', c', cell_of_cells?_one hcs', h2, h3⟩, h4⟩
      · exact ⟨[], fun y hy => by rw [List.getElem?_eq_none (by omega)] at hy; cases hy⟩
    obtain ⟨f, hfq⟩ := Classical.axiomOfChoice key
    have hel' : ∀ i, i < elems.length → elems[i]? = some (elems[i]?.getD (.nil, [])) := fun i hi => by rw [List.getElem?_eq_getElem hi]; rfl
    refine ⟨some a', c, (List.range n).map f, by simp, by simpa using hl, ⟨by simp, by simp; unfold maxLen at hm; omega, fun hp => ⟨a', rfl, fun j q hj => ?_⟩⟩, ?_⟩
    · obtain ⟨hjl, hq⟩ := List.getElem?_eq_some_iff.1 hj
      have hjl' : j < n := by simpa using hjl
      have hq' : q = ints (f j) := by rw [← hq]; simp
      subst hq'
      obtain ⟨⟨A', c', h2, h3, h4⟩, _⟩ := hfq j _ (hel' j (by omega))
      refine ⟨[.slice A' (f j).length c'], rfl, ⟨A', c', by rw [ints_length], by rw [ints_length]; exact h3, by rw [ints_length]; exact h4⟩, fun i u hu => ?_⟩
      have hi : i = 0 := by
        have := (List.getElem?_eq_some_iff.1 hu).1
        simpa using this
      subst hi
      have hu' : u = .slice A' (f j).length c' := by simpa using hu.symm
      rw [hu', show a'.add (j * (Kd.slice 5 (Kd.int .u8)).sz + 0) = a'.add j by show a'.add (j * 1 + 0) = _; rw [Nat.mul_one, Nat.add_zero]]
      exact h2
    · have hd : d = .slice (elems.map (·.1)) (rest.map (·.1)) := congrArg Prod.fst hx
      have h1 := bulk_sum (fun x : List UInt8 => x.length + 1) (elems.map (·.1)) f (fun i y hi => by
        rw [List.getElem?_map, Option.map_eq_some_iff] at hi
        obtain ⟨z, hz, rfl⟩ := hi
        exact (hfq i z hz).2)
      rw [List.length_map, hlen] at h1
      rw [hd]
      simp only [Rows.uptoBulk]
      omega
end
end Go.Proofs.YtnkhhnfmijljbaaDoor
