/- From the rows' lists of package-level variables to the tables that the contracts ask for. -/
import Derived.Test.YtnkhhnfmijljbaaDoorKnw
import Derived.Lib.LaidTab
set_option linter.unusedVariables false
set_option linter.unusedSimpArgs false
namespace Go.Proofs.YtnkhhnfmijljbaaDoor
open Go.RowKit Go.Lib

def strData {H : Type} (ss : List (List UInt8)) : DataW H := .agg (ss.map fun s => .lit (.string s))
theorem cells_of_strs {H : Type} {enc : TypeId × Value → H} {P : Program} {w : World} {base : Nat} {sp : Nat → Bool} {held : Bool} {fuel : Nat} {t e : TypeId} {n : Nat} {cs : List Value} {ss : List (List UInt8)} {p : List MemPlace}
    (ht : P.underlying t = some (.array n e)) (he : P.underlying e = some .string) (hce : P.cellsOf e = 1) (hct : P.cellsOf t = n)
    (h : DataW.trod enc P w base sp held fuel t cs = some (strData ss, p)) : cs = ss.map fun s => Value.string (strB s) := by
  cases fuel with
  | zero => simp [DataW.trod] at h
  | succ fuel =>
    simp only [DataW.trod, ht, hce, hct, Nat.mul_one] at h
    split at h
    · rename_i hl
      obtain ⟨xs, hm, hx⟩ := Option.map_eq_some_iff.1 h
      have hxs : xs.map (·.1) = ss.map fun s => (DataW.lit (.string s) : DataW H) := by
        have := congrArg Prod.fst hx
        simpa [strData] using this
      have hxl : xs.length = n := by simpa using mapM_length hm
      have hsl : ss.length = n := by
        have := congrArg List.length hxs
        simp at this
        omega
      apply List.ext_getElem?
      intro i
      by_cases hi : i < n
      · obtain ⟨b, hb, hf⟩ := mapM_at hm i i (by simp [hi])
        obtain ⟨s, hc, rfl, _⟩ := DataW.trod_string he hf
        have h1 : cs[i]? = some (.string s) := by
          have := congrArg (·[0]?) hc
          simpa [List.getElem?_take, List.getElem?_drop] using this
        have h2 : (xs.map (·.1))[i]? = some (DataW.lit (.string s.data.toList) : DataW H) := by simp [hb]
        rw [hxs] at h2
        simp only [List.getElem?_map, Option.map_eq_some_iff, DataW.lit.injEq, Lit.string.injEq] at h2
        obtain ⟨z', hz', hzz⟩ := h2
        rw [h1, List.getElem?_map, hz', hzz]
        simp [strB]
      · rw [List.getElem?_eq_none (by omega), List.getElem?_eq_none (by simp; omega)]
    · cases h
theorem lv_num {P : Program} {W : World} {name : String} {k : IntKind} {zs : List Int} {rest : List (String × DataW Unit)} {g : Nat} {t e : TypeId} {n : Nat} {ps : List MemPlace}
    (hg : P.globalNamed name = some g) (hty : (P.globals[g]?).map (·.type) = some t) (ht : P.underlying t = some (.array n e)) (he : P.underlying e = some (.int k)) (hce : P.cellsOf e = 1) (hct : P.cellsOf t = n)
    (h : DataW.LaidVars P W ((name, tabData k zs) :: rest) ps) : W.var? P name = some (zs.map fun z => Value.int k z).toArray ∧ ∃ q, DataW.LaidVars P W rest q := by
  obtain ⟨g', t', cs, fuel, p, q, hg', ht', hvar, hd, hq, _⟩ := h
  obtain rfl := Option.some.inj (hg.symm.trans hg')
  obtain rfl := Option.some.inj (hty.symm.trans ht')
  exact ⟨by rw [hvar, ← cells_of_tab ht he hce hct hd], q, hq⟩
theorem lv_str {P : Program} {W : World} {name : String} {ss : List (List UInt8)} {rest : List (String × DataW Unit)} {g : Nat} {t e : TypeId} {n : Nat} {ps : List MemPlace}
    (hg : P.globalNamed name = some g) (hty : (P.globals[g]?).map (·.type) = some t) (ht : P.underlying t = some (.array n e)) (he : P.underlying e = some .string) (hce : P.cellsOf e = 1) (hct : P.cellsOf t = n)
    (h : DataW.LaidVars P W ((name, strData ss) :: rest) ps) : W.var? P name = some (ss.map fun s => Value.string (strB s)).toArray ∧ ∃ q, DataW.LaidVars P W rest q := by
  obtain ⟨g', t', cs, fuel, p, q, hg', ht', hvar, hd, hq, _⟩ := h
  obtain rfl := Option.some.inj (hg.symm.trans hg')
  obtain rfl := Option.some.inj (hty.symm.trans ht')
  exact ⟨by rw [hvar, ← cells_of_strs ht he hce hct hd], q, hq⟩
theorem range_of_var {P : Program} {W : World} {name : String} {g : Nat} {L : List Value} (hg : P.globalNamed name = some g) (h : W.var? P name = some L.toArray) : W.rangeAt g 0 L := fun j v hv => by
  have := World.var?_cell hg h j
  rw [Nat.zero_add, this]; simpa using hv

theorem gK : Tryd.prog.globalNamed "cairn/sha.k" = some 4 := by kernel_rfl
theorem gF : Tryd.prog.globalNamed "cairn/sha.first" = some 2 := by kernel_rfl
theorem gN : Tryd.prog.globalNamed "cairn/cairnlaw02.known" = some 0 := by kernel_rfl
theorem gS : Tryd.prog.globalNamed "cairn/cairnlaw02.sums" = some 1 := by kernel_rfl
theorem kLaid {H : Type} : (Rows.laid_cairn_sha_k : DataW H) = tabData .u32 (Spec.K.map n32) := by kernel_rfl
theorem fLaid {H : Type} : (Rows.laid_cairn_sha_first : DataW H) = tabData .u32 (Spec.first.list.map n32) := by kernel_rfl
theorem nLaid {H : Type} : (Rows.laid_cairn_cairnlaw02_known : DataW H) = strData knownB := by kernel_rfl
theorem sLaid {H : Type} : (Rows.laid_cairn_cairnlaw02_sums : DataW H) = strData sumsB := by kernel_rfl
theorem i64_of_wf {a : Int} (h : (Lit.int .i64 a).wf = true) : -9223372036854775808 ≤ a ∧ a ≤ 9223372036854775807 := by
  simp [Lit.wf, IntKind.min, IntKind.max, IntKind.signed, IntKind.bits] at h
  omega
/-- the document's rounds lie where the program keeps them -/
def RTab (w : World) : Prop := 3 < w.heap.size ∧ w.rangeAt 3 0 (Spec.K.map u)
theorem gR : Tryd.prog.globalNamed "cairn/cairnref02.rounds" = some 3 := by kernel_rfl
theorem rLaid {H : Type} : (Rows.laid_cairn_cairnref02_rounds : DataW H) = tabData .u32 (Spec.K.map n32) := by kernel_rfl
end Go.Proofs.YtnkhhnfmijljbaaDoor
