/- cairnlaw02.ShaKnown: the closed call returns true, in whatever memory in which the four listed package-level tables hold what the program's text lays in them (the card ties that). No other condition. -/
import Derived.Test.YtnkhhnfmijljbaaDoorCards
import Derived.Test.YtnkhhnfmijljbaaDoorTie
import Derived.Test.YtnkhhnfmijljbaaDoorTab
import Derived.WalkKit
import Derived.ProofKit
import Derived.OpenShut
import Derived.Deep.DeepHandedRow
set_option linter.unusedVariables false
set_option linter.unusedSimpArgs false
namespace Go.Proofs.YtnkhhnfmijljbaaDoor.lawKnown
open Go.ChangeShapes Go.WideShapes Go.ChangeAt Go.RowKit
open Go.Proofs.YtnkhhnfmijljbaaDoor Go.Proofs.YtnkhhnfmijljbaaDoorW.PrintWords

theorem own : ownKnob Tryd.prog.godebug = none := by kernel_rfl
theorem tables {W : World} (h : laidMetH Tryd.prog Rows.shaKnownRow.laid W) : KTab W ∧ FTab W ∧ LTab W := by
  have h1 : laidMet Tryd.prog [("cairn/sha.k", Rows.laid_cairn_sha_k), ("cairn/sha.first", Rows.laid_cairn_sha_first), ("cairn/cairnlaw02.known", Rows.laid_cairn_cairnlaw02_known), ("cairn/cairnlaw02.sums", Rows.laid_cairn_cairnlaw02_sums)] W := h
  obtain ⟨ps, hv, _⟩ := h1
  rw [kLaid, fLaid, nLaid, sLaid] at hv
  obtain ⟨v1, q1, hv⟩ := lv_num gK (by kernel_rfl) Tryd.underlying86 Tryd.underlying53 (by kernel_rfl) (by kernel_rfl) hv
  obtain ⟨v2, q2, hv⟩ := lv_num gF (by kernel_rfl) Tryd.underlying71 Tryd.underlying53 (by kernel_rfl) (by kernel_rfl) hv
  obtain ⟨v3, q3, hv⟩ := lv_str gN (by kernel_rfl) Tryd.underlying70 Tryd.underlying9 (by kernel_rfl) (by kernel_rfl) hv
  obtain ⟨v4, q4, hv⟩ := lv_str gS (by kernel_rfl) Tryd.underlying70 Tryd.underlying9 (by kernel_rfl) (by kernel_rfl) hv
  rw [List.map_map] at v1 v2
  have r1 := range_of_var gK v1
  have r2 := range_of_var gF v2
  have r3 := range_of_var gN v3
  have r4 := range_of_var gS v4
  have l1 := Go.World.block_lt_of_cell? _ _ (r1 0 _ rfl)
  have l2 := Go.World.block_lt_of_cell? _ _ (r2 0 _ rfl)
  have l4 := Go.World.block_lt_of_cell? _ _ (r4 0 _ rfl)
  exact ⟨⟨l1, r1⟩, ⟨l2, r2⟩, ⟨l4, r3, r4⟩⟩

theorem contract (H : Type) (enc : TypeId × Value → H) (W : World) (base : Nat) (args : Array Value) (ds gs : List (DataW H)) (before : List MemPlace)
    (hW : DataW.Whole enc Tryd.prog Tryd.f6.params.toList Rows.shaKnownSpec.vars false W args.toList ds gs before) (hL : laidMetH Tryd.prog Rows.shaKnownRow.laid W) :
    Calls Tryd.prog 6 args W fun e W' => ∃ v, e = .returned v ∧ Rows.shaKnownSpec.post enc Tryd.prog Tryd.f6 false true false false W args v W' := by
  have hW' := hW
  obtain ⟨p, q, hA0, hV, rfl, hfz, hnd⟩ := hW
  have hA : DataW.TrodAll enc Tryd.prog W 0 (fun _ => true) true Tryd.f6.params.toList args.toList ds p := hA0
  rw [Tryd.params6] at hA
  obtain ⟨hargs, rfl, rfl⟩ := trodAll_none hA
  obtain rfl : args = #[] := by cases args; simp_all
  obtain ⟨rfl, rfl⟩ := trodVars_none hV
  obtain ⟨t1, t2, t3⟩ := tables hL
  refine (known_calls W t1 t2 t3).mono fun e W' ⟨he, bel⟩ => ?_
  subst he
  exact ⟨_, rfl, _, _, _, [], _, [], hW', trodAll_mk1 (shut_bool Tryd.underlying4 _), trodAll_mk0, rfl, bel.frame _, fun h => by cases h⟩

noncomputable def lay (cs : List Value) : Obj → Obj
  | .cells _ t frozen => .cells cs.toArray t frozen
  | o => o
noncomputable def laidWorld (os : Os) : World :=
  { World.holding Tryd.prog os ⟨#[], #[], []⟩ with heap := ((((World.holding Tryd.prog os ⟨#[], #[], []⟩).heap.modify 4 (lay (Spec.K.map u))).modify 2 (lay (Spec.first.list.map u))).modify 0 (lay (knownB.map fun l => Value.string (strB l)))).modify 1 (lay (sumsB.map fun l => Value.string (strB l))) }
theorem laid_met (os : Os) : laidMet Tryd.prog Rows.shaKnownRow.laid ((laidWorld os).forCall (fun _ _ => 0) ⟨#[], #[], []⟩).memory :=
  laidMet_of_run' 8 (by kernel_rfl) (by kernel_rfl)
theorem reads (os : Os) {H : Type} (enc : TypeId × Value → H) : ∃ places, DataW.whole enc Tryd.prog ((laidWorld os).forCall (fun _ _ => 0) ⟨#[], #[], []⟩).memory Tryd.f6.params.toList Rows.shaKnownSpec.vars false (#[] : Array Value).toList 8 = some ([], [], places) :=
  ⟨[], by kernel_rfl⟩

set_option maxRecDepth 100000 in
theorem lifted (os : Os) (started : os.Started) (H : Type) (enc : TypeId × Value → H) (F : Stop.Interp) :
    ReturnsInHanded {} Tryd.checked os 6 .any ((OpenSpec.ofChange Rows.shaKnownSpec).preRow enc Tryd.prog Tryd.f6 Rows.shaKnownRow.domain false Rows.shaKnownRow.laid) (((OpenSpec.ofChange Rows.shaKnownSpec).at F).post enc Tryd.prog Tryd.f6 false true false false) := by
  obtain ⟨places, hx⟩ := reads os enc
  refine returnsInHanded_of_row (C := Tryd.checked) (s := OpenSpec.ofChange Rows.shaKnownSpec) own started (by kernel_rfl) Tryd.func6
    (witness_row_at (enc := enc) (C := Tryd.checked) false (laidWorld os) #[] rfl (by kernel_rfl) (by kernel_rfl) (by kernel_rfl)
      (OpenSpec.preRow_of_cond 8 hx (by kernel_rfl) (fun k hk => by cases hk) (by kernel_rfl) (laid_met os))) ?_
  intro W base args ds gs before hval hW _ _ _ hL _ _
  exact contract H enc W base args ds gs before hW hL

theorem said : Rows.ShaKnownSaid :=
  OpenClaim.holds_of_cond 6 Tryd.f6 rfl rfl rfl rfl rfl rfl rfl ⟨rfl, rfl, rfl, rfl, rfl⟩ rfl rfl rfl rfl rfl (by kernel_rfl) Tryd.func6 (by kernel_rfl)
    (of_decide_eq_true (by kernel_rfl)) (by unfold Func.isWrapper; first | (rw [if_pos (by decide +kernel)]; kernel_rfl) | (rw [if_neg (by decide +kernel)]; exact ⟨rfl, rfl⟩))
    (fun os started H enc _ F => by rw [OpenClaim.pre_eq_preRow]; exact lifted os started H enc F)

theorem plain (f : FuncId) (fn : Func) (hf : Tryd.pinned.checked.prog.funcNamed "cairn/cairnlaw02.ShaKnown" = some f) (hfn : Tryd.pinned.checked.prog.funcs[f]? = some fn) :
    false = Tryd.pinned.checked.prog.looks [] ∧ ∀ (j : Nat) t, fn.params[j]? = some t → Tryd.pinned.checked.prog.wantsStandIn t = false := by
  obtain rfl : f = 6 := Option.some.inj ((show Tryd.prog.funcNamed "cairn/cairnlaw02.ShaKnown" = some 6 by kernel_rfl).symm.trans hf) |>.symm
  obtain rfl : fn = Tryd.f6 := (Option.some.inj (Tryd.func6.symm.trans hfn)).symm
  refine ⟨by kernel_rfl, fun j t ht => ?_⟩
  rw [Tryd.params6] at ht
  simp at ht

/-- the card -/
theorem card : Rows.ShaKnownCardSaid :=
  Claim7.holds_tied_plain_at .later [] _ _ _ _ said (fun _ h => by cases h) (by kernel_rfl) (fun _ h => by cases h) shaKnown_row_tie rfl ⟨rfl, rfl⟩ (by kernel_rfl) rfl plain (by kernel_rfl)
#print axioms card
end Go.Proofs.YtnkhhnfmijljbaaDoor.lawKnown
