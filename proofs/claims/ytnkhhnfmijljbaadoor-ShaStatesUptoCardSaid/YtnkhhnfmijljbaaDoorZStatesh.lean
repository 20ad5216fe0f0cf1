/- cairnlaw02.ShaStates: where the argument is of bulk at most 1048576 it returns true, and it reads as before, in whatever memory in which the five listed package-level tables hold what the program's text lays in them (the card ties that). -/
import Derived.Test.YtnkhhnfmijljbaaDoorCards
import Derived.Test.YtnkhhnfmijljbaaDoorTie
import Derived.Test.YtnkhhnfmijljbaaDoorZStatesb
import Derived.Test.YtnkhhnfmijljbaaDoorZStatesg
import Derived.WalkKit
import Derived.ProofKit
import Derived.OpenShut
import Derived.Deep.DeepHandedRow
set_option linter.unusedVariables false
set_option linter.unusedSimpArgs false
namespace Go.Proofs.YtnkhhnfmijljbaaDoor.lawShaStates
open Go.ChangeShapes Go.WideShapes Go.ChangeAt Go.RowKit
open Go.Proofs.YtnkhhnfmijljbaaDoor Go.Proofs.YtnkhhnfmijljbaaDoorW.PrintWords
open Extern.Stop (cell)

theorem own : ownKnob Tryd.prog.godebug = none := by kernel_rfl
theorem laidOut : laidOutB Tryd.prog = true := by kernel_rfl
theorem tables {W : World} (h : laidMetH Tryd.prog Rows.shaStatesUptoRow.laid W) : KTab W ∧ FTab W ∧ RTab W ∧ LTab W := by
  have h1 : laidMet Tryd.prog [("cairn/cairnref02.rounds", Rows.laid_cairn_cairnref02_rounds), ("cairn/sha.k", Rows.laid_cairn_sha_k), ("cairn/sha.first", Rows.laid_cairn_sha_first), ("cairn/cairnlaw02.known", Rows.laid_cairn_cairnlaw02_known), ("cairn/cairnlaw02.sums", Rows.laid_cairn_cairnlaw02_sums)] W := h
  obtain ⟨ps, hv, _⟩ := h1
  rw [rLaid, kLaid, fLaid, nLaid, sLaid] at hv
  obtain ⟨v0, q0, hv⟩ := lv_num gR (by kernel_rfl) Tryd.underlying86 Tryd.underlying53 (by kernel_rfl) (by kernel_rfl) hv
  rw [List.map_map] at v0
  have r0 := range_of_var gR v0
  have l0 := Go.World.block_lt_of_cell? _ _ (r0 0 _ rfl)
  obtain ⟨v1, q1, hv⟩ := lv_num gK (by kernel_rfl) Tryd.underlying86 Tryd.underlying53 (by kernel_rfl) (by kernel_rfl) hv
  rw [List.map_map] at v1
  have r1 := range_of_var gK v1
  have l1 := Go.World.block_lt_of_cell? _ _ (r1 0 _ rfl)
  obtain ⟨v2, q2, hv⟩ := lv_num gF (by kernel_rfl) Tryd.underlying71 Tryd.underlying53 (by kernel_rfl) (by kernel_rfl) hv
  rw [List.map_map] at v2
  have r2 := range_of_var gF v2
  have l2 := Go.World.block_lt_of_cell? _ _ (r2 0 _ rfl)
  obtain ⟨v3, q3, hv⟩ := lv_str gN (by kernel_rfl) Tryd.underlying70 Tryd.underlying9 (by kernel_rfl) (by kernel_rfl) hv
  have r3 := range_of_var gN v3
  have l3 := Go.World.block_lt_of_cell? _ _ (r3 0 _ rfl)
  obtain ⟨v4, q4, hv⟩ := lv_str gS (by kernel_rfl) Tryd.underlying70 Tryd.underlying9 (by kernel_rfl) (by kernel_rfl) hv
  have r4 := range_of_var gS v4
  have l4 := Go.World.block_lt_of_cell? _ _ (r4 0 _ rfl)
  exact ⟨⟨l1, r1⟩, ⟨l2, r2⟩, ⟨l0, r0⟩, ⟨l4, r3, r4⟩⟩

theorem contract (H : Type) (enc : TypeId × Value → H) (W : World) (base : Nat) (args : Array Value) (ds gs : List (DataW H)) (before : List MemPlace)
    (hval : ∀ (j : Nat) t v, Tryd.f7.params[j]? = some t → args[j]? = some v → Value.okWide Tryd.prog W .any base t v)
    (hW : DataW.Whole enc Tryd.prog Tryd.f7.params.toList Rows.shaStatesSpec.vars false W args.toList ds gs before) (hk : Rows.uptoSmall H (ds ++ gs) = true) (hL : laidMetH Tryd.prog Rows.shaStatesUptoRow.laid W) :
    Calls Tryd.prog 7 args W fun e W' => ∃ v, e = .returned v ∧ Rows.shaStatesSpec.post enc Tryd.prog Tryd.f7 false true false false W args v W' := by
  have hW' := hW
  obtain ⟨p, q, hA0, hV, rfl, hfz, hnd⟩ := hW
  have hA : DataW.TrodAll enc Tryd.prog W 0 (fun _ => true) true Tryd.f7.params.toList args.toList ds p := hA0
  rw [Tryd.params7] at hA hval
  obtain ⟨v0, vs0, d0, ds0, p0, q0, hargs, rfl, rfl, h0, r0⟩ := trodAll_cons hA
  obtain ⟨rfl, rfl, rfl⟩ := trodAll_nil r0
  obtain rfl : args = #[v0] := by cases args; simp_all
  obtain ⟨rfl, rfl⟩ := trodVars_none hV
  have k0 := h0
  have lt0 : ∀ x ∈ p0, x.block < W.heap.size := by obtain ⟨m, hm⟩ := k0; exact DataW.trod_lt m _ _ _ hm
  have hbulk := of_decide_eq_true hk
  simp only [List.append_nil, List.cons_append, List.nil_append, Rows.uptoBulkAll] at hbulk
  clear hk
  obtain ⟨A0, c0, xs0, rfl, hc0, hb0, hu0⟩ := open_arg_ops (hval 0 44 v0 rfl rfl) h0
  clear hA0 hnd hfz
  have ht := tables hL
  have hfs := ops_sum xs0
  refine (shaStates_calls W A0 c0 xs0 ht.1 ht.2.1 ht.2.2.2 ht.2.2.1 hb0 hc0 (by omega) (by omega)).mono fun e W' ⟨he, bel⟩ => ?_
  subst he
  exact ⟨_, rfl, _, _, _, [], _, [], hW', trodAll_mk1 (shut_bool Tryd.underlying4 _), (trodAll_cons_mk (Below.trod laidOut (by kernel_rfl) (of_decide_eq_true (by kernel_rfl)) k0 bel lt0) trodAll_mk0), rfl, bel.frame _, fun h => by cases h⟩

noncomputable def lay (cs : List Value) : Obj → Obj
  | .cells _ t frozen => .cells cs.toArray t frozen
  | o => o
noncomputable def laidWorld (os : Os) : World :=
  { World.holding Tryd.prog os ⟨#[], #[], []⟩ with heap := ((((((World.holding Tryd.prog os ⟨#[], #[], []⟩).heap.modify 3 (lay (Spec.K.map u))).modify 4 (lay (Spec.K.map u))).modify 2 (lay (Spec.first.list.map u))).modify 0 (lay (knownB.map fun l => Value.string (strB l)))).modify 1 (lay (sumsB.map fun l => Value.string (strB l)))) }
theorem laid_met (os : Os) : laidMet Tryd.prog Rows.shaStatesUptoRow.laid ((laidWorld os).forCall (fun _ _ => 0) ⟨#[], #[.slice none 0 0], []⟩).memory :=
  laidMet_of_run' 8 (by kernel_rfl) (by kernel_rfl)
theorem reads (os : Os) {H : Type} (enc : TypeId × Value → H) : ∃ places, DataW.whole enc Tryd.prog ((laidWorld os).forCall (fun _ _ => 0) ⟨#[], #[.slice none 0 0], []⟩).memory Tryd.f7.params.toList Rows.shaStatesSpec.vars false (#[.slice none 0 0] : Array Value).toList 8 = some ([.nil], [], places) :=
  ⟨[], by kernel_rfl⟩

set_option maxRecDepth 100000 in
theorem lifted (os : Os) (started : os.Started) (H : Type) (enc : TypeId × Value → H) (F : Stop.Interp) :
    ReturnsInHanded {} Tryd.checked os 7 .any ((Rows.OpenSpec.upto Rows.shaStatesSpec).preRow enc Tryd.prog Tryd.f7 Rows.shaStatesUptoRow.domain false Rows.shaStatesUptoRow.laid) (((Rows.OpenSpec.upto Rows.shaStatesSpec).at F).post enc Tryd.prog Tryd.f7 false true false false) := by
  obtain ⟨places, hx⟩ := reads os enc
  refine returnsInHanded_of_row (C := Tryd.checked) (s := (Rows.OpenSpec.upto Rows.shaStatesSpec)) own started (by kernel_rfl) Tryd.func7
    (witness_row_at (enc := enc) (C := Tryd.checked) false (laidWorld os) #[.slice none 0 0] rfl (by kernel_rfl) (by kernel_rfl) (by kernel_rfl)
      (OpenSpec.preRow_of_cond 8 hx (by kernel_rfl) (fun k hk => by cases hk; kernel_rfl) (by kernel_rfl) (laid_met os))) ?_
  intro W base args ds gs before hval hW _ hcond _ hL _ _
  exact contract H enc W base args ds gs before hval hW (hcond _ rfl) hL

theorem said : Rows.ShaStatesUptoSaid :=
  OpenClaim.holds_of_cond 7 Tryd.f7 rfl rfl rfl rfl rfl rfl rfl ⟨rfl, rfl, rfl, rfl, rfl⟩ rfl rfl rfl rfl rfl (by kernel_rfl) Tryd.func7 (by kernel_rfl)
    (of_decide_eq_true (by kernel_rfl)) (by unfold Func.isWrapper; first | (rw [if_pos (by decide +kernel)]; kernel_rfl) | (rw [if_neg (by decide +kernel)]; exact ⟨rfl, rfl⟩))
    (fun os started H enc _ F => by rw [OpenClaim.pre_eq_preRow]; exact lifted os started H enc F)

theorem plain (f : FuncId) (fn : Func) (hf : Tryd.pinned.checked.prog.funcNamed "cairn/cairnlaw02.ShaStates" = some f) (hfn : Tryd.pinned.checked.prog.funcs[f]? = some fn) :
    false = Tryd.pinned.checked.prog.looks [] ∧ ∀ (j : Nat) t, fn.params[j]? = some t → Tryd.pinned.checked.prog.wantsStandIn t = false := by
  obtain rfl : f = 7 := Option.some.inj ((show Tryd.prog.funcNamed "cairn/cairnlaw02.ShaStates" = some 7 by kernel_rfl).symm.trans hf) |>.symm
  obtain rfl : fn = Tryd.f7 := (Option.some.inj (Tryd.func7.symm.trans hfn)).symm
  refine ⟨by kernel_rfl, fun j t ht => ?_⟩
  rw [Tryd.params7] at ht
  match j, ht with
  | 0, ht =>
    obtain rfl : 44 = t := by simpa using ht
    exact (show Tryd.prog.wantsStandIn 44 = false by kernel_rfl)
  | j + 1, ht => simp at ht

/-- the card -/
theorem card : Rows.ShaStatesUptoCardSaid :=
  Claim7.holds_tied_plain_at .later [] _ _ _ _ said (fun _ h => by cases h) (by kernel_rfl) (fun _ h => by cases h) shaStatesUpto_row_tie rfl ⟨rfl, rfl⟩ (by kernel_rfl) rfl plain (by kernel_rfl)
#print axioms card
end Go.Proofs.YtnkhhnfmijljbaaDoor.lawShaStates
