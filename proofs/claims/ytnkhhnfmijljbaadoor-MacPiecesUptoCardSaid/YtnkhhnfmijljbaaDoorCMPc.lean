/- cairnlaw03.MacPieces: where the arguments are together of bulk at most 1048576 it returns true, and they read as before, in whatever memory in which the two listed package-level tables hold what the program's text lays in them (the card ties that). -/
import Derived.Test.YtnkhhnfmijljbaaDoorCards
import Derived.Test.YtnkhhnfmijljbaaDoorTie
import Derived.Test.YtnkhhnfmijljbaaDoorTab
import Derived.Test.YtnkhhnfmijljbaaDoorMPc
import Derived.Test.YtnkhhnfmijljbaaDoorOpf
import Derived.WalkKit
import Derived.ProofKit
import Derived.OpenShut
import Derived.Deep.DeepHandedRow
set_option linter.unusedVariables false
set_option linter.unusedSimpArgs false
namespace Go.Proofs.YtnkhhnfmijljbaaDoor.lawMacPieces
open Go.ChangeShapes Go.WideShapes Go.ChangeAt Go.RowKit
open Go.Proofs.YtnkhhnfmijljbaaDoor Go.Proofs.YtnkhhnfmijljbaaDoorW.PrintWords
open Extern.Stop (cell)

theorem own : ownKnob Tryd.prog.godebug = none := by kernel_rfl
theorem laidOut : laidOutB Tryd.prog = true := by kernel_rfl
theorem tables {W : World} (h : laidMetH Tryd.prog Rows.macPiecesUptoRow.laid W) : KTab W ∧ FTab W := by
  have h1 : laidMet Tryd.prog [("cairn/sha.k", Rows.laid_cairn_sha_k), ("cairn/sha.first", Rows.laid_cairn_sha_first)] W := h
  obtain ⟨ps, hv, _⟩ := h1
  rw [kLaid, fLaid] at hv
  obtain ⟨v0, q0, hv⟩ := lv_num gK (by kernel_rfl) Tryd.underlying86 Tryd.underlying53 (by kernel_rfl) (by kernel_rfl) hv
  rw [List.map_map] at v0
  have r0 := range_of_var gK v0
  have l0 := Go.World.block_lt_of_cell? _ _ (r0 0 _ rfl)
  obtain ⟨v1, q1, hv⟩ := lv_num gF (by kernel_rfl) Tryd.underlying71 Tryd.underlying53 (by kernel_rfl) (by kernel_rfl) hv
  rw [List.map_map] at v1
  have r1 := range_of_var gF v1
  have l1 := Go.World.block_lt_of_cell? _ _ (r1 0 _ rfl)
  exact ⟨⟨l0, r0⟩, ⟨l1, r1⟩⟩

theorem contract (H : Type) (enc : TypeId × Value → H) (W : World) (base : Nat) (args : Array Value) (ds gs : List (DataW H)) (before : List MemPlace)
    (hval : ∀ (j : Nat) t v, Tryd.f10.params[j]? = some t → args[j]? = some v → Value.okWide Tryd.prog W .any base t v)
    (hW : DataW.Whole enc Tryd.prog Tryd.f10.params.toList Rows.macPiecesSpec.vars false W args.toList ds gs before) (hk : Rows.uptoSmall H (ds ++ gs) = true) (hL : laidMetH Tryd.prog Rows.macPiecesUptoRow.laid W) :
    Calls Tryd.prog 10 args W fun e W' => ∃ v, e = .returned v ∧ Rows.macPiecesSpec.post enc Tryd.prog Tryd.f10 false true false false W args v W' := by
  have hW' := hW
  obtain ⟨p, q, hA0, hV, rfl, hfz, hnd⟩ := hW
  have hA : DataW.TrodAll enc Tryd.prog W 0 (fun _ => true) true Tryd.f10.params.toList args.toList ds p := hA0
  rw [Tryd.params10] at hA hval
  obtain ⟨v0, vs0, d0, ds0, p0, q0, hargs, rfl, rfl, h0, r0⟩ := trodAll_cons hA
  obtain ⟨v1, vs1, d1, ds1, p1, q1, rfl, rfl, rfl, h1, r1⟩ := trodAll_cons r0
  obtain ⟨v2, vs2, d2, ds2, p2, q2, rfl, rfl, rfl, h2, r2⟩ := trodAll_cons r1
  obtain ⟨rfl, rfl, rfl⟩ := trodAll_nil r2
  obtain rfl : args = #[v0, v1, v2] := by cases args; simp_all
  obtain ⟨rfl, rfl⟩ := trodVars_none hV
  have k0 := h0
  have lt0 : ∀ x ∈ p0, x.block < W.heap.size := by obtain ⟨m, hm⟩ := k0; exact DataW.trod_lt m _ _ _ hm
  have k1 := h1
  have lt1 : ∀ x ∈ p1, x.block < W.heap.size := by obtain ⟨m, hm⟩ := k1; exact DataW.trod_lt m _ _ _ hm
  have k2 := h2
  have lt2 : ∀ x ∈ p2, x.block < W.heap.size := by obtain ⟨m, hm⟩ := k2; exact DataW.trod_lt m _ _ _ hm
  have hbulk := of_decide_eq_true hk
  simp only [List.append_nil, List.cons_append, List.nil_append, Rows.uptoBulkAll] at hbulk
  clear hk
  obtain ⟨A0, c0, xs0, rfl, hc0, hb0, hu0⟩ := open_arg_bs (hval 0 24 v0 rfl rfl) h0
  obtain ⟨A1, c1, xs1, rfl, hc1, hb1, hu1⟩ := open_arg_bss (hval 1 22 v1 rfl rfl) h1
  obtain ⟨A2, c2, xs2, rfl, hc2, hb2, hu2⟩ := open_arg_bs (hval 2 24 v2 rfl rfl) h2
  clear hA0 hnd hfz
  have ht := tables hL
  have hfs := flat_sum xs1
  refine (macPieces_calls W A0 c0 xs0 A1 c1 xs1 A2 c2 xs2 ht.1 ht.2 hb0 hc0 (by omega) hb1 (by omega) (by omega) hb2 hc2 (by omega)).mono fun e W' ⟨he, bel⟩ => ?_
  subst he
  exact ⟨_, rfl, _, _, _, [], _, [], hW', trodAll_mk1 (shut_bool Tryd.underlying4 _), (trodAll_cons_mk (Below.trod laidOut (by kernel_rfl) (of_decide_eq_true (by kernel_rfl)) k0 bel lt0) (trodAll_cons_mk (Below.trod laidOut (by kernel_rfl) (of_decide_eq_true (by kernel_rfl)) k1 bel lt1) (trodAll_cons_mk (Below.trod laidOut (by kernel_rfl) (of_decide_eq_true (by kernel_rfl)) k2 bel lt2) trodAll_mk0))), rfl, bel.frame _, fun h => by cases h⟩

noncomputable def lay (cs : List Value) : Obj → Obj
  | .cells _ t frozen => .cells cs.toArray t frozen
  | o => o
noncomputable def laidWorld (os : Os) : World :=
  { World.holding Tryd.prog os ⟨#[], #[], []⟩ with heap := (((World.holding Tryd.prog os ⟨#[], #[], []⟩).heap.modify 4 (lay (Spec.K.map u))).modify 2 (lay (Spec.first.list.map u))) }
theorem laid_met (os : Os) : laidMet Tryd.prog Rows.macPiecesUptoRow.laid ((laidWorld os).forCall (fun _ _ => 0) ⟨#[], #[.slice none 0 0, .slice none 0 0, .slice none 0 0], []⟩).memory :=
  laidMet_of_run' 8 (by kernel_rfl) (by kernel_rfl)
theorem reads (os : Os) {H : Type} (enc : TypeId × Value → H) : ∃ places, DataW.whole enc Tryd.prog ((laidWorld os).forCall (fun _ _ => 0) ⟨#[], #[.slice none 0 0, .slice none 0 0, .slice none 0 0], []⟩).memory Tryd.f10.params.toList Rows.macPiecesSpec.vars false (#[.slice none 0 0, .slice none 0 0, .slice none 0 0] : Array Value).toList 8 = some ([.nil, .nil, .nil], [], places) :=
  ⟨[], by kernel_rfl⟩

set_option maxRecDepth 100000 in
theorem lifted (os : Os) (started : os.Started) (H : Type) (enc : TypeId × Value → H) (F : Stop.Interp) :
    ReturnsInHanded {} Tryd.checked os 10 .any ((Rows.OpenSpec.upto Rows.macPiecesSpec).preRow enc Tryd.prog Tryd.f10 Rows.macPiecesUptoRow.domain false Rows.macPiecesUptoRow.laid) (((Rows.OpenSpec.upto Rows.macPiecesSpec).at F).post enc Tryd.prog Tryd.f10 false true false false) := by
  obtain ⟨places, hx⟩ := reads os enc
  refine returnsInHanded_of_row (C := Tryd.checked) (s := (Rows.OpenSpec.upto Rows.macPiecesSpec)) own started (by kernel_rfl) Tryd.func10
    (witness_row_at (enc := enc) (C := Tryd.checked) false (laidWorld os) #[.slice none 0 0, .slice none 0 0, .slice none 0 0] rfl (by kernel_rfl) (by kernel_rfl) (by kernel_rfl)
      (OpenSpec.preRow_of_cond 8 hx (by kernel_rfl) (fun k hk => by cases hk; kernel_rfl) (by kernel_rfl) (laid_met os))) ?_
  intro W base args ds gs before hval hW _ hcond _ hL _ _
  exact contract H enc W base args ds gs before hval hW (hcond _ rfl) hL

theorem said : Rows.MacPiecesUptoSaid :=
  OpenClaim.holds_of_cond 10 Tryd.f10 rfl rfl rfl rfl rfl rfl rfl ⟨rfl, rfl, rfl, rfl, rfl⟩ rfl rfl rfl rfl rfl (by kernel_rfl) Tryd.func10 (by kernel_rfl)
    (of_decide_eq_true (by kernel_rfl)) (by unfold Func.isWrapper; first | (rw [if_pos (by decide +kernel)]; kernel_rfl) | (rw [if_neg (by decide +kernel)]; exact ⟨rfl, rfl⟩))
    (fun os started H enc _ F => by rw [OpenClaim.pre_eq_preRow]; exact lifted os started H enc F)

theorem plain (f : FuncId) (fn : Func) (hf : Tryd.pinned.checked.prog.funcNamed "cairn/cairnlaw03.MacPieces" = some f) (hfn : Tryd.pinned.checked.prog.funcs[f]? = some fn) :
    false = Tryd.pinned.checked.prog.looks [] ∧ ∀ (j : Nat) t, fn.params[j]? = some t → Tryd.pinned.checked.prog.wantsStandIn t = false := by
  obtain rfl : f = 10 := Option.some.inj ((show Tryd.prog.funcNamed "cairn/cairnlaw03.MacPieces" = some 10 by kernel_rfl).symm.trans hf) |>.symm
  obtain rfl : fn = Tryd.f10 := (Option.some.inj (Tryd.func10.symm.trans hfn)).symm
  refine ⟨by kernel_rfl, fun j t ht => ?_⟩
  rw [Tryd.params10] at ht
  match j, ht with
  | 0, ht =>
    obtain rfl : 24 = t := by simpa using ht
    exact (show Tryd.prog.wantsStandIn 24 = false by kernel_rfl)
  | 1, ht =>
    obtain rfl : 22 = t := by simpa using ht
    exact (show Tryd.prog.wantsStandIn 22 = false by kernel_rfl)
  | 2, ht =>
    obtain rfl : 24 = t := by simpa using ht
    exact (show Tryd.prog.wantsStandIn 24 = false by kernel_rfl)
  | j + 3, ht => simp at ht

/-- the card -/
theorem card : Rows.MacPiecesUptoCardSaid :=
  Claim7.holds_tied_plain_at .later [] _ _ _ _ said (fun _ h => by cases h) (by kernel_rfl) (fun _ h => by cases h) macPiecesUpto_row_tie rfl ⟨rfl, rfl⟩ (by kernel_rfl) rfl plain (by kernel_rfl)
#print axioms card
end Go.Proofs.YtnkhhnfmijljbaaDoor.lawMacPieces
