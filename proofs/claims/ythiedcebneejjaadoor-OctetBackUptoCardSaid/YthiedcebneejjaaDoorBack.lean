/- cairnlaw01.OctetBack: for every input of bulk at most 1048576 (the second form) the call returns true and the argument reads afterwards as before, in whatever memory in which the package-level table of digits holds what the program's text lays in it (the card ties that). -/
import Derived.Test.YthiedcebneejjaaDoorCards
import Derived.Test.YthiedcebneejjaaDoorTie
import Derived.Test.YthiedcebneejjaaDoorPureB
import Derived.WalkKit
import Derived.ProofKit
import Derived.OpenShut
import Derived.Deep.DeepHandedRow
import Derived.Lib.LaidTab
import Derived.Test.YthiedcebneejjaaDoorOpen
set_option linter.unusedVariables false
set_option linter.unusedSimpArgs false
namespace Go.Proofs.YthiedcebneejjaaDoor.lawBack
open Go.ChangeShapes Go.WideShapes Go.ChangeAt Go.RowKit
open Go.Proofs.YthiedcebneejjaaDoor.Hand Go.Proofs.YthiedcebneejjaaDoor.B Go.Proofs.YthiedcebneejjaaDoorW.PrintWords

theorem own : ownKnob Tryd.prog.godebug = none := by kernel_rfl
theorem gTab : Tryd.prog.globalNamed "cairn/octet.digits" = some 0 := by kernel_rfl
theorem gTabType : (Tryd.prog.globals[0]?).map (·.type) = some 46 := by kernel_rfl
theorem cells46 : Tryd.prog.cellsOf 46 = 16 := by kernel_rfl
theorem cells4 : Tryd.prog.cellsOf 4 = 1 := by kernel_rfl
theorem cells9 : Tryd.prog.cellsOf 9 = 1 := by kernel_rfl
theorem cells29 : Tryd.prog.cellsOf 29 = 3 := by kernel_rfl
theorem cells5 : Tryd.prog.cellsOf 5 = 1 := by kernel_rfl

/-- what the row's list gives: the table of digits -/
theorem table {W : World} (h : laidMetH Tryd.prog Rows.octetBackUptoRow.laid W) : Lib.TabIs Tryd.prog W "cairn/octet.digits" .u8 ((List.range 16).map fun i : Nat => digC (i : Int)) :=
  Lib.tabIs_of_head (rest := []) gTab gTabType Tryd.underlying46 Tryd.underlying5 cells5 cells46 h
theorem glob {W : World} (h : laidMetH Tryd.prog Rows.octetBackUptoRow.laid W) : Glob W := ⟨fun j v hv => by
  have hj : j < 16 := by have := (List.getElem?_eq_some_iff.1 hv).1; simpa using this
  have hc := (table h).cell gTab j (by simpa using hj)
  rw [Nat.zero_add, hc]
  simp [hj] at hv
  simp [hj, ← hv]⟩

theorem laidOut : laidOutB Tryd.prog = true := by kernel_rfl
theorem contract (H : Type) (enc : TypeId × Value → H) (W : World) (base : Nat) (args : Array Value) (ds gs : List (DataW H)) (before : List MemPlace)
    (hval : ∀ (j : Nat) t v, Tryd.f4.params[j]? = some t → args[j]? = some v → Value.okWide Tryd.prog W .any base t v)
    (hW : DataW.Whole enc Tryd.prog Tryd.f4.params.toList Rows.octetBackSpec.vars false W args.toList ds gs before) (hk : Rows.uptoSmall H (ds ++ gs) = true) (hL : laidMetH Tryd.prog Rows.octetBackUptoRow.laid W) :
    Calls Tryd.prog 4 args W fun e W' => ∃ v, e = .returned v ∧ Rows.octetBackSpec.post enc Tryd.prog Tryd.f4 false true false false W args v W' := by
  have hW' := hW
  obtain ⟨p, q, hA0, hV, rfl, hfz, hnd⟩ := hW
  have hA : DataW.TrodAll enc Tryd.prog W 0 (fun _ => true) true Tryd.f4.params.toList args.toList ds p := hA0
  rw [Tryd.params4] at hA hval
  obtain ⟨v0, vs0, d0, ds0, p0, q0, hargs, rfl, rfl, h0, r0⟩ := trodAll_cons hA
  obtain ⟨rfl, rfl, rfl⟩ := trodAll_nil r0
  obtain rfl : args = #[v0] := by cases args; simp_all
  obtain ⟨rfl, rfl⟩ := trodVars_none hV
  have k0 := h0
  have lt0 : ∀ x ∈ p0, x.block < W.heap.size := by obtain ⟨m, hm⟩ := k0; exact DataW.trod_lt m _ _ _ hm
  have hb0 : Rows.uptoBulk d0 ≤ 1048576 := by
    have h := of_decide_eq_true hk
    simp only [List.append_nil, Rows.uptoBulkAll] at h
    omega
  clear hk
  -- the struct's fields
  obtain ⟨cs, rfl, hsz⟩ := okWide_struct Tryd.underlying31 (hval 0 31 v0 rfl rfl)
  rw [show Tryd.prog.cellsOf 31 = 6 by kernel_rfl] at hsz
  obtain ⟨c0, c1, c2, c3, c4, c5, rfl⟩ : ∃ c0 c1 c2 c3 c4 c5, cs = #[c0, c1, c2, c3, c4, c5] := by
    obtain ⟨l⟩ := cs
    match l, hsz with
    | [c0, c1, c2, c3, c4, c5], _ => exact ⟨c0, c1, c2, c3, c4, c5, rfl⟩
  obtain ⟨fuel, hf⟩ := h0
  obtain ⟨xs, n, _, hx, _, hlen, hfs⟩ := DataW.trod_struct Tryd.underlying31 hf
  obtain ⟨y0, y1, y2, y3, rfl⟩ : ∃ y0 y1 y2 y3, xs = [y0, y1, y2, y3] := by
    match xs, hlen with
    | [y0, y1, y2, y3], _ => exact ⟨y0, y1, y2, y3, rfl⟩
  have f0 := hfs 0 _ rfl
  have f1 := hfs 1 _ rfl
  have f2 := hfs 2 _ rfl
  have f3 := hfs 3 _ rfl
  simp only [show Tryd.prog.cellsOf 22 = 1 by kernel_rfl, show Tryd.prog.cellsOf 29 = 3 by kernel_rfl, show Tryd.prog.cellsOf 9 = 1 by kernel_rfl, Value.cells, List.drop_zero, List.drop_succ_cons, List.take_succ_cons, List.take_zero, List.getElem?_cons_zero, List.getElem?_cons_succ] at f0 f1 f2 f3
  obtain ⟨zs, n2, _, hy2, _, hlen2, hfs2⟩ := DataW.trod_struct Tryd.underlying29 f2
  obtain ⟨z0, z1, z2, rfl⟩ : ∃ z0 z1 z2, zs = [z0, z1, z2] := by
    match zs, hlen2 with
    | [z0, z1, z2], _ => exact ⟨z0, z1, z2, rfl⟩
  have g0 := hfs2 0 _ rfl
  have g1 := hfs2 1 _ rfl
  have g2 := hfs2 2 _ rfl
  simp only [show Tryd.prog.cellsOf 22 = 1 by kernel_rfl, show Tryd.prog.cellsOf 4 = 1 by kernel_rfl, List.drop_zero, List.drop_succ_cons, List.take_succ_cons, List.take_zero, List.getElem?_cons_zero, List.getElem?_cons_succ] at g0 g1 g2
  obtain ⟨A0, k0', l0, rfl, m0, R0, B0, S0⟩ := Open.open_u8s Tryd.underlying22 Tryd.underlying5 cells5 f0
  obtain ⟨A1, k1', l1, rfl, m1, R1, B1, S1⟩ := Open.open_u8s Tryd.underlying22 Tryd.underlying5 cells5 f1
  obtain ⟨A2, k2', l2, rfl, m2, R2, B2, S2⟩ := Open.open_u8s Tryd.underlying22 Tryd.underlying5 cells5 g0
  obtain ⟨A3, k3', l3, rfl, m3, R3, B3, S3⟩ := Open.open_u8s Tryd.underlying22 Tryd.underlying5 cells5 g1
  obtain ⟨b4, e4, rfl⟩ := DataW.trod_bool Tryd.underlying4 g2
  obtain ⟨s5, e5, rfl, hs5⟩ := DataW.trod_string Tryd.underlying9 f3
  obtain rfl : c4 = .bool b4 := by simpa [cells4, cells29] using e4
  obtain rfl : c5 = .string s5 := by simpa [cells9] using e5
  simp only [Prod.mk.injEq, List.map_cons, List.map_nil] at hx
  obtain ⟨hd, _⟩ := hx
  have hs : s5.size ≤ 1048576 ∧ l0.length ≤ 1048576 ∧ l1.length ≤ 1048576 := by
    rw [hd] at hb0
    simp only [Rows.uptoBulk, Rows.uptoBulkAll] at hb0
    have : s5.data.toList.length = s5.size := by rw [Array.length_toList]; rfl
    omega
  obtain ⟨k, hk⟩ := (back_ev l0 l1 l2 l3 b4 s5 B0 B1 (by omega) (by omega) (by omega)).rounds
  clear hA0 hnd hfz
  refine (cairnlaw01_OctetBack.calls k A0 k0' l0 A1 k1' l1 A2 k2' l2 A3 k3' l3 b4 s5 true W R0 m0 R1 m1 R2 m2 R3 m3 (glob hL) hk).mono fun e W' ⟨he, bel⟩ => ?_
  subst he
  exact ⟨_, rfl, _, _, _, [], _, [], hW', trodAll_mk1 (shut_bool Tryd.underlying4 _), (trodAll_cons_mk (Below.trod laidOut (by kernel_rfl) (of_decide_eq_true (by kernel_rfl)) k0 bel lt0) trodAll_mk0), rfl, bel.frame _, fun h => by cases h⟩

/-- A world for the witness: the settled one, the table holding what its initialiser lays. -/
noncomputable def laidWorld (os : Os) : World :=
  { World.holding Tryd.prog os ⟨#[], #[], []⟩ with heap := (World.holding Tryd.prog os ⟨#[], #[], []⟩).heap.modify 0 fun
      | .cells _ t frozen => .cells ((List.range 16).map fun i : Nat => Value.int .u8 (digC (i : Int))).toArray t frozen
      | o => o }
theorem laid_met (os : Os) : laidMet Tryd.prog Rows.octetBackUptoRow.laid ((laidWorld os).forCall (fun _ _ => 0) ⟨#[], #[Value.agg #[.slice none 0 0, .slice none 0 0, .slice none 0 0, .slice none 0 0, .bool false, .string ByteArray.empty]], []⟩).memory :=
  laidMet_of_run' 8 (by kernel_rfl) (by kernel_rfl)
theorem reads (os : Os) {H : Type} (enc : TypeId × Value → H) : ∃ places, DataW.whole enc Tryd.prog ((laidWorld os).forCall (fun _ _ => 0) ⟨#[], #[Value.agg #[.slice none 0 0, .slice none 0 0, .slice none 0 0, .slice none 0 0, .bool false, .string ByteArray.empty]], []⟩).memory Tryd.f4.params.toList Rows.octetBackSpec.vars false (#[Value.agg #[.slice none 0 0, .slice none 0 0, .slice none 0 0, .slice none 0 0, .bool false, .string ByteArray.empty]] : Array Value).toList 8 = some ([.agg [.nil, .nil, .agg [.nil, .nil, .lit (.bool false)], .lit (.string [])]], [], places) :=
  ⟨[], by kernel_rfl⟩

set_option maxRecDepth 100000 in
theorem lifted (os : Os) (started : os.Started) (H : Type) (enc : TypeId × Value → H) (F : Stop.Interp) :
    ReturnsInHanded {} Tryd.checked os 4 .any ((Rows.OpenSpec.upto Rows.octetBackSpec).preRow enc Tryd.prog Tryd.f4 Rows.octetBackUptoRow.domain false Rows.octetBackUptoRow.laid) (((Rows.OpenSpec.upto Rows.octetBackSpec).at F).post enc Tryd.prog Tryd.f4 false true false false) := by
  obtain ⟨places, hx⟩ := reads os enc
  refine returnsInHanded_of_row (C := Tryd.checked) (s := Rows.OpenSpec.upto Rows.octetBackSpec) own started (by kernel_rfl) Tryd.func4
    (witness_row_at (enc := enc) (C := Tryd.checked) false (laidWorld os) #[Value.agg #[.slice none 0 0, .slice none 0 0, .slice none 0 0, .slice none 0 0, .bool false, .string ByteArray.empty]] rfl (by kernel_rfl) (by kernel_rfl) (by kernel_rfl)
      (OpenSpec.preRow_of_cond 8 hx (by kernel_rfl) (fun k hk => by cases hk; kernel_rfl) (by kernel_rfl) (laid_met os))) ?_
  intro W base args ds gs before hval hW _ hcond _ hL _ _
  exact contract H enc W base args ds gs before hval hW (hcond _ rfl) hL

theorem said : Rows.OctetBackUptoSaid :=
  OpenClaim.holds_of_cond 4 Tryd.f4 rfl rfl rfl rfl rfl rfl rfl ⟨rfl, rfl, rfl, rfl, rfl⟩ rfl rfl rfl rfl rfl (by kernel_rfl) Tryd.func4 (by kernel_rfl)
    (of_decide_eq_true (by kernel_rfl)) (by unfold Func.isWrapper; first | (rw [if_pos (by decide +kernel)]; kernel_rfl) | (rw [if_neg (by decide +kernel)]; exact ⟨rfl, rfl⟩))
    (fun os started H enc _ F => by rw [OpenClaim.pre_eq_preRow]; exact lifted os started H enc F)

theorem plain (f : FuncId) (fn : Func) (hf : Tryd.pinned.checked.prog.funcNamed "cairn/cairnlaw01.OctetBack" = some f) (hfn : Tryd.pinned.checked.prog.funcs[f]? = some fn) :
    false = Tryd.pinned.checked.prog.looks [] ∧ ∀ (j : Nat) t, fn.params[j]? = some t → Tryd.pinned.checked.prog.wantsStandIn t = false := by
  obtain rfl : f = 4 := Option.some.inj ((show Tryd.prog.funcNamed "cairn/cairnlaw01.OctetBack" = some 4 by kernel_rfl).symm.trans hf) |>.symm
  obtain rfl : fn = Tryd.f4 := (Option.some.inj (Tryd.func4.symm.trans hfn)).symm
  refine ⟨by kernel_rfl, fun j t ht => ?_⟩
  rw [Tryd.params4] at ht
  obtain rfl : t = 31 := by simpa using Array.mem_of_getElem? ht
  exact (show Tryd.prog.wantsStandIn 31 = false by kernel_rfl)

/-- the card -/
theorem card : Rows.OctetBackUptoCardSaid :=
  Claim7.holds_tied_plain_at .later [] _ _ _ _ said (fun _ h => by cases h) (by kernel_rfl) (fun _ h => by cases h) octetBackUpto_row_tie rfl ⟨rfl, rfl⟩ (by kernel_rfl) rfl plain (by kernel_rfl)
#print axioms card
end Go.Proofs.YthiedcebneejjaaDoor.lawBack
