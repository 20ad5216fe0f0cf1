/- cairnlaw03.MacExact: for every script it returns true, and the script reads as before, in whatever memory in which the three listed package-level tables hold what the program's text lays in them (the card ties that). No other condition. -/
import Derived.Test.YtnkhhnfmijljbaaDoorZExacth
import Derived.Deep.Strs
import Derived.Test.YtnkhhnfmijljbaaDoorZExactf
import Derived.Test.YtnkhhnfmijljbaaDoorCards
import Derived.Test.YtnkhhnfmijljbaaDoorTie
import Derived.Test.YtnkhhnfmijljbaaDoorZExactb
import Derived.WalkKit
import Derived.ProofKit
import Derived.OpenShut
import Derived.Deep.DeepHandedRow
set_option linter.unusedVariables false
set_option linter.unusedSimpArgs false
namespace Go.Proofs.YtnkhhnfmijljbaaDoor
open Go.ChangeShapes Go.WideShapes Go.ChangeAt Go.RowKit Go.Proofs.YtnkhhnfmijljbaaDoorW.PrintWords Go.Proofs.YtnkhhnfmijljbaaDoorW.PrintLast Go.Proofs.YtnkhhnfmijljbaaDoorW.PrintMore
open Extern.Stop (cell)

structure OpM where
  kind : Int
  w : Int
  b : List UInt8
def opML (x : OpM) (A : Option Addr) (c : Nat) : List Value := [.int .i64 x.kind, .int .i64 x.w, .slice A x.b.length c]
/-- one step of the script, at ad -/
def OpAtM (w : World) (ad : Addr) (x : OpM) : Prop := ∃ A c, (∀ j v, (opML x A c)[j]? = some v → w.cell? (ad.add j) = some v) ∧ x.b.length ≤ c ∧ Bs w A x.b.length x.b ∧ i64ok x.kind ∧ i64ok x.w
def OpsM (w : World) (P : Option Addr) (ops : List OpM) : Prop := ∀ k (hk : k < ops.length), ∃ ad, P = some ad ∧ OpAtM w (ad.add (k * 3)) ops[k]
section
variable {H : Type} {enc : TypeId × Value → H} {w : World} {r : Reach} {b0 : Nat} {v : Value} {d : DataW H} {p : List MemPlace}
theorem cells65 : Tryd.prog.cellsOf 65 = 3 := by kernel_rfl
theorem open_opm {fuel : Nat} {cs : List Value} {ad : Addr} {y : DataW H × List MemPlace} (hc : ∀ j v, cs[j]? = some v → w.cell? (ad.add j) = some v) (h : DataW.trod enc Tryd.prog w 0 (fun _ => true) true fuel 65 cs = some y) :
    ∃ x : OpM, OpAtM w ad x ∧ x.b.length + 1 ≤ Rows.uptoBulk y.1 := by
  obtain ⟨y0, y1, y3, n, rfl, hl, h0, h1, h3⟩ := Go.Deep.trod_struct3 Tryd.underlying65 h
  rw [cells65] at hl
  obtain ⟨c0, c1, c3, rfl⟩ : ∃ c0 c1 c3, cs = [c0, c1, c3] := by
    match cs, hl with
    | [c0, c1, c3], _ => exact ⟨c0, c1, c3, rfl⟩
  rw [cells3] at h0 h1
  rw [cells24] at h3
  obtain ⟨n0, e0, _, w0⟩ := DataW.trod_int Tryd.underlying3 h0
  obtain ⟨n1, e1, _, w1⟩ := DataW.trod_int Tryd.underlying3 h1
  obtain ⟨A', c', q, e3, h4, h5, h6⟩ := open_u8s (v := c3) Tryd.underlying24 Tryd.underlying5 cells5 h3
  simp at e0 e1
  subst e0 e1 e3
  refine ⟨⟨n0, n1, q⟩, ⟨A', c', hc, h4, h5, i64_of_wf w0, i64_of_wf w1⟩, ?_⟩
  simp only [Rows.uptoBulk, Rows.uptoBulkAll]
  omega
/-- an argument []Op -/
theorem open_arg_opm (hv : Value.okWide Tryd.prog w r b0 54 v) (h : DataW.Trod enc Tryd.prog w 0 (fun _ => true) true 54 v d p) :
    ∃ (A : Option Addr) (c : Nat) (ops : List OpM), v = .slice A ops.length c ∧ ops.length ≤ c ∧ OpsM w A ops ∧ ops.length ≤ 9223372036854775807 ∧ (ops.map fun x => x.b.length + 1).sum ≤ Rows.uptoBulk d := by
  obtain ⟨a, n, c, rfl⟩ := okWide_slice Tryd.underlying54 hv
  obtain ⟨fuel, hf⟩ := h
  rcases DataW.trod_slice Tryd.underlying54 hf with ⟨hcs, hy⟩ | ⟨a', len, cap, elems, rest, m, _, hcs, hx, hb, hl, hm, hlen, hel, hsp, hns⟩
  · have e : (Value.slice a n c) = .slice none 0 0 := by simpa [Value.cells] using hcs
    injection e with e1 e2 e3
    subst e1 e2 e3
    refine ⟨none, 0, [], rfl, Nat.le_refl _, (fun k hk => by cases hk), by simp, Nat.zero_le _⟩
  · have e : (Value.slice a n c) = .slice (some a') len cap := by simpa [Value.cells] using hcs
    injection e with e1 e2 e3
    subst e1 e2 e3
    have key : ∀ i, ∃ q : OpM, ∀ y, elems[i]? = some y → OpAtM w (a'.add (i * 3)) q ∧ q.b.length + 1 ≤ Rows.uptoBulk y.1 := by
      intro i
      by_cases hi : i < elems.length
      · have h1 := hel i (by omega)
        rw [List.getElem?_eq_getElem hi, cells65, Option.bind_eq_some_iff] at h1
        obtain ⟨cs', hcs', hy⟩ := h1
        obtain ⟨q, h2, h3⟩ := open_opm (cells_of_cells? hcs') hy
        refine ⟨q, fun y hy' => ?_⟩
        rw [List.getElem?_eq_getElem hi] at hy'
        cases hy'
        exact ⟨h2, h3⟩
      · exact ⟨⟨0, 0, []⟩, fun y hy => by rw [List.getElem?_eq_none (by omega)] at hy; cases hy⟩
    obtain ⟨f, hfq⟩ := Classical.axiomOfChoice key
    have hel' : ∀ i, i < elems.length → elems[i]? = some (elems[i]?.getD (.nil, [])) := fun i hi => by rw [List.getElem?_eq_getElem hi]; rfl
    refine ⟨some a', c, (List.range n).map f, by simp, by simpa using hl, fun k hk => ?_, by simp; unfold maxLen at hm; omega, ?_⟩
    · have hk' : k < n := by simpa using hk
      refine ⟨a', rfl, ?_⟩
      have := (hfq k _ (hel' k (by omega))).1
      simpa using this
    · have hd : d = .slice (elems.map (·.1)) (rest.map (·.1)) := congrArg Prod.fst hx
      have h1 := bulk_sum (fun x : OpM => x.b.length + 1) (elems.map (·.1)) f (fun i y hi => by
        rw [List.getElem?_map, Option.map_eq_some_iff] at hi
        obtain ⟨z, hz, rfl⟩ := hi
        exact (hfq i z hz).2)
      rw [List.length_map, hlen] at h1
      rw [hd]
      simp only [Rows.uptoBulk]
      omega
end
/-- three codes at rest -/
structure Rest (w wx : World) (T : Nat) (live : Nat → Bool) (gs ss : Nat → Nat) (ks kb : Nat → List UInt8) (S B : Nat → Pt) (L : Nat) : Prop where
  be : Below T w wx
  t : T3 wx T live gs ss ks kb S B (none, 0, [])
  eq : ∀ i, i < 3 → live i = true → ks i = (S i).2.2 ∧ kb i = (B i).2.2
  len : ∀ i, i < 3 → (S i).2.2.length ≤ 400 ∧ (B i).2.2.length ≤ L
set_option maxHeartbeats 4000000 in
set_option maxRecDepth 100000 in
theorem macExact_calls (w : World) (P : Option Addr) (pc : Nat) (ops : List OpM) (hK : KTab w) (hF : FTab w) (hR : RTab w) (hp : OpsM w P ops) (hpc : ops.length ≤ pc) (hmx : ops.length ≤ 9223372036854775807) :
    Calls Tryd.prog 9 #[.slice P ops.length pc] w (fun e w' => e = .returned (.bool true) ∧ Below w.heap.size w w') := by
  obtain ⟨T, hT⟩ : ∃ T, T = w.heap.size := ⟨_, rfl⟩
  have h4 : 4 < T := by rw [hT]; exact hK.1
  have HK := Aside0.mk hK
  have HF := Aside0.mk hF
  have HR := Aside0.mk hR
  have HP := Aside0.mk hp
  have HT := Aside0.mk hT
  clear hK hF hR hp
  go_enter Tryd.func9, Tryd.ntmps9
  go_wp2_with fail
  rw [← hT]
  refine wp_world (fun w1 => Rest w w1 T (fun _ => false) (fun _ => 0) (fun _ => 0) (fun _ => []) (fun _ => []) (fun _ => (none, 0, [])) (fun _ => (none, 0, [])) 0) ?_ ?_
  · refine ⟨by rw [hT]; exact (Ext.refl w).alloc _, ⟨by rw [hT]; exact Row.alloc w (tabL (fun _ => false) (fun _ => 0) (fun _ => (none, 0, [])) (fun _ => (none, 0, []))) 62, fun i _ h => (by cases h), fun _ _ => OkP.none, fun _ _ => OkP.none, OkP.none, fun i _ h => (by cases h), fun i _ _ _ h => (by cases h)⟩, fun i _ h => (by cases h), fun i _ => ⟨Nat.zero_le _, Nat.zero_le _⟩⟩
  rintro w1 hR1
  have HR1 := Aside0.mk hR1
  clear hR1 hT
  go_loopw [4, 5] (fun i s5 wr => ∃ (k : Nat) (live : Nat → Bool) (gs ss : Nat → Nat) (ks kb : Nat → List UInt8) (S B : Nat → Pt), k ≤ 3 ∧ i = .int .i64 k ∧ Rest w wr T live gs ss ks kb S B (400 * k) ∧ ∀ j, j < k → live j = true) (fun i _ _ => 3 - (intOf i).toNat)
  case atStart => exact ⟨0, _, _, _, _, _, _, _, by omega, rfl, HR1.out, fun j hj => by omega⟩
  case round =>
    obtain ⟨k, live, gs, ss, ks, kb, S, B, hk, rfl, hR, hlv⟩ := hrel
    have HRr := Aside0.mk hR
    have HLV := Aside0.mk hlv
    have HB := Aside0.mk hR.be
    clear hR hlv
    by_cases hlt : k < 3
    · have b4 : (0 : Int) ≤ k ∧ (k : Int) < 3 := by omega
      go_wp2_with fail
      have hn8 : n8 (UInt8.ofNat k) = (k : Int) := by rw [← byteInt k]; omega
      obtain ⟨g, hg⟩ : ∃ g, g = wr.heap.size := ⟨_, rfl⟩
      have hE1 : Ext wr (wr.alloc (.cells #[.int .u8 (k : Int)] 5)) := (Ext.refl wr).alloc _
      have hb1 : Bs (wr.alloc (.cells #[.int .u8 (k : Int)] 5)) (some ⟨g, 0, none⟩) [UInt8.ofNat k].length [UInt8.ofNat k] := by rw [hg, ← hn8]; exact Bs.one wr _
      have hb2 := Ext.below HB.out (Nat.le_of_lt HRr.out.t.row.lt) hE1
      have hcall := plays_calls (wr.alloc (.cells #[.int .u8 (k : Int)] 5)) T 1 k (some ⟨g, 0, none⟩) 1 [UInt8.ofNat k] live gs ss ks kb S B (400 * k) (HK.out.below hb2 h4) (HF.out.below hb2 (by omega)) (HR.out.below3 hb2 (by omega)) h4
        ((HRr.out.t.ext hE1).putX (OkP.made (n := g) (Nat.le_refl _) hb1 (fun ad ha => by cases ha; exact Nat.le_refl _) (by rw [hg]; exact HRr.out.t.row.lt) (fun i hi hl => by rw [hg]; exact HRr.out.t.ssLt i hi hl))) HRr.out.eq HRr.out.len (by omega) (by unfold i64ok; omega) (by unfold i64ok; omega) (.inl rfl)
      rw [← hg]
      rw [show [UInt8.ofNat k].length = 1 from rfl] at hcall
      refine hcall.mono ?_
      rintro e w2 ⟨rfl, hB2, live', gs', ss', ks', kb', S', B', hT2, heq2, hln2, hm2, hl2⟩
      have HR2 := Aside0.mk (show Rest w w2 T live' gs' ss' ks' kb' S' B' (400 * k + 400) from ⟨hb2.trans hB2, hT2, heq2, hln2⟩)
      have HL2 := Aside0.mk (show ∀ j, j < k + 1 → live' j = true from fun j hj => by
        by_cases hjk : j = k
        · exact hl2 j (by omega) (by omega) rfl
        · exact hm2 j (by omega) (HLV.out j (by omega)))
      clear hcall hE1 hb1 hb2 hn8 hB2 hT2 heq2 hln2 hm2 hl2 hg
      go_wp2
      go_roundw
      case rel => exact ⟨k + 1, live', gs', ss', ks', kb', S', B', by omega, by simp, HR2.out, HL2.out⟩
      case measure => simp [intOf]; omega
    · obtain rfl : k = 3 := by omega
      go_wp2_with fail
      go_loopw [6, 7] (fun i s7 wr => ∃ (k : Nat) (live : Nat → Bool) (gs ss : Nat → Nat) (ks kb : Nat → List UInt8) (S B : Nat → Pt), k ≤ ops.length ∧ k ≤ 80 ∧ i = .int .i64 k ∧ Rest w wr T live gs ss ks kb S B (1200 + 400 * k) ∧ ∀ j, j < 3 → live j = true) (fun i _ _ => 80 - (intOf i).toNat)
      case atStart => exact ⟨0, live, gs, ss, ks, kb, S, B, by omega, by omega, rfl, HRr.out, HLV.out⟩
      case round =>
        clear HRr HLV HB
        obtain ⟨k, live, gs, ss, ks, kb, S, B, hk, hk8, rfl, hR, hlv⟩ := hrel
        have HRr := Aside0.mk hR
        have HLV := Aside0.mk hlv
        have HB := Aside0.mk hR.be
        clear hR hlv
        by_cases hlt : k < ops.length ∧ k < 80
        · obtain ⟨hlt1, hlt2⟩ := hlt
          obtain ⟨ad, rfl, Ax, cx, hcs, hcx, hbx, hi1, hi2⟩ := HP.out k hlt1
          obtain ⟨x, hx⟩ : ∃ x, x = ops[k] := ⟨_, rfl⟩
          rw [← hx] at hcs hcx hbx hi1 hi2
          have b4 : (0 : Int) ≤ k ∧ (k : Int) < 80 ∧ (k : Int) < ops.length := by omega
          obtain ⟨ax, hax⟩ : ∃ ax, ax = ad.add (k * 3) := ⟨_, rfl⟩
          rw [← hax] at hcs
          have hbw : Below w.heap.size w wr := by rw [← HT.out]; exact HB.out
          have HCS := Aside0.mk (fun j v hv => (hbw.cell (p := ax.add j) (Go.World.block_lt_of_cell? _ _ (hcs j v hv))).trans (hcs j v hv) : ∀ j v, (opML x Ax cx)[j]? = some v → wr.cell? (ax.add j) = some v)
          have HX := Aside0.mk (show T3 wr T live gs ss ks kb S B (Ax, cx, x.b) from HRr.out.t.putX ⟨hcx, Bs.below hbx hbw, fun ad' ha hn => by
            have h1 := fr_lt hbx ad' ha hn
            rw [← HT.out] at h1
            exact ⟨by omega, fun j hj hl => by have := (HRr.out.t.nT j hj hl).2; omega⟩⟩)
          have HI1 := Aside0.mk hi1
          have HI2 := Aside0.mk hi2
          have HAX := Aside0.mk hax
          clear hcs hcx hbx hi1 hi2 hx hax hbw
          go_wp2_with (with_reducible refine gate_dst (N := 39) rfl ?_; refine Aside0.out ?_)
          refine Aside0.mk ?_
          refine wpL_val (.agg #[.int .i64 x.kind, .int .i64 x.w, .slice Ax x.b.length cx]) (w1 := wr) (by rfl) (exec_load_ad 65 rfl ax (by rw [HAX.out]; rfl) (opML x Ax cx) _ HCS.out Tryd.underlying65 rfl (by kernel_rfl)) ?_
          go_wp2_with fail
          refine (plays_calls wr T x.kind x.w Ax cx x.b live gs ss ks kb S B (1200 + 400 * k) (HK.out.below HB.out h4) (HF.out.below HB.out (by omega)) (HR.out.below3 HB.out (by omega)) h4 HX.out HRr.out.eq HRr.out.len (by omega) HI1.out HI2.out (.inr HLV.out)).mono ?_
          rintro e w2 ⟨rfl, hB2, live', gs', ss', ks', kb', S', B', hT2, heq2, hln2, hm2, hl2⟩
          have HR2 := Aside0.mk (show Rest w w2 T live' gs' ss' ks' kb' S' B' (1200 + 400 * k + 400) from ⟨HB.out.trans hB2, hT2, heq2, hln2⟩)
          have HL2 := Aside0.mk (show ∀ j, j < 3 → live' j = true from fun j hj => hm2 j hj (HLV.out j hj))
          clear hB2 hT2 heq2 hln2 hm2 hl2
          go_wp2
          go_roundw
          case rel => exact ⟨k + 1, live', gs', ss', ks', kb', S', B', by omega, by omega, by simp, HR2.out, HL2.out⟩
          case measure => simp [intOf]; omega
        · have HR3 := Aside0.mk (show Rest w wr T live gs ss ks kb S B 40000 from ⟨HRr.out.be, HRr.out.t, HRr.out.eq, fun i hi => ⟨(HRr.out.len i hi).1, by have := (HRr.out.len i hi).2; omega⟩⟩)
          have hor : k = ops.length ∨ k = 80 ∧ k < ops.length := by omega
          clear hlt HRr HB
          rcases hor with rfl | ⟨rfl, hl8⟩
          all_goals
            go_wp2_with fail
            go_loopw [8, 9] (fun i s9 wr => ∃ (k : Nat) (live : Nat → Bool) (gs ss : Nat → Nat) (ks kb : Nat → List UInt8) (S B : Nat → Pt), k ≤ 3 ∧ i = .int .i64 k ∧ Rest w wr T live gs ss ks kb S B (40000 + 400 * k) ∧ ∀ j, j < 3 → live j = true) (fun i _ _ => 3 - (intOf i).toNat)
            case atStart => exact ⟨0, live, gs, ss, ks, kb, S, B, by omega, rfl, HR3.out, HLV.out⟩
            case round =>
              clear HR3 HLV
              obtain ⟨k, live, gs, ss, ks, kb, S, B, hk, rfl, hR, hlv⟩ := hrel
              have HRr := Aside0.mk hR
              have HLV := Aside0.mk hlv
              have HB := Aside0.mk hR.be
              clear hR hlv
              by_cases hlt : k < 3
              · have b4 : (0 : Int) ≤ k ∧ (k : Int) < 3 := by omega
                go_wp2_with fail
                refine (plays_calls wr T 3 k none 0 [] live gs ss ks kb S B (40000 + 400 * k) (HK.out.below HB.out h4) (HF.out.below HB.out (by omega)) (HR.out.below3 HB.out (by omega)) h4 HRr.out.t HRr.out.eq HRr.out.len (by omega) (by unfold i64ok; omega) (by unfold i64ok; omega) (.inr HLV.out)).mono ?_
                rintro e w2 ⟨rfl, hB2, live', gs', ss', ks', kb', S', B', hT2, heq2, hln2, hm2, hl2⟩
                have HR2 := Aside0.mk (show Rest w w2 T live' gs' ss' ks' kb' S' B' (40000 + 400 * k + 400) from ⟨HB.out.trans hB2, hT2, heq2, hln2⟩)
                have HL2 := Aside0.mk (show ∀ j, j < 3 → live' j = true from fun j hj => hm2 j hj (HLV.out j hj))
                clear hB2 hT2 heq2 hln2 hm2 hl2
                go_wp2
                go_roundw
                case rel => exact ⟨k + 1, live', gs', ss', ks', kb', S', B', by omega, by simp, HR2.out, HL2.out⟩
                case measure => simp [intOf]; omega
              · obtain rfl : k = 3 := by omega
                go_wp2
                go_ret
                exact ⟨rfl, by rw [← HT.out]; exact HB.out⟩
end Go.Proofs.YtnkhhnfmijljbaaDoor
namespace Go.Proofs.YtnkhhnfmijljbaaDoor
theorem flat_sum (ps : List (List UInt8)) : (ps.map fun x => x.length + 1).sum = ps.flatten.length + ps.length := by
  induction ps with
  | nil => rfl
  | cons p ps ih => simp only [List.map_cons, List.sum_cons, List.flatten_cons, List.length_append, List.length_cons, ih]; omega
end Go.Proofs.YtnkhhnfmijljbaaDoor
set_option linter.unusedVariables false
set_option linter.unusedSimpArgs false
namespace Go.Proofs.YtnkhhnfmijljbaaDoor.lawMacExact
open Go.ChangeShapes Go.WideShapes Go.ChangeAt Go.RowKit
open Go.Proofs.YtnkhhnfmijljbaaDoor Go.Proofs.YtnkhhnfmijljbaaDoorW.PrintWords
open Extern.Stop (cell)

theorem own : ownKnob Tryd.prog.godebug = none := by kernel_rfl
theorem laidOut : laidOutB Tryd.prog = true := by kernel_rfl
theorem tables {W : World} (h : laidMetH Tryd.prog Rows.macExactRow.laid W) : KTab W ∧ FTab W ∧ RTab W := by
  have h1 : laidMet Tryd.prog [("cairn/cairnref02.rounds", Rows.laid_cairn_cairnref02_rounds), ("cairn/sha.k", Rows.laid_cairn_sha_k), ("cairn/sha.first", Rows.laid_cairn_sha_first)] W := h
  obtain ⟨ps, hv, _⟩ := h1
  rw [rLaid, kLaid, fLaid] at hv
  obtain ⟨v0, q0, hv⟩ := lv_num gR (by kernel_rfl) Tryd.underlying86 Tryd.underlying53 (by kernel_rfl) (by kernel_rfl) hv
  rw [List.map_map] at v0
  have r0 := range_of_var gR v0
  have l0 := Go.World.block_lt_of_cell? _ _ (r0 0 _ rfl)
  obtain ⟨v1, q1, hv⟩ := lv_num gK (by kernel_rfl) Tryd.underlying86 Tryd.underlying53 (by kernel_rfl) (by kernel_rfl) hv
  rw [List.map_map] at v1
  have r1 := range_of_var gK v1
  have l1 := Go.World.block_lt_of_cell? _ _ (r1 0 _ rfl)
  obtain ⟨v2, q2, hv⟩ := lv_num gF (by kernel_rfl) Tryd.underlying71 Tryd.underlying53 (by kernel_rfl) (by kernel_rfl) hv
  rw [List.map_map] at v2
  have r2 := range_of_var gF v2
  have l2 := Go.World.block_lt_of_cell? _ _ (r2 0 _ rfl)
  exact ⟨⟨l1, r1⟩, ⟨l2, r2⟩, ⟨l0, r0⟩⟩

theorem contract (H : Type) (enc : TypeId × Value → H) (W : World) (base : Nat) (args : Array Value) (ds gs : List (DataW H)) (before : List MemPlace)
    (hval : ∀ (j : Nat) t v, Tryd.f9.params[j]? = some t → args[j]? = some v → Value.okWide Tryd.prog W .any base t v)
    (hW : DataW.Whole enc Tryd.prog Tryd.f9.params.toList Rows.macExactSpec.vars false W args.toList ds gs before) (hL : laidMetH Tryd.prog Rows.macExactRow.laid W) :
    Calls Tryd.prog 9 args W fun e W' => ∃ v, e = .returned v ∧ Rows.macExactSpec.post enc Tryd.prog Tryd.f9 false true false false W args v W' := by
  have hW' := hW
  obtain ⟨p, q, hA0, hV, rfl, hfz, hnd⟩ := hW
  have hA : DataW.TrodAll enc Tryd.prog W 0 (fun _ => true) true Tryd.f9.params.toList args.toList ds p := hA0
  rw [Tryd.params9] at hA hval
  obtain ⟨v0, vs0, d0, ds0, p0, q0, hargs, rfl, rfl, h0, r0⟩ := trodAll_cons hA
  obtain ⟨rfl, rfl, rfl⟩ := trodAll_nil r0
  obtain rfl : args = #[v0] := by cases args; simp_all
  obtain ⟨rfl, rfl⟩ := trodVars_none hV
  have k0 := h0
  have lt0 : ∀ x ∈ p0, x.block < W.heap.size := by obtain ⟨m, hm⟩ := k0; exact DataW.trod_lt m _ _ _ hm
  obtain ⟨A0, c0, xs0, rfl, hc0, hb0, hm0, hu0⟩ := open_arg_opm (hval 0 54 v0 rfl rfl) h0
  clear hA0 hnd hfz
  have ht := tables hL
  refine (macExact_calls W A0 c0 xs0 ht.1 ht.2.1 ht.2.2 hb0 hc0 hm0).mono fun e W' ⟨he, bel⟩ => ?_
  subst he
  exact ⟨_, rfl, _, _, _, [], _, [], hW', trodAll_mk1 (shut_bool Tryd.underlying4 _), (trodAll_cons_mk (Below.trod laidOut (by kernel_rfl) (of_decide_eq_true (by kernel_rfl)) k0 bel lt0) trodAll_mk0), rfl, bel.frame _, fun h => by cases h⟩

noncomputable def lay (cs : List Value) : Obj → Obj
  | .cells _ t frozen => .cells cs.toArray t frozen
  | o => o
noncomputable def laidWorld (os : Os) : World :=
  { World.holding Tryd.prog os ⟨#[], #[], []⟩ with heap := ((((World.holding Tryd.prog os ⟨#[], #[], []⟩).heap.modify 3 (lay (Spec.K.map u))).modify 4 (lay (Spec.K.map u))).modify 2 (lay (Spec.first.list.map u))) }
theorem laid_met (os : Os) : laidMet Tryd.prog Rows.macExactRow.laid ((laidWorld os).forCall (fun _ _ => 0) ⟨#[], #[.slice none 0 0], []⟩).memory :=
  laidMet_of_run' 8 (by kernel_rfl) (by kernel_rfl)
theorem reads (os : Os) {H : Type} (enc : TypeId × Value → H) : ∃ places, DataW.whole enc Tryd.prog ((laidWorld os).forCall (fun _ _ => 0) ⟨#[], #[.slice none 0 0], []⟩).memory Tryd.f9.params.toList Rows.macExactSpec.vars false (#[.slice none 0 0] : Array Value).toList 8 = some ([.nil], [], places) :=
  ⟨[], by kernel_rfl⟩

set_option maxRecDepth 100000 in
theorem lifted (os : Os) (started : os.Started) (H : Type) (enc : TypeId × Value → H) (F : Stop.Interp) :
    ReturnsInHanded {} Tryd.checked os 9 .any ((OpenSpec.ofChange Rows.macExactSpec).preRow enc Tryd.prog Tryd.f9 Rows.macExactRow.domain false Rows.macExactRow.laid) (((OpenSpec.ofChange Rows.macExactSpec).at F).post enc Tryd.prog Tryd.f9 false true false false) := by
  obtain ⟨places, hx⟩ := reads os enc
  refine returnsInHanded_of_row (C := Tryd.checked) (s := (OpenSpec.ofChange Rows.macExactSpec)) own started (by kernel_rfl) Tryd.func9
    (witness_row_at (enc := enc) (C := Tryd.checked) false (laidWorld os) #[.slice none 0 0] rfl (by kernel_rfl) (by kernel_rfl) (by kernel_rfl)
      (OpenSpec.preRow_of_cond 8 hx (by kernel_rfl) (fun k hk => by cases hk) (by kernel_rfl) (laid_met os))) ?_
  intro W base args ds gs before hval hW _ hcond _ hL _ _
  exact contract H enc W base args ds gs before hval hW hL

theorem said : Rows.MacExactSaid :=
  OpenClaim.holds_of_cond 9 Tryd.f9 rfl rfl rfl rfl rfl rfl rfl ⟨rfl, rfl, rfl, rfl, rfl⟩ rfl rfl rfl rfl rfl (by kernel_rfl) Tryd.func9 (by kernel_rfl)
    (of_decide_eq_true (by kernel_rfl)) (by unfold Func.isWrapper; first | (rw [if_pos (by decide +kernel)]; kernel_rfl) | (rw [if_neg (by decide +kernel)]; exact ⟨rfl, rfl⟩))
    (fun os started H enc _ F => by rw [OpenClaim.pre_eq_preRow]; exact lifted os started H enc F)

theorem plain (f : FuncId) (fn : Func) (hf : Tryd.pinned.checked.prog.funcNamed "cairn/cairnlaw03.MacExact" = some f) (hfn : Tryd.pinned.checked.prog.funcs[f]? = some fn) :
    false = Tryd.pinned.checked.prog.looks [] ∧ ∀ (j : Nat) t, fn.params[j]? = some t → Tryd.pinned.checked.prog.wantsStandIn t = false := by
  obtain rfl : f = 9 := Option.some.inj ((show Tryd.prog.funcNamed "cairn/cairnlaw03.MacExact" = some 9 by kernel_rfl).symm.trans hf) |>.symm
  obtain rfl : fn = Tryd.f9 := (Option.some.inj (Tryd.func9.symm.trans hfn)).symm
  refine ⟨by kernel_rfl, fun j t ht => ?_⟩
  rw [Tryd.params9] at ht
  match j, ht with
  | 0, ht =>
    obtain rfl : 54 = t := by simpa using ht
    exact (show Tryd.prog.wantsStandIn 54 = false by kernel_rfl)
  | j + 1, ht => simp at ht

/-- the card -/
theorem card : Rows.MacExactCardSaid :=
  Claim7.holds_tied_plain_at .later [] _ _ _ _ said (fun _ h => by cases h) (by kernel_rfl) (fun _ h => by cases h) macExact_row_tie rfl ⟨rfl, rfl⟩ (by kernel_rfl) rfl plain (by kernel_rfl)
#print axioms card
end Go.Proofs.YtnkhhnfmijljbaaDoor.lawMacExact
