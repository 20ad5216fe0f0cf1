/- (*sha.State).block -/
import Derived.Test.YtnkhhnfmijljbaaDoorRot
import Derived.Test.YtnkhhnfmijljbaaDoorWMore
set_option linter.unusedVariables false
set_option linter.unusedSimpArgs false
namespace Go.Proofs.YtnkhhnfmijljbaaDoor
open Go.RowKit Go.Proofs.YtnkhhnfmijljbaaDoorW.PrintWords Go.Proofs.YtnkhhnfmijljbaaDoorW.PrintLast Go.Proofs.YtnkhhnfmijljbaaDoorW.PrintMore
open Extern.Stop (cell)
attribute [local go_sem] u32_add u32_shr3 u32_shr10 u8_conv u32_shl24 u32_shl16 u32_shl8 bits_u32_xor bits_u32_or bits_u32_and u32_not u32_not' u32_notm rot2 rot6 rot7 rot11 rot13 rot17 rot18 rot19 rot22 rot25

theorem wp_world {P : Program} {c : Code} {Q : Exit → Act → World → Prop} {a : Act} {w : World} (F : World → Prop) (h : F w) (k : ∀ w, F w → c.wp P Q a w) : c.wp P Q a w := k w h
theorem wp_stop {p : Prop} (h : p) : p := h
theorem cell_sh {w w' : World} (h : w'.heap = w.heap) (a : Addr) : w.cell? a = w'.cell? a := by simp [World.cell?, h]
/-- block b holds the cells L, and may be written -/
def Row (w : World) (b : Nat) (L : List Value) (t : TypeId) : Prop := w.heap[b]? = some (.cells L.toArray t (0, 0))
section
variable {w w' : World} {b : Nat} {L : List Value} {t : TypeId}
theorem Row.cell (h : Row w b L t) {k : Nat} {v : Value} (hv : L[k]? = some v) : w.cell? ⟨b, k, none⟩ = some v := by
  rw [cell_of_row w b k _ t _ h]; simpa using hv
theorem Row.lt (h : Row w b L t) : b < w.heap.size := by
  by_cases hh : b < w.heap.size
  · exact hh
  · unfold Row at h; rw [Array.getElem?_eq_none (by omega)] at h; cases h
theorem Row.free (h : Row w b L t) (k : Nat) : w.frozen? ⟨b, k, none⟩ = false := by
  unfold Row at h; simp [World.frozen?, h]
theorem Row.set (h : Row w b L t) (k : Nat) (v : Value) : Row (w.setCell ⟨b, k, none⟩ v) b (L.set k v) t := by
  unfold Row; rw [heap_setCell_same w b k _ t v h, List.setIfInBounds_toArray]
theorem Row.other (h : Row w b L t) (a : Addr) (v : Value) (hne : b ≠ a.block) : Row (w.setCell a v) b L t := by
  unfold Row; rw [heap_setCell_other w a b v hne]; exact h
theorem Row.below {B : Nat} (h : Row w b L t) (hb : Below B w w') (hlt : b < B) : Row w' b L t := by
  unfold Row; rw [hb.block b hlt]; exact h
theorem Row.alloc (w : World) (L : List Value) (t : TypeId) : Row (w.alloc (.cells L.toArray t)) w.heap.size L t := heap_alloc_new _ _
theorem Row.alloc_other (h : Row w b L t) (o : Obj) : Row (w.alloc o) b L t := by
  unfold Row; rw [Below.heap_alloc _ _ _ h.lt]; exact h
theorem below_drewN {B : Nat} {a : World} (h : Below B a w) (n : Nat) : Below B a (w.drewN n) := ⟨h.os, h.tape, h.output, h.size, h.block⟩
theorem Row.drew (h : Row w b L t) : Row w.drew b L t := h
end
/-- a state's cells -/
def stL (v : Spec.V) (rest : List UInt8) (held taken : Int) : List Value := v.list.map u ++ (rest.map cell ++ [.int .i64 held, .int .i64 taken])
theorem stL_rest (v : Spec.V) (rest : List UInt8) (held taken : Int) (k : Nat) (hk : k < rest.length) : (stL v rest held taken)[8 + k]? = some (.int .u8 (n8 (rest.getD k 0))) := by
  have h8 : (v.list.map u).length = 8 := rfl
  rw [stL, List.getElem?_append_right (by omega), h8, show 8 + k - 8 = k by omega, List.getElem?_append_left (by simpa using hk)]
  simp [List.getD, hk, Extern.Stop.cell, n8]
theorem stL_word (v : Spec.V) (rest : List UInt8) (held taken : Int) (k : Nat) (hk : k < 8) : (stL v rest held taken)[k]? = some (.int .u32 (n32 (v.list.getD k 0))) := by
  have h8 : (v.list.map u).length = 8 := rfl
  have h8' : v.list.length = 8 := rfl
  rw [stL, List.getElem?_append_left (by omega)]
  simp [List.getD, hk, h8', u]
/-- all but block g is as it was -/
structure Only (w : World) (g : Nat) (w' : World) : Prop where
  os : w'.os = w.os
  tape : w'.tape = w.tape
  output : w'.output = w.output
  size : w.heap.size ≤ w'.heap.size
  block : ∀ k, k < w.heap.size → k ≠ g → w'.heap[k]? = w.heap[k]?
theorem Only.of_below {w w' : World} (g : Nat) (h : Below w.heap.size w w') : Only w g w' := ⟨h.os, h.tape, h.output, h.size, fun k hk _ => h.block k hk⟩
theorem Only.set {w w' : World} {g : Nat} (h : Only w g w') (k : Nat) (v : Value) : Only w g (w'.setCell ⟨g, k, none⟩ v) :=
  ⟨h.os, h.tape, h.output, by simpa using h.size, fun j hj hne => by rw [heap_setCell_other _ _ _ _ hne]; exact h.block j hj hne⟩
theorem Only.drewN {w w' : World} {g : Nat} (h : Only w g w') (n : Nat) : Only w g (w'.drewN n) := ⟨h.os, h.tape, h.output, h.size, h.block⟩
theorem Only.drew {w w' : World} {g : Nat} (h : Only w g w') : Only w g w'.drew := ⟨h.os, h.tape, h.output, h.size, h.block⟩
theorem Only.row {w w' : World} {g b : Nat} {L : List Value} {t : TypeId} (h : Only w g w') (hr : Row w b L t) (hne : b ≠ g) : Row w' b L t := by
  unfold Row; rw [h.block b hr.lt hne]; exact hr
/-- the words behind i additions -/
def part (s v : Spec.V) (i : Nat) : Spec.V := ⟨if 0 < i then s.a + v.a else s.a, if 1 < i then s.b + v.b else s.b, if 2 < i then s.c + v.c else s.c, if 3 < i then s.d + v.d else s.d, if 4 < i then s.e + v.e else s.e, if 5 < i then s.f + v.f else s.f, if 6 < i then s.g + v.g else s.g, if 7 < i then s.h + v.h else s.h⟩
theorem part_at (s v : Spec.V) (i : Nat) (h : i < 8) : (part s v i).list.getD i 0 = s.list.getD i 0 := by
  match i, h with
  | 0, _ | 1, _ | 2, _ | 3, _ | 4, _ | 5, _ | 6, _ | 7, _ => rfl
theorem part_set (s v : Spec.V) (rest : List UInt8) (held taken : Int) (i : Nat) (h : i < 8) : (stL (part s v i) rest held taken).set i (.int .u32 (n32 (s.list.getD i 0 + v.list.getD i 0))) = stL (part s v (i + 1)) rest held taken := by
  match i, h with
  | 0, _ | 1, _ | 2, _ | 3, _ | 4, _ | 5, _ | 6, _ | 7, _ => rfl
/-- the table k lies where the program keeps it -/
def KTab (w : World) : Prop := 4 < w.heap.size ∧ w.rangeAt 4 0 (Spec.K.map u)
theorem K_at (t : Nat) (h : t < 64) : (Spec.K.map u)[t]? = some (.int .u32 (n32 (Spec.K.getD t 0))) := by
  have hl : t < Spec.K.length := h
  rw [List.getElem?_map, List.getD, List.getElem?_eq_getElem hl]; rfl
def u0s (n : Nat) : List Value := List.replicate n (u 0)
def schL (b : List UInt8) (t : Nat) : List Value := (Spec.sched b t).map u ++ u0s (64 - t)
theorem schL_old (b : List UInt8) (t k : Nat) (h : k < t) : (schL b t)[k]? = some (.int .u32 (n32 ((Spec.sched b t).getD k 0))) := by
  rw [schL, List.getElem?_append_left (by simpa [Spec.sched_length] using h)]
  simp [List.getD, Spec.sched_length, h, u]
theorem schL_new (b : List UInt8) (t k : Nat) (h : t ≤ k) (h2 : k < 64) : (schL b t)[k]? = some (.int .u32 0) := by
  have hlen : ((Spec.sched b t).map u).length = t := by simp [Spec.sched_length]
  rw [schL, List.getElem?_append_right (by omega), hlen, u0s, List.getElem?_replicate, if_pos (by omega)]
  rfl
theorem schL_set (b : List UInt8) (t : Nat) (h : t < 64) (x : UInt32) (hx : x = Spec.nextW b (Spec.sched b t) t) : (schL b t).set t (.int .u32 (n32 x)) = schL b (t + 1) := by
  subst hx
  have hlen : ((Spec.sched b t).map u).length = t := by simp [Spec.sched_length]
  rw [schL, List.set_append_right _ _ (by omega), hlen, Nat.sub_self, schL, Spec.sched, u0s, show 64 - t = (64 - (t + 1)) + 1 by omega, List.replicate_succ]
  simp [u, u0s]

set_option maxHeartbeats 1000000 in
set_option maxRecDepth 100000 in
theorem block_calls (w : World) (g : Nat) (v : Spec.V) (rest : List UInt8) (held taken : Int) (hl : rest.length = 64) (hK : KTab w) (hg : Row w g (stL v rest held taken) 76) :
    Calls Tryd.prog 35 #[.pointer (some ⟨g, 0, none⟩), .pointer (some ⟨g, 8, none⟩)] w (fun e w' => e = .returned (.tuple #[]) ∧ Only w g w' ∧ Row w' g (stL (Spec.mix v rest) rest held taken) 76) := by
  have hlt := hg.lt
  go_enter Tryd.func35, Tryd.ntmps35
  go_wp2
  refine wp_world (fun w1 => Below w.heap.size w w1 ∧ w1.heap.size = w.heap.size + 1 ∧ Row w1 w.heap.size (schL rest 0) 86) ⟨Below.alloc (Below.refl _ _) (Nat.le_refl _) _, by simp, Row.alloc w (schL rest 0) 86⟩ ?_
  rintro w1 ⟨hB1, hS1, hW1⟩
  have HG := Aside0.mk hg
  have HK := Aside0.mk hK
  have HB1 := Aside0.mk hB1
  have HS1 := Aside0.mk hS1
  have HW1 := Aside0.mk hW1
  clear hB1 hS1 hW1 hg hK
  go_loopw [15] (fun i wr => ∃ (t : Nat), t ≤ 64 ∧ i = .int .i64 t ∧ Below w.heap.size w wr ∧ wr.heap.size = w.heap.size + 1 ∧ Row wr w.heap.size (schL rest t) 86)
    (fun i _ => 64 - (intOf i).toNat)
  case atStart => exact ⟨0, by omega, rfl, HB1.out, HS1.out, HW1.out⟩
  case round =>
    obtain ⟨t, ht, rfl, hB, hS, hW⟩ := hrel
    by_cases hlt : t < 64
    · by_cases h16 : t < 16
      · have HB := Aside0.mk hB
        have HS := Aside0.mk hS
        have HW := Aside0.mk hW
        have hgr := HG.out.below HB.out HG.out.lt
        have c0 := hgr.cell (stL_rest v rest held taken (4 * t) (by omega))
        have c1 := hgr.cell (stL_rest v rest held taken (4 * t + 1) (by omega))
        have c2 := hgr.cell (stL_rest v rest held taken (4 * t + 2) (by omega))
        have c3 := hgr.cell (stL_rest v rest held taken (4 * t + 3) (by omega))
        clear hB hS hW hgr
        obtain ⟨x0, hx0⟩ : ∃ x, x = rest.getD (4 * t) 0 := ⟨_, rfl⟩
        obtain ⟨x1, hx1⟩ : ∃ x, x = rest.getD (4 * t + 1) 0 := ⟨_, rfl⟩
        obtain ⟨x2, hx2⟩ : ∃ x, x = rest.getD (4 * t + 2) 0 := ⟨_, rfl⟩
        obtain ⟨x3, hx3⟩ : ∃ x, x = rest.getD (4 * t + 3) 0 := ⟨_, rfl⟩
        rw [← hx0] at c0
        rw [← hx1] at c1
        rw [← hx2] at c2
        rw [← hx3] at c3
        have HX : Aside0 (Spec.be x0 x1 x2 x3 = Spec.nextW rest (Spec.sched rest t) t) := Aside0.mk (by rw [Spec.nextW, if_pos h16, hx0, hx1, hx2, hx3])
        clear hx0 hx1 hx2 hx3
        go_wp2
        refine wp_region_still_tail 39 (by kernel_rfl) (by kernel_rfl) ?_
        simp only [List.take_succ_cons, List.take_zero, List.drop_succ_cons, List.drop_zero]
        have b0 : (0 : Int) ≤ 4 * t ∧ 4 * (t : Int) < 64 := by omega
        have b1 : (0 : Int) ≤ 4 * t + 1 ∧ 4 * (t : Int) + 1 < 64 := by omega
        have b2 : (0 : Int) ≤ 4 * t + 2 ∧ 4 * (t : Int) + 2 < 64 := by omega
        have b3 : (0 : Int) ≤ 4 * t + 3 ∧ 4 * (t : Int) + 3 < 64 := by omega
        have b4 : (0 : Int) ≤ t ∧ (t : Int) < 64 := by omega
        repeat (refine wpStill_step (fun K hK => ?_); go_simp; (try go_bits); with_reducible refine hK _ ?_; clear hK K)
        refine wpStill_nil ?_
        change wpList _ _ _ _ _ wr.drew
        clear c0 c1 c2 c3
        have cw := HW.out.cell (schL_new rest t t (by omega) hlt)
        have cf := HW.out.free t
        go_wp2
        go_roundw
        case measure => simp [intOf]; omega
        case rel =>
          refine ⟨t + 1, by omega, by simp, (HB.out.setCell (p := ⟨w.heap.size, t, none⟩) (Nat.le_refl _) _).drew, by simpa using HS.out, ?_⟩
          have := HW.out.set t (.int .u32 (n32 (Spec.be x0 x1 x2 x3)))
          rw [schL_set rest t hlt _ HX.out] at this
          exact this
      · have HB := Aside0.mk hB
        have HS := Aside0.mk hS
        have HW := Aside0.mk hW
        have c0 := hW.cell (schL_old rest t (t - 15) (by omega))
        have c1 := hW.cell (schL_old rest t (t - 2) (by omega))
        have c2 := hW.cell (schL_old rest t (t - 7) (by omega))
        have c3 := hW.cell (schL_old rest t (t - 16) (by omega))
        have cw := hW.cell (schL_new rest t t (by omega) hlt)
        have cf := hW.free t
        clear hB hS hW
        obtain ⟨x, hx⟩ : ∃ x, x = (Spec.sched rest t).getD (t - 15) 0 := ⟨_, rfl⟩
        obtain ⟨y, hy⟩ : ∃ x, x = (Spec.sched rest t).getD (t - 2) 0 := ⟨_, rfl⟩
        obtain ⟨z, hz⟩ : ∃ x, x = (Spec.sched rest t).getD (t - 7) 0 := ⟨_, rfl⟩
        obtain ⟨q, hq⟩ : ∃ x, x = (Spec.sched rest t).getD (t - 16) 0 := ⟨_, rfl⟩
        rw [← hx] at c0
        rw [← hy] at c1
        rw [← hz] at c2
        rw [← hq] at c3
        have HX : Aside0 (Spec.s1 y + (z + q + Spec.s0 x) = Spec.nextW rest (Spec.sched rest t) t) := Aside0.mk (by rw [Spec.nextW, if_neg h16, hx, hy, hz, hq])
        have HZ := Aside0.mk (schL_old rest t (t - 7) (by omega))
        have HQ := Aside0.mk (schL_old rest t (t - 16) (by omega))
        rw [← hz] at HZ
        rw [← hq] at HQ
        clear hx hy hz hq
        go_wp2
        go_quiet (fail)
        go_wp2
        refine wp_world (fun w2 => Below w.heap.size w w2 ∧ w2.heap.size = w.heap.size + 1 ∧ Row w2 w.heap.size ((schL rest t).set t (.int .u32 (n32 (Spec.s1 y)))) 86)
          ⟨(below_drewN HB.out nq).setCell (p := ⟨w.heap.size, t, none⟩) (Nat.le_refl _) _, by simpa using HS.out, Row.set (w := wr.drewN nq) HW.out t _⟩ ?_
        rintro w2 ⟨hB2, hS2, hW2⟩
        have HB2 := Aside0.mk hB2
        have HS2 := Aside0.mk hS2
        have HW2 := Aside0.mk hW2
        have d0 := hW2.cell (k := t) (v := .int .u32 (n32 (Spec.s1 y))) (by rw [List.getElem?_set_self]; simp [schL, Spec.sched_length, u0s]; omega)
        have d2 := hW2.cell (k := t - 7) (v := .int .u32 (n32 z)) (by rw [List.getElem?_set_ne (by omega)]; exact HZ.out)
        have d3 := hW2.cell (k := t - 16) (v := .int .u32 (n32 q)) (by rw [List.getElem?_set_ne (by omega)]; exact HQ.out)
        have df := hW2.free t
        clear hB2 hS2 hW2 c0 c1 c2 c3 cw cf
        refine wp_region_still_tail 23 (by kernel_rfl) (by kernel_rfl) ?_
        simp only [List.take_succ_cons, List.take_zero, List.drop_succ_cons, List.drop_zero]
        have b4 : (0 : Int) ≤ t ∧ (t : Int) < 64 := by omega
        have b5 : (7 : Int) ≤ t := by omega
        have b6 : (16 : Int) ≤ t := by omega
        have b7 : (t : Int) - 7 < 64 := by omega
        have b8 : (t : Int) - 16 < 64 := by omega
        repeat (first
          | (refine wpStill_step (fun K hK => ?_); go_simp; (try go_bits); with_reducible refine hK _ ?_; clear hK K)
          | (refine wpStill_step (fun K hK => ?_); go_simp; with_reducible refine ⟨_, call7 x _, hK _ ?_⟩; clear hK K)
          | (refine wpStill_step (fun K hK => ?_); go_simp; with_reducible refine ⟨_, call18 x _, hK _ ?_⟩; clear hK K))
        refine wpStill_nil ?_
        change wpList _ _ _ _ _ w2.drew
        clear d2 d3
        go_wp2
        go_roundw
        case measure => simp [intOf]; omega
        case rel =>
          refine ⟨t + 1, by omega, by simp, (HB2.out.setCell (p := ⟨w.heap.size, t, none⟩) (Nat.le_refl _) _).drew, by simpa using HS2.out, ?_⟩
          have := HW2.out.set t (.int .u32 (n32 (Spec.s1 y + (z + q + Spec.s0 x))))
          rw [List.set_set, schL_set rest t hlt _ HX.out] at this
          exact this
    · obtain rfl : t = 64 := by omega
      have HB := Aside0.mk hB
      have HS := Aside0.mk hS
      have HW := Aside0.mk hW
      have HGr := Aside0.mk (HG.out.below HB.out HG.out.lt)
      have HV : Aside0 (wr.rangeAt g 0 (v.list.map u)) := Aside0.mk fun j x hx => by
        refine HGr.out.cell ?_
        rw [stL, Nat.zero_add, List.getElem?_append_left (List.getElem?_eq_some_iff.1 hx).1]; exact hx
      clear hB hS hW
      go_wp2_with (first
        | (with_reducible refine gate_dst (N := 104) rfl ?_; refine wpList_load_mid rfl 71 _ rfl g 0 rfl (v.list.map u) _ HV.out Tryd.underlying71 rfl (by kernel_rfl) ?_)
        | (with_reducible change wpList _ _ _ (Oper.mk _ (Op.store 71 _ _) _ _ _ _ :: _) _ _; refine Aside0.out ?_))
      refine Aside0.mk ?_
      refine wpList_store_row rfl 71 _ _ rfl wr.heap.size (v.list.map u).toArray rfl (by simp [go_sem]) 71 _ (heap_alloc_new _ _) (by kernel_rfl) rfl (all_oneCell_toArray (fun x hx => by obtain ⟨y, _, rfl⟩ := List.mem_map.1 hx; rfl)) ?_
      go_wp2
      rw [HS.out]
      refine wp_world (fun w2 => Below w.heap.size w w2 ∧ w2.heap.size = w.heap.size + 2 ∧ Row w2 w.heap.size (schL rest 64) 86 ∧ Row w2 (w.heap.size + 1) ((Spec.rounds (Spec.sched rest 64) v 0).list.map u) 71) ⟨?_, ?_, ?_, ?_⟩ ?_
      · exact Below.setRow (HB.out.alloc (by rw [HS.out]; omega) _) (by omega) _
      · simp [World.setRow, HS.out]
      · unfold Row; rw [setRow_heap_other _ _ _ _ (by omega)]; exact HW.out.alloc_other _
      · unfold Row; rw [← HS.out]; exact setRow_heap _ _ _ _ _ _ (heap_alloc_new _ _)
      rintro w2 ⟨hB2, hS2, hW2, hV2⟩
      have HB2 := Aside0.mk hB2
      have HS2 := Aside0.mk hS2
      have HW2 := Aside0.mk hW2
      have HV2 := Aside0.mk hV2
      clear hB2 hS2 hW2 hV2
      go_loopw [105] (fun i wr => ∃ (t : Nat), t ≤ 64 ∧ i = .int .i64 t ∧ Below w.heap.size w wr ∧ wr.heap.size = w.heap.size + 2 ∧ Row wr w.heap.size (schL rest 64) 86 ∧ Row wr (w.heap.size + 1) ((Spec.rounds (Spec.sched rest 64) v t).list.map u) 71)
        (fun i _ => 64 - (intOf i).toNat)
      case atStart => exact ⟨0, by omega, rfl, HB2.out, HS2.out, HW2.out, HV2.out⟩
      case round =>
        obtain ⟨t, ht, rfl, hB, hS, hW, hV⟩ := hrel
        by_cases hlt : t < 64
        · obtain ⟨V, hVV⟩ : ∃ V, V = Spec.rounds (Spec.sched rest 64) v t := ⟨_, rfl⟩
          obtain ⟨W, hWW⟩ : ∃ W, W = (Spec.sched rest 64).getD t 0 := ⟨_, rfl⟩
          obtain ⟨k, hkk⟩ : ∃ k, k = Spec.K.getD t 0 := ⟨_, rfl⟩
          rw [← hVV] at hV
          have HB := Aside0.mk hB
          have HS := Aside0.mk hS
          have HW := Aside0.mk hW
          have HV := Aside0.mk hV
          have e0 : wr.cell? ⟨w.heap.size + 1, 0, none⟩ = some (.int .u32 (n32 V.a)) := hV.cell rfl
          have e1 : wr.cell? ⟨w.heap.size + 1, 1, none⟩ = some (.int .u32 (n32 V.b)) := hV.cell rfl
          have e2 : wr.cell? ⟨w.heap.size + 1, 2, none⟩ = some (.int .u32 (n32 V.c)) := hV.cell rfl
          have e3 : wr.cell? ⟨w.heap.size + 1, 3, none⟩ = some (.int .u32 (n32 V.d)) := hV.cell rfl
          have e4 : wr.cell? ⟨w.heap.size + 1, 4, none⟩ = some (.int .u32 (n32 V.e)) := hV.cell rfl
          have e5 : wr.cell? ⟨w.heap.size + 1, 5, none⟩ = some (.int .u32 (n32 V.f)) := hV.cell rfl
          have e6 : wr.cell? ⟨w.heap.size + 1, 6, none⟩ = some (.int .u32 (n32 V.g)) := hV.cell rfl
          have e7 : wr.cell? ⟨w.heap.size + 1, 7, none⟩ = some (.int .u32 (n32 V.h)) := hV.cell rfl
          have e8 : wr.cell? ⟨w.heap.size, t, none⟩ = some (.int .u32 (n32 W)) := hWW ▸ hW.cell (schL_old rest 64 t hlt)
          have e9 : wr.cell? ⟨4, t, none⟩ = some (.int .u32 (n32 k)) := by
            rw [hB.cell (p := ⟨4, t, none⟩) HK.out.1]
            have := HK.out.2 t (.int .u32 (n32 k)) (by subst hkk; exact K_at t hlt)
            simpa using this
          have HN : Aside0 (Spec.rounds (Spec.sched rest 64) v (t + 1) = Spec.step V k W) := Aside0.mk (by rw [Spec.rounds, ← hVV, ← hWW, ← hkk])
          have b4 : (0 : Int) ≤ t ∧ (t : Int) < 64 := by omega
          clear hB hS hW hV hVV hWW hkk
          go_wp2
          go_quiet (fail)
          go_wp2
          refine wp_world (fun w3 => w3.heap = wr.heap ∧ Below w.heap.size w w3) ⟨rfl, below_drewN HB.out _⟩ ?_
          rintro w3 ⟨h3, hB3⟩
          have HB3 := Aside0.mk hB3
          rw [cell_sh h3] at e0 e1 e2 e3 e4 e5 e6 e7 e8 e9
          have H3 := Aside0.mk h3
          clear h3 hB3
          go_quiet (first | with_reducible exact Calls.quiet_of_same (call6 V.e _) | with_reducible exact Calls.quiet_of_same (call11 V.e _) | with_reducible exact Calls.quiet_of_same (call25 V.e _))
          go_wp2
          refine wp_world (fun w4 => w4.heap = w3.heap ∧ Below w.heap.size w w4) ⟨rfl, below_drewN HB3.out _⟩ ?_
          rintro w4 ⟨h4, hB4⟩
          have HB4 := Aside0.mk hB4
          rw [cell_sh h4] at e0 e1 e2 e3 e4 e5 e6 e7 e8 e9
          have H4 := Aside0.mk h4
          clear h4 hB4
          go_quiet (first | with_reducible exact Calls.quiet_of_same (call2 V.a _) | with_reducible exact Calls.quiet_of_same (call13 V.a _) | with_reducible exact Calls.quiet_of_same (call22 V.a _))
          rw [u32_add4, u32_add]
          rw [show n32 (V.h + (Spec.rr V.e 6 ^^^ Spec.rr V.e 11 ^^^ Spec.rr V.e 25) + ((V.e &&& V.f) ^^^ (~~~V.e &&& V.g)) + k + W) = n32 (Spec.tOne V k W) from rfl, show n32 ((Spec.rr V.a 2 ^^^ Spec.rr V.a 13 ^^^ Spec.rr V.a 22) + ((V.a &&& V.b) ^^^ (V.a &&& V.c) ^^^ (V.b &&& V.c))) = n32 (Spec.tTwo V) from rfl]
          go_wp2_with (with_reducible change wpList _ _ _ (Oper.mk _ (Op.store 71 _ _) _ _ _ _ :: _) _ _; refine Aside0.out ?_)
          refine Aside0.mk ?_
          rw [u32_add, u32_add]
          refine wpList_store_row rfl 71 _ _ rfl (w.heap.size + 1) ((Spec.step V k W).list.map u).toArray rfl ?hy 71 (V.list.map u).toArray ?hrow (by kernel_rfl) rfl (all_oneCell_toArray (fun x hx => by obtain ⟨y, _, rfl⟩ := List.mem_map.1 hx; rfl)) ?_
          case hy => simp [go_sem, Spec.step, Spec.V.list, u]
          case hrow => show w4.heap[_]? = _; rw [H4.out, H3.out]; exact HV.out
          go_wp2
          go_roundw
          case measure => simp [intOf]; omega
          case rel =>
            refine ⟨t + 1, by omega, by simp, Below.setRow (below_drewN HB4.out nq) (by omega) _, ?_, ?_, ?_⟩
            · simp [World.setRow]; rw [H4.out, H3.out]; exact HS.out
            · unfold Row; rw [setRow_heap_other _ _ _ _ (by omega)]; show w4.heap[_]? = _; rw [H4.out, H3.out]; exact HW.out
            · rw [HN.out]; exact setRow_heap _ _ _ _ _ _ (by show w4.heap[_]? = _; rw [H4.out, H3.out]; exact HV.out)
        · obtain rfl : t = 64 := by omega
          obtain ⟨V, hVV⟩ : ∃ V, V = Spec.rounds (Spec.sched rest 64) v 64 := ⟨_, rfl⟩
          have hm : v.add V = Spec.mix v rest := by rw [hVV]; rfl
          rw [← hVV] at hV
          have HM := Aside0.mk hm
          have HO := Aside0.mk (Only.of_below g hB)
          have HV := Aside0.mk hV
          have HGr := Aside0.mk (show Row wr g (stL (part v V 0) rest held taken) 76 from HG.out.below hB HG.out.lt)
          have HSz := Aside0.mk (show w.heap.size + 1 < wr.heap.size by omega)
          clear hB hS hW hV hVV hm
          go_wp2
          go_loopw [187] (fun i wq => ∃ (j : Nat), j ≤ 8 ∧ i = .int .i64 j ∧ Only w g wq ∧ Row wq (w.heap.size + 1) (V.list.map u) 71 ∧ Row wq g (stL (part v V j) rest held taken) 76)
            (fun i _ => 8 - (intOf i).toNat)
          case atStart => exact ⟨0, by omega, rfl, HO.out, HV.out, HGr.out⟩
          case round =>
            obtain ⟨j, hj, rfl, hO, hV, hR⟩ := hrel
            by_cases hlt : j < 8
            · have HO := Aside0.mk hO
              have HV := Aside0.mk hV
              have HR := Aside0.mk hR
              have c0 := hR.cell (stL_word (part v V j) rest held taken j hlt)
              rw [part_at v V j hlt] at c0
              have c1 : wr.cell? ⟨w.heap.size + 1, j, none⟩ = some (.int .u32 (n32 (V.list.getD j 0))) := hV.cell (by
                have hl : j < V.list.length := hlt
                rw [List.getElem?_map, List.getD, List.getElem?_eq_getElem hl]; rfl)
              have cf := hR.free j
              obtain ⟨x, hx⟩ : ∃ x, x = v.list.getD j 0 := ⟨_, rfl⟩
              obtain ⟨y, hy⟩ : ∃ y, y = V.list.getD j 0 := ⟨_, rfl⟩
              rw [← hx] at c0
              rw [← hy] at c1
              have HP := Aside0.mk (part_set v V rest held taken j hlt)
              rw [← hx, ← hy] at HP
              have b4 : (0 : Int) ≤ j ∧ (j : Int) < 8 := by omega
              clear hO hV hR hx hy
              go_wp2
              refine wp_region_still_tail 13 (by kernel_rfl) (by kernel_rfl) ?_
              simp only [List.take_succ_cons, List.take_zero, List.drop_succ_cons, List.drop_zero]
              repeat (refine wpStill_step (fun K hK => ?_); go_simp; (try go_bits); with_reducible refine hK _ ?_; clear hK K)
              refine wpStill_nil ?_
              change wpList _ _ _ _ _ wr.drew
              go_wp2
              go_roundw
              case measure => simp [intOf]; omega
              case rel =>
                refine ⟨_, _, _, _, _, _, _, _, _, _, _, _, _, _, _, _, _, _, ⟨j + 1, by omega, ?e, (HO.out.set j _).drew, ?r1, ?r2⟩, rfl⟩
                case e => simp
                case r1 => exact HV.out.other _ _ (by have := HG.out.lt; show w.heap.size + 1 ≠ g; omega)
                case r2 => rw [← HP.out]; exact HR.out.set j _
            · obtain rfl : j = 8 := by omega
              have HO := Aside0.mk hO
              have HR := Aside0.mk (show Row wr g (stL (v.add V) rest held taken) 76 from hR)
              clear hO hV hR
              go_wp2
              go_end0
              exact ⟨rfl, HO.out, HM.out ▸ HR.out⟩
end Go.Proofs.YtnkhhnfmijljbaaDoor
