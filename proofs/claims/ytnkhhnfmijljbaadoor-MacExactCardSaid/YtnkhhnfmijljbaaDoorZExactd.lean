/- Parts of the proof: cairnref02.mixed: the state behind a block. mac.New: a code begins. (*mac.Keyed).Write, Code, Copy; of a code that is none. -/
import Derived.Test.YtnkhhnfmijljbaaDoorZExactc
import Derived.Test.YtnkhhnfmijljbaaDoorZExactb
set_option linter.unusedVariables false
set_option linter.unusedSimpArgs false
namespace Go.Proofs.YtnkhhnfmijljbaaDoor
open Go.RowKit Go.Proofs.YtnkhhnfmijljbaaDoorW.PrintWords Go.Proofs.YtnkhhnfmijljbaaDoorW.PrintLast Go.Proofs.YtnkhhnfmijljbaaDoorW.PrintMore
open Extern.Stop (cell)
theorem wrap_add32 (x y : UInt32) : IntKind.u32.wrap (n32 x + n32 y) = n32 (x + y) := by
  rw [← u32_add]; simp [IntKind.wrap, IntKind.signed, IntKind.bits]
theorem u32_notIf (x : UInt32) : bits .xor .u32 (if IntKind.u32.signed = true then -1 else IntKind.u32.max) (n32 x) = n32 (~~~x) := u32_not' x
attribute [local go_sem] wrap_add32 u32_notIf u32_add u32_shr3 u32_shr10 u8_conv u32_shl24 u32_shl16 u32_shl8 bits_u32_xor bits_u32_or bits_u32_and u32_not u32_not' u32_notm

theorem RTab.ext {w w' : World} (h : RTab w) (hE : Ext w w') : RTab w' :=
  ⟨Nat.lt_of_lt_of_le h.1 hE.size, fun j v hv => by rw [cell_block (a := ⟨3, 0 + j, none⟩) (hE.block 3 h.1)]; exact h.2 j v hv⟩
theorem oneU (l : List UInt32) : ((l.map u).toArray).all (·.oneCell') = true := all_oneCell_toArray (fun x hx => by obtain ⟨y, _, rfl⟩ := List.mem_map.1 hx; rfl)
/-- the words behind i additions, the other way round -/
def partR (s v : Spec.V) (i : Nat) : Spec.V := ⟨if 0 < i then v.a + s.a else v.a, if 1 < i then v.b + s.b else v.b, if 2 < i then v.c + s.c else v.c, if 3 < i then v.d + s.d else v.d, if 4 < i then v.e + s.e else v.e, if 5 < i then v.f + s.f else v.f, if 6 < i then v.g + s.g else v.g, if 7 < i then v.h + s.h else v.h⟩
theorem partR_at (s v : Spec.V) (i : Nat) (h : i < 8) : (partR s v i).list.getD i 0 = v.list.getD i 0 := by
  match i, h with
  | 0, _ | 1, _ | 2, _ | 3, _ | 4, _ | 5, _ | 6, _ | 7, _ => rfl
theorem partR_set (s v : Spec.V) (i : Nat) (h : i < 8) : ((partR s v i).list.map u).set i (.int .u32 (n32 (v.list.getD i 0 + s.list.getD i 0))) = (partR s v (i + 1)).list.map u := by
  match i, h with
  | 0, _ | 1, _ | 2, _ | 3, _ | 4, _ | 5, _ | 6, _ | 7, _ => rfl
theorem partR_8 (s v : Spec.V) : partR s v 8 = s.add v := by
  simp [partR, Spec.V.add, UInt32.add_comm]
theorem listU_at (l : List UInt32) (j : Nat) (h : j < l.length) : (l.map u)[j]? = some (.int .u32 (n32 (l.getD j 0))) := by
  rw [List.getElem?_map, List.getElem?_eq_getElem h, List.getD, List.getElem?_eq_getElem h]; rfl
set_option maxHeartbeats 2000000 in
set_option maxRecDepth 100000 in
theorem mixed_calls (w : World) (s : Spec.V) (g o : Nat) (c : Nat) (b : List UInt8) (hR : RTab w) (hl : b.length = 64) (hb : Bs w (some ⟨g, o, none⟩) 64 b) :
    Calls Tryd.prog 34 #[.agg (s.list.map u).toArray, .slice (some ⟨g, o, none⟩) 64 c] w (fun e w' => e = .returned (.agg ((Spec.mix s b).list.map u).toArray) ∧ Ext w w') := by
  obtain ⟨B, hBdef⟩ : ∃ B, B = w.heap.size := ⟨_, rfl⟩
  have HBD := Aside0.mk hBdef
  have HR := Aside0.mk hR
  have HBB := Aside0.mk hb
  clear hR hb
  obtain ⟨sl, hsl⟩ : ∃ sl, sl = s.list.map u := ⟨_, rfl⟩
  have HSL := Aside0.mk hsl
  have HSZ := Aside0.mk (show sl.toArray.size = 8 by rw [hsl]; rfl)
  have hsz : sl.toArray.size = 8 := HSZ.out
  rw [← hsl]
  clear hsl
  go_enter Tryd.func34, Tryd.ntmps34
  go_wp2_with fail
  have hE0 : Ext w ((w.alloc (.cells sl.toArray 71)).alloc (.cells (u0s 8).toArray 71)) := ((Ext.refl w).alloc _).alloc _
  have hA0 : Row ((w.alloc (.cells sl.toArray 71)).alloc (.cells (u0s 8).toArray 71)) B sl 71 := by rw [hBdef]; exact (Row.alloc w sl 71).alloc_other _
  have hA1 : Row ((w.alloc (.cells sl.toArray 71)).alloc (.cells (u0s 8).toArray 71)) (B + 1) (u0s 8) 71 := by
    rw [hBdef, show w.heap.size + 1 = (w.alloc (.cells sl.toArray 71)).heap.size by simp]; exact Row.alloc _ _ _
  refine (words_calls _ g o c b hl (HBB.out.ext hE0)).mono ?_
  rintro e w2 ⟨rfl, hE2⟩
  rw [← hBdef]
  have HE2 := Aside0.mk (hE0.trans hE2)
  have HS2 := Aside0.mk (hA0.ext hE2)
  have HA2 := Aside0.mk (hA1.ext hE2)
  obtain ⟨wl, hwl⟩ : ∃ wl, wl = (Spec.sched b 64).map u := ⟨_, rfl⟩
  rw [← hwl]
  have HWL := Aside0.mk hwl
  have HWZ := Aside0.mk (show wl.toArray.size = 64 by rw [hwl]; simp [Spec.sched_length])
  have HWO := Aside0.mk (show wl.toArray.all (·.oneCell') = true by rw [hwl]; exact oneU _)
  have HSO := Aside0.mk (show sl.toArray.all (·.oneCell') = true by rw [HSL.out]; exact oneU _)
  clear hE0 hA0 hA1 hE2 hBdef hwl
  go_wp2_with (with_reducible change wpList _ _ _ (Oper.mk _ (Op.store 86 _ _) _ _ _ _ :: _) _ _; refine Aside0.out ?_)
  refine Aside0.mk ?_
  refine wpList_store_row rfl 86 _ _ rfl w2.heap.size wl.toArray rfl (by simp [go_sem]) 86 _ (heap_alloc_new _ _) (by rw [HWZ.out]; kernel_rfl) (by rw [HWZ.out]; rfl) HWO.out ?_
  obtain ⟨C, hC⟩ : ∃ C, C = w2.heap.size := ⟨_, rfl⟩
  have hEr : Ext w2 ((w2.alloc (.cells (u0s 64).toArray 86)).setRow w2.heap.size wl.toArray) := below_alloc_setRow _ _ _
  refine wpList_world (fun w3 => Ext w w3 ∧ Row w3 B sl 71 ∧ Row w3 (B + 1) (u0s 8) 71 ∧ Row w3 C wl 86) ⟨HE2.out.trans hEr, HS2.out.ext hEr, HA2.out.ext hEr, by rw [hC]; exact alloc_setRow _ _ _ _⟩ ?_
  rintro w3 ⟨hE3, hS3, hA3, hC3⟩
  rw [← hC]
  have HE3 := Aside0.mk hE3
  have HS3 := Aside0.mk hS3
  have HA3 := Aside0.mk hA3
  have HC3 := Aside0.mk hC3
  clear hE3 hS3 hA3 hC3 hC hEr
  go_wp2_with (with_reducible refine gate_dst (N := 15) rfl ?_; refine Aside0.out ?_)
  refine Aside0.mk ?_
  refine wpList_load_row rfl 71 _ rfl B rfl 71 sl.toArray (0, 0) _ HS3.out Tryd.underlying71 rfl (by rw [HSZ.out]; kernel_rfl) ?_
  go_wp2_with (with_reducible change wpList _ _ _ (Oper.mk _ (Op.store 71 _ _) _ _ _ _ :: _) _ _; refine Aside0.out ?_)
  refine Aside0.mk ?_
  refine wpList_store_row rfl 71 _ _ rfl w3.heap.size sl.toArray rfl (by simp [go_sem]) 71 _ (heap_alloc_new _ _) (by rw [HSZ.out]; kernel_rfl) (by rw [HSZ.out]; rfl) HSO.out ?_
  obtain ⟨D, hD⟩ : ∃ D, D = w3.heap.size := ⟨_, rfl⟩
  have hEr : Ext w3 ((w3.alloc (.cells (u0s 8).toArray 71)).setRow w3.heap.size sl.toArray) := below_alloc_setRow _ _ _
  have hBD : B + 1 < D := by rw [hD]; exact HA3.out.lt
  have hCD : C < D := by rw [hD]; exact HC3.out.lt
  have hwB : w.heap.size ≤ B := by rw [HBD.out]; exact Nat.le_refl _
  refine wpList_world (fun w4 => Ext w w4 ∧ Row w4 B sl 71 ∧ Row w4 (B + 1) (u0s 8) 71 ∧ Row w4 C wl 86 ∧ Row w4 D sl 71) ⟨HE3.out.trans hEr, HS3.out.ext hEr, HA3.out.ext hEr, HC3.out.ext hEr, by rw [hD]; exact alloc_setRow _ _ _ _⟩ ?_
  rintro w4 ⟨hE4, hS4, hA4, hC4, hD4⟩
  rw [← hD]
  have HE4 := Aside0.mk hE4
  have HS4 := Aside0.mk hS4
  have HA4 := Aside0.mk hA4
  have HC4 := Aside0.mk hC4
  have HD4 := Aside0.mk hD4
  clear hE4 hS4 hA4 hC4 hD4 hD hEr
  go_wp2_with fail
  go_loopw [7] (fun i wr => ∃ (t : Nat), t ≤ 64 ∧ i = .int .i64 t ∧ Ext w wr ∧ Row wr B sl 71 ∧ Row wr (B + 1) (u0s 8) 71 ∧ Row wr C wl 86 ∧ Row wr D ((Spec.rounds (Spec.sched b 64) s t).list.map u) 71)
    (fun i _ => 64 - (intOf i).toNat)
  case atStart => exact ⟨0, by omega, rfl, HE4.out, HS4.out, HA4.out, HC4.out, by show Row w4 D (s.list.map u) 71; rw [← HSL.out]; exact HD4.out⟩
  case round =>
    obtain ⟨t, ht, rfl, hE, hS, hA, hC, hV⟩ := hrel
    by_cases hlt : t < 64
    · obtain ⟨V, hVV⟩ : ∃ V, V = Spec.rounds (Spec.sched b 64) s t := ⟨_, rfl⟩
      obtain ⟨W, hWW⟩ : ∃ W, W = (Spec.sched b 64).getD t 0 := ⟨_, rfl⟩
      obtain ⟨k, hkk⟩ : ∃ k, k = Spec.K.getD t 0 := ⟨_, rfl⟩
      rw [← hVV] at hV
      have HE := Aside0.mk hE
      have HSr := Aside0.mk hS
      have HAr := Aside0.mk hA
      have HW := Aside0.mk hC
      have HV := Aside0.mk hV
      have HRr := HR.out.ext hE
      have H3 := Aside0.mk HRr.1
      have HKT := Aside0.mk (show wr.cell? ⟨3, t, none⟩ = some (.int .u32 (n32 k)) by
        have := HRr.2 t (.int .u32 (n32 k)) (by subst hkk; exact K_at t hlt)
        simpa using this)
      have HWT := Aside0.mk (show wl[t]? = some (.int .u32 (n32 W)) by rw [HWL.out, hWW]; exact listU_at _ _ (by rw [Spec.sched_length]; exact hlt))
      have HN := Aside0.mk (show Spec.rounds (Spec.sched b 64) s (t + 1) = Spec.step V k W by rw [Spec.rounds, ← hVV, ← hWW, ← hkk])
      have e0 : wr.cell? ⟨D, 0, none⟩ = some (.int .u32 (n32 V.a)) := hV.cell rfl
      have e4 : wr.cell? ⟨D, 4, none⟩ = some (.int .u32 (n32 V.e)) := hV.cell rfl
      have b4 : (0 : Int) ≤ t ∧ (t : Int) < 64 := by omega
      clear hE hS hA hC hV hVV hWW hkk HRr
      go_wp2_with fail
      refine ext_region 31 [(0, 24), (1, 25), (2, 26), (3, 27), (4, 28), (5, 29), (6, 30), (7, 31), (8, 32), (9, 33), (10, 34), (11, 35), (12, 36), (13, 37), (14, 38), (15, 39), (16, 40), (17, 41), (18, 42), (19, 43), (20, 44), (21, 45), (22, 46), (23, 47), (24, 48), (25, 49), (26, 50), (27, 51), (28, 52), (29, 53), (30, 10)] [0, 1, 2, 3, 4, 5, 6, 7, 8, 9, 10, 11, 12, 13, 14, 15, 16, 17, 18, 19, 20, 21, 22, 23, 24, 25, 26, 27, 28, 29, 30] (fun i w v => match i with | 0 => v = .pointer (some ⟨D, 7, none⟩) | 1 => v = .int .u32 (n32 (V.h)) | 2 => v = .int .u32 (n32 V.e) | 3 => v = .int .u32 (n32 (Spec.rr V.e 6)) | 4 => v = .int .u32 (n32 V.e) | 5 => v = .int .u32 (n32 (Spec.rr V.e 11)) | 6 => v = .int .u32 (n32 (Spec.rr V.e 6 ^^^ Spec.rr V.e 11)) | 7 => v = .int .u32 (n32 V.e) | 8 => v = .int .u32 (n32 (Spec.rr V.e 25)) | 9 => v = .int .u32 (n32 ((Spec.rr V.e 6 ^^^ Spec.rr V.e 11 ^^^ Spec.rr V.e 25))) | 10 => v = .int .u32 (n32 (V.h + (Spec.rr V.e 6 ^^^ Spec.rr V.e 11 ^^^ Spec.rr V.e 25))) | 11 => v = .int .u32 (n32 V.e) | 12 => v = .pointer (some ⟨D, 5, none⟩) | 13 => v = .int .u32 (n32 (V.f)) | 14 => v = .int .u32 (n32 (V.e &&& V.f)) | 15 => v = .int .u32 (n32 V.e) | 16 => v = .int .u32 (n32 (~~~V.e)) | 17 => v = .pointer (some ⟨D, 6, none⟩) | 18 => v = .int .u32 (n32 (V.g)) | 19 => v = .int .u32 (n32 (~~~V.e &&& V.g)) | 20 => v = .int .u32 (n32 (((V.e &&& V.f) ^^^ (~~~V.e &&& V.g)))) | 21 => v = .int .u32 (n32 (V.h + (Spec.rr V.e 6 ^^^ Spec.rr V.e 11 ^^^ Spec.rr V.e 25) + ((V.e &&& V.f) ^^^ (~~~V.e &&& V.g)))) | 22 => v = .int .i64 t | 23 => v = .pointer (some ⟨3, t, none⟩) | 24 => v = .int .u32 (n32 (k)) | 25 => v = .int .u32 (n32 (V.h + (Spec.rr V.e 6 ^^^ Spec.rr V.e 11 ^^^ Spec.rr V.e 25) + ((V.e &&& V.f) ^^^ (~~~V.e &&& V.g)) + k)) | 26 => v = .int .i64 t | 27 => v = .pointer (some ⟨C, t, none⟩) | 28 => v = .int .u32 (n32 (W)) | 29 => v = .int .u32 (n32 (V.h + (Spec.rr V.e 6 ^^^ Spec.rr V.e 11 ^^^ Spec.rr V.e 25) + ((V.e &&& V.f) ^^^ (~~~V.e &&& V.g)) + k + W)) | 30 => v = .int .u32 (n32 (V.h + (Spec.rr V.e 6 ^^^ Spec.rr V.e 11 ^^^ Spec.rr V.e 25) + ((V.e &&& V.f) ^^^ (~~~V.e &&& V.g)) + k + W)) | _ => True) (by kernel_rfl) (by kernel_rfl) (by rfl) rfl ?mono8 ?steps8 ?fin8
      case mono8 =>
        intro i w w' v h hE
        match i with
        | 0 => exact h
        | 1 => exact h
        | 2 => exact h
        | 3 => exact h
        | 4 => exact h
        | 5 => exact h
        | 6 => exact h
        | 7 => exact h
        | 8 => exact h
        | 9 => exact h
        | 10 => exact h
        | 11 => exact h
        | 12 => exact h
        | 13 => exact h
        | 14 => exact h
        | 15 => exact h
        | 16 => exact h
        | 17 => exact h
        | 18 => exact h
        | 19 => exact h
        | 20 => exact h
        | 21 => exact h
        | 22 => exact h
        | 23 => exact h
        | 24 => exact h
        | 25 => exact h
        | 26 => exact h
        | 27 => exact h
        | 28 => exact h
        | 29 => exact h
        | 30 => exact h
        | _ + 31 => trivial
      case steps8 =>
        refine stepE_cons ⟨_, rfl, fun a w hE hH => ?_⟩ ?_
        ·
          have e6 : a.tmps[6]? = some (.pointer (some ⟨D, 0, none⟩)) := hH.old 6 rfl
          exact Or.inl ⟨rfl, goodE_val (.pointer (some ⟨D, 7, none⟩)) (by simp [execOp, Act.eval, e6, go_sem]) rfl⟩
        refine stepE_cons ⟨_, rfl, fun a w hE hH => ?_⟩ ?_
        ·
          obtain ⟨v24, e24, g24⟩ := hH.dep 0 24 rfl (by kernel_rfl)
          have q24 : v24 = .pointer (some ⟨D, 7, none⟩) := g24
          subst q24
          exact Or.inl ⟨(rfl), goodE_val (.int .u32 (n32 V.h)) (by simp [execOp, Act.eval, e24, go_sem, ((HV.out.drew).ext hE).cell (show (V.list.map u)[7]? = some (.int .u32 (n32 V.h)) from rfl)]) rfl⟩
        refine stepE_cons ⟨_, rfl, fun a w hE hH => ?_⟩ ?_
        ·
          have e8 : a.tmps[8]? = some (.int .u32 (n32 V.e)) := hH.old 8 rfl
          exact Or.inl ⟨rfl, goodE_move _ rfl (eval_of e8) rfl⟩
        refine stepE_cons ⟨_, rfl, fun a w hE hH => ?_⟩ ?_
        ·
          obtain ⟨v26, e26, g26⟩ := hH.dep 2 26 rfl (by kernel_rfl)
          have q26 : v26 = .int .u32 (n32 V.e) := g26
          subst q26
          exact Or.inl ⟨(rfl), goodE_call rfl #[.int .u32 (n32 V.e), .int .i64 6] (by simp [Act.eval, e26]) _ Tryd.func42 (by kernel_rfl) (by kernel_rfl) ((turned_ext V.e 6 (by simp) w).mono (fun e w' h => ⟨_, h.1, h.2, rfl⟩))⟩
        refine stepE_cons ⟨_, rfl, fun a w hE hH => ?_⟩ ?_
        ·
          have e8 : a.tmps[8]? = some (.int .u32 (n32 V.e)) := hH.old 8 rfl
          exact Or.inl ⟨rfl, goodE_move _ rfl (eval_of e8) rfl⟩
        refine stepE_cons ⟨_, rfl, fun a w hE hH => ?_⟩ ?_
        ·
          obtain ⟨v28, e28, g28⟩ := hH.dep 4 28 rfl (by kernel_rfl)
          have q28 : v28 = .int .u32 (n32 V.e) := g28
          subst q28
          exact Or.inl ⟨(rfl), goodE_call rfl #[.int .u32 (n32 V.e), .int .i64 11] (by simp [Act.eval, e28]) _ Tryd.func42 (by kernel_rfl) (by kernel_rfl) ((turned_ext V.e 11 (by simp) w).mono (fun e w' h => ⟨_, h.1, h.2, rfl⟩))⟩
        refine stepE_cons ⟨_, rfl, fun a w hE hH => ?_⟩ ?_
        ·
          obtain ⟨v27, e27, g27⟩ := hH.dep 3 27 rfl (by kernel_rfl)
          have q27 : v27 = .int .u32 (n32 (Spec.rr V.e 6)) := g27
          subst q27
          obtain ⟨v29, e29, g29⟩ := hH.dep 5 29 rfl (by kernel_rfl)
          have q29 : v29 = .int .u32 (n32 (Spec.rr V.e 11)) := g29
          subst q29
          exact Or.inl ⟨rfl, goodE_val (.int .u32 (n32 (Spec.rr V.e 6 ^^^ Spec.rr V.e 11))) (by simp [execOp, Act.eval, e27, e29, go_sem]) rfl⟩
        refine stepE_cons ⟨_, rfl, fun a w hE hH => ?_⟩ ?_
        ·
          have e8 : a.tmps[8]? = some (.int .u32 (n32 V.e)) := hH.old 8 rfl
          exact Or.inl ⟨rfl, goodE_move _ rfl (eval_of e8) rfl⟩
        refine stepE_cons ⟨_, rfl, fun a w hE hH => ?_⟩ ?_
        ·
          obtain ⟨v31, e31, g31⟩ := hH.dep 7 31 rfl (by kernel_rfl)
          have q31 : v31 = .int .u32 (n32 V.e) := g31
          subst q31
          exact Or.inl ⟨(rfl), goodE_call rfl #[.int .u32 (n32 V.e), .int .i64 25] (by simp [Act.eval, e31]) _ Tryd.func42 (by kernel_rfl) (by kernel_rfl) ((turned_ext V.e 25 (by simp) w).mono (fun e w' h => ⟨_, h.1, h.2, rfl⟩))⟩
        refine stepE_cons ⟨_, rfl, fun a w hE hH => ?_⟩ ?_
        ·
          obtain ⟨v30, e30, g30⟩ := hH.dep 6 30 rfl (by kernel_rfl)
          have q30 : v30 = .int .u32 (n32 (Spec.rr V.e 6 ^^^ Spec.rr V.e 11)) := g30
          subst q30
          obtain ⟨v32, e32, g32⟩ := hH.dep 8 32 rfl (by kernel_rfl)
          have q32 : v32 = .int .u32 (n32 (Spec.rr V.e 25)) := g32
          subst q32
          exact Or.inl ⟨rfl, goodE_val (.int .u32 (n32 ((Spec.rr V.e 6 ^^^ Spec.rr V.e 11 ^^^ Spec.rr V.e 25)))) (by simp [execOp, Act.eval, e32, e30, go_sem]) rfl⟩
        refine stepE_cons ⟨_, rfl, fun a w hE hH => ?_⟩ ?_
        ·
          obtain ⟨v25, e25, g25⟩ := hH.dep 1 25 rfl (by kernel_rfl)
          have q25 : v25 = .int .u32 (n32 (V.h)) := g25
          subst q25
          obtain ⟨v33, e33, g33⟩ := hH.dep 9 33 rfl (by kernel_rfl)
          have q33 : v33 = .int .u32 (n32 ((Spec.rr V.e 6 ^^^ Spec.rr V.e 11 ^^^ Spec.rr V.e 25))) := g33
          subst q33
          exact Or.inl ⟨rfl, goodE_val (.int .u32 (n32 (V.h + (Spec.rr V.e 6 ^^^ Spec.rr V.e 11 ^^^ Spec.rr V.e 25)))) (by simp [execOp, Act.eval, e25, e33, go_sem]) rfl⟩
        refine stepE_cons ⟨_, rfl, fun a w hE hH => ?_⟩ ?_
        ·
          have e8 : a.tmps[8]? = some (.int .u32 (n32 V.e)) := hH.old 8 rfl
          exact Or.inl ⟨rfl, goodE_move _ rfl (eval_of e8) rfl⟩
        refine stepE_cons ⟨_, rfl, fun a w hE hH => ?_⟩ ?_
        ·
          have e6 : a.tmps[6]? = some (.pointer (some ⟨D, 0, none⟩)) := hH.old 6 rfl
          exact Or.inl ⟨rfl, goodE_val (.pointer (some ⟨D, 5, none⟩)) (by simp [execOp, Act.eval, e6, go_sem]) rfl⟩
        refine stepE_cons ⟨_, rfl, fun a w hE hH => ?_⟩ ?_
        ·
          obtain ⟨v36, e36, g36⟩ := hH.dep 12 36 rfl (by kernel_rfl)
          have q36 : v36 = .pointer (some ⟨D, 5, none⟩) := g36
          subst q36
          exact Or.inl ⟨(rfl), goodE_val (.int .u32 (n32 V.f)) (by simp [execOp, Act.eval, e36, go_sem, ((HV.out.drew).ext hE).cell (show (V.list.map u)[5]? = some (.int .u32 (n32 V.f)) from rfl)]) rfl⟩
        refine stepE_cons ⟨_, rfl, fun a w hE hH => ?_⟩ ?_
        ·
          obtain ⟨v35, e35, g35⟩ := hH.dep 11 35 rfl (by kernel_rfl)
          have q35 : v35 = .int .u32 (n32 V.e) := g35
          subst q35
          obtain ⟨v37, e37, g37⟩ := hH.dep 13 37 rfl (by kernel_rfl)
          have q37 : v37 = .int .u32 (n32 (V.f)) := g37
          subst q37
          exact Or.inl ⟨rfl, goodE_val (.int .u32 (n32 (V.e &&& V.f))) (by simp [execOp, Act.eval, e35, e37, go_sem]) rfl⟩
        refine stepE_cons ⟨_, rfl, fun a w hE hH => ?_⟩ ?_
        ·
          have e8 : a.tmps[8]? = some (.int .u32 (n32 V.e)) := hH.old 8 rfl
          exact Or.inl ⟨rfl, goodE_move _ rfl (eval_of e8) rfl⟩
        refine stepE_cons ⟨_, rfl, fun a w hE hH => ?_⟩ ?_
        ·
          obtain ⟨v39, e39, g39⟩ := hH.dep 15 39 rfl (by kernel_rfl)
          have q39 : v39 = .int .u32 (n32 V.e) := g39
          subst q39
          exact Or.inl ⟨rfl, goodE_val (.int .u32 (n32 (~~~V.e))) (by simp [execOp, Act.eval, e39, go_sem]) rfl⟩
        refine stepE_cons ⟨_, rfl, fun a w hE hH => ?_⟩ ?_
        ·
          have e6 : a.tmps[6]? = some (.pointer (some ⟨D, 0, none⟩)) := hH.old 6 rfl
          exact Or.inl ⟨rfl, goodE_val (.pointer (some ⟨D, 6, none⟩)) (by simp [execOp, Act.eval, e6, go_sem]) rfl⟩
        refine stepE_cons ⟨_, rfl, fun a w hE hH => ?_⟩ ?_
        ·
          obtain ⟨v41, e41, g41⟩ := hH.dep 17 41 rfl (by kernel_rfl)
          have q41 : v41 = .pointer (some ⟨D, 6, none⟩) := g41
          subst q41
          exact Or.inl ⟨(rfl), goodE_val (.int .u32 (n32 V.g)) (by simp [execOp, Act.eval, e41, go_sem, ((HV.out.drew).ext hE).cell (show (V.list.map u)[6]? = some (.int .u32 (n32 V.g)) from rfl)]) rfl⟩
        refine stepE_cons ⟨_, rfl, fun a w hE hH => ?_⟩ ?_
        ·
          obtain ⟨v40, e40, g40⟩ := hH.dep 16 40 rfl (by kernel_rfl)
          have q40 : v40 = .int .u32 (n32 (~~~V.e)) := g40
          subst q40
          obtain ⟨v42, e42, g42⟩ := hH.dep 18 42 rfl (by kernel_rfl)
          have q42 : v42 = .int .u32 (n32 (V.g)) := g42
          subst q42
          exact Or.inl ⟨rfl, goodE_val (.int .u32 (n32 (~~~V.e &&& V.g))) (by simp [execOp, Act.eval, e40, e42, go_sem]) rfl⟩
        refine stepE_cons ⟨_, rfl, fun a w hE hH => ?_⟩ ?_
        ·
          obtain ⟨v38, e38, g38⟩ := hH.dep 14 38 rfl (by kernel_rfl)
          have q38 : v38 = .int .u32 (n32 (V.e &&& V.f)) := g38
          subst q38
          obtain ⟨v43, e43, g43⟩ := hH.dep 19 43 rfl (by kernel_rfl)
          have q43 : v43 = .int .u32 (n32 (~~~V.e &&& V.g)) := g43
          subst q43
          exact Or.inl ⟨rfl, goodE_val (.int .u32 (n32 (((V.e &&& V.f) ^^^ (~~~V.e &&& V.g))))) (by simp [execOp, Act.eval, e43, e38, go_sem]) rfl⟩
        refine stepE_cons ⟨_, rfl, fun a w hE hH => ?_⟩ ?_
        ·
          obtain ⟨v34, e34, g34⟩ := hH.dep 10 34 rfl (by kernel_rfl)
          have q34 : v34 = .int .u32 (n32 (V.h + (Spec.rr V.e 6 ^^^ Spec.rr V.e 11 ^^^ Spec.rr V.e 25))) := g34
          subst q34
          obtain ⟨v44, e44, g44⟩ := hH.dep 20 44 rfl (by kernel_rfl)
          have q44 : v44 = .int .u32 (n32 (((V.e &&& V.f) ^^^ (~~~V.e &&& V.g)))) := g44
          subst q44
          exact Or.inl ⟨rfl, goodE_val (.int .u32 (n32 (V.h + (Spec.rr V.e 6 ^^^ Spec.rr V.e 11 ^^^ Spec.rr V.e 25) + ((V.e &&& V.f) ^^^ (~~~V.e &&& V.g))))) (by simp [execOp, Act.eval, e34, e44, go_sem]) rfl⟩
        refine stepE_cons ⟨_, rfl, fun a w hE hH => ?_⟩ ?_
        ·
          have e7 : a.tmps[7]? = some (.int .i64 t) := hH.old 7 rfl
          exact Or.inl ⟨rfl, goodE_move _ rfl (eval_of e7) rfl⟩
        refine stepE_cons ⟨_, rfl, fun a w hE hH => ?_⟩ ?_
        ·
          obtain ⟨v46, e46, g46⟩ := hH.dep 22 46 rfl (by kernel_rfl)
          have q46 : v46 = .int .i64 t := g46
          subst q46
          exact Or.inl ⟨(rfl), goodE_val (.pointer (some ⟨3, t, none⟩)) (by simp [execOp, Act.eval, e46, go_sem, b4]) rfl⟩
        refine stepE_cons ⟨_, rfl, fun a w hE hH => ?_⟩ ?_
        ·
          obtain ⟨v47, e47, g47⟩ := hH.dep 23 47 rfl (by kernel_rfl)
          have q47 : v47 = .pointer (some ⟨3, t, none⟩) := g47
          subst q47
          exact Or.inl ⟨(rfl), goodE_val (.int .u32 (n32 k)) (by simp [execOp, Act.eval, e47, go_sem, (hE.cell (p := ⟨3, t, none⟩) (by show 3 < wr.heap.size; exact H3.out)).trans HKT.out]) rfl⟩
        refine stepE_cons ⟨_, rfl, fun a w hE hH => ?_⟩ ?_
        ·
          obtain ⟨v45, e45, g45⟩ := hH.dep 21 45 rfl (by kernel_rfl)
          have q45 : v45 = .int .u32 (n32 (V.h + (Spec.rr V.e 6 ^^^ Spec.rr V.e 11 ^^^ Spec.rr V.e 25) + ((V.e &&& V.f) ^^^ (~~~V.e &&& V.g)))) := g45
          subst q45
          obtain ⟨v48, e48, g48⟩ := hH.dep 24 48 rfl (by kernel_rfl)
          have q48 : v48 = .int .u32 (n32 (k)) := g48
          subst q48
          exact Or.inl ⟨rfl, goodE_val (.int .u32 (n32 (V.h + (Spec.rr V.e 6 ^^^ Spec.rr V.e 11 ^^^ Spec.rr V.e 25) + ((V.e &&& V.f) ^^^ (~~~V.e &&& V.g)) + k))) (by simp [execOp, Act.eval, e48, e45, go_sem]) rfl⟩
        refine stepE_cons ⟨_, rfl, fun a w hE hH => ?_⟩ ?_
        ·
          have e7 : a.tmps[7]? = some (.int .i64 t) := hH.old 7 rfl
          exact Or.inl ⟨rfl, goodE_move _ rfl (eval_of e7) rfl⟩
        refine stepE_cons ⟨_, rfl, fun a w hE hH => ?_⟩ ?_
        ·
          have e5 : a.tmps[5]? = some (.pointer (some ⟨C, 0, none⟩)) := hH.old 5 rfl
          obtain ⟨v50, e50, g50⟩ := hH.dep 26 50 rfl (by kernel_rfl)
          have q50 : v50 = .int .i64 t := g50
          subst q50
          exact Or.inl ⟨(rfl), goodE_val (.pointer (some ⟨C, t, none⟩)) (by simp [execOp, Act.eval, e50, e5, go_sem, b4]) rfl⟩
        refine stepE_cons ⟨_, rfl, fun a w hE hH => ?_⟩ ?_
        ·
          obtain ⟨v51, e51, g51⟩ := hH.dep 27 51 rfl (by kernel_rfl)
          have q51 : v51 = .pointer (some ⟨C, t, none⟩) := g51
          subst q51
          exact Or.inl ⟨(rfl), goodE_val (.int .u32 (n32 W)) (by simp [execOp, Act.eval, e51, go_sem, ((HW.out.drew).ext hE).cell HWT.out]) rfl⟩
        refine stepE_cons ⟨_, rfl, fun a w hE hH => ?_⟩ ?_
        ·
          obtain ⟨v49, e49, g49⟩ := hH.dep 25 49 rfl (by kernel_rfl)
          have q49 : v49 = .int .u32 (n32 (V.h + (Spec.rr V.e 6 ^^^ Spec.rr V.e 11 ^^^ Spec.rr V.e 25) + ((V.e &&& V.f) ^^^ (~~~V.e &&& V.g)) + k)) := g49
          subst q49
          obtain ⟨v52, e52, g52⟩ := hH.dep 28 52 rfl (by kernel_rfl)
          have q52 : v52 = .int .u32 (n32 (W)) := g52
          subst q52
          exact Or.inl ⟨rfl, goodE_val (.int .u32 (n32 (V.h + (Spec.rr V.e 6 ^^^ Spec.rr V.e 11 ^^^ Spec.rr V.e 25) + ((V.e &&& V.f) ^^^ (~~~V.e &&& V.g)) + k + W))) (by simp [execOp, Act.eval, e49, e52, go_sem]) rfl⟩
        refine stepE_cons ⟨_, rfl, fun a w hE hH => ?_⟩ ?_
        ·
          obtain ⟨v53, e53, g53⟩ := hH.dep 29 53 rfl (by kernel_rfl)
          exact Or.inl ⟨rfl, goodE_assign v53 rfl (eval_of e53) g53⟩
        exact stepE_nil
      rintro vals wz hE hV
      have k10 : vals 30 = .int .u32 (n32 (V.h + (Spec.rr V.e 6 ^^^ Spec.rr V.e 11 ^^^ Spec.rr V.e 25) + ((V.e &&& V.f) ^^^ (~~~V.e &&& V.g)) + k + W)) := hV 30 (by simp) rfl
      simp only [List.map_cons, List.map_nil, putAll, Act.put, List.setIfInBounds_toArray, List.set_cons_zero, List.set_cons_succ, k10]
      have HE5 := Aside0.mk (HE.out.trans ((Ext.to_drew _).trans hE))
      have HS5 := Aside0.mk (HSr.out.ext ((Ext.to_drew _).trans hE))
      have HA5 := Aside0.mk (HAr.out.ext ((Ext.to_drew _).trans hE))
      have HW5 := Aside0.mk (HW.out.ext ((Ext.to_drew _).trans hE))
      have HV2 := Aside0.mk (HV.out.ext ((Ext.to_drew _).trans hE))
      clear hE hV k10 e0 e4
      go_wp2_with fail
      refine ext_region 25 [(0, 54), (1, 55), (2, 56), (3, 57), (4, 58), (5, 59), (6, 60), (7, 61), (8, 62), (9, 63), (10, 64), (11, 65), (12, 66), (13, 67), (14, 68), (15, 69), (16, 70), (17, 71), (18, 72), (19, 73), (20, 74), (21, 75), (22, 76), (23, 77), (24, 11)] [0, 1, 2, 3, 4, 5, 6, 7, 8, 9, 10, 11, 12, 13, 14, 15, 16, 17, 18, 19, 20, 21, 22, 23, 24] (fun i w v => match i with | 0 => v = .int .u32 (n32 V.a) | 1 => v = .int .u32 (n32 (Spec.rr V.a 2)) | 2 => v = .int .u32 (n32 V.a) | 3 => v = .int .u32 (n32 (Spec.rr V.a 13)) | 4 => v = .int .u32 (n32 (Spec.rr V.a 2 ^^^ Spec.rr V.a 13)) | 5 => v = .int .u32 (n32 V.a) | 6 => v = .int .u32 (n32 (Spec.rr V.a 22)) | 7 => v = .int .u32 (n32 ((Spec.rr V.a 2 ^^^ Spec.rr V.a 13 ^^^ Spec.rr V.a 22))) | 8 => v = .int .u32 (n32 V.a) | 9 => v = .pointer (some ⟨D, 1, none⟩) | 10 => v = .int .u32 (n32 (V.b)) | 11 => v = .int .u32 (n32 (V.a &&& V.b)) | 12 => v = .int .u32 (n32 V.a) | 13 => v = .pointer (some ⟨D, 2, none⟩) | 14 => v = .int .u32 (n32 (V.c)) | 15 => v = .int .u32 (n32 (V.a &&& V.c)) | 16 => v = .int .u32 (n32 ((V.a &&& V.b) ^^^ (V.a &&& V.c))) | 17 => v = .pointer (some ⟨D, 1, none⟩) | 18 => v = .int .u32 (n32 (V.b)) | 19 => v = .pointer (some ⟨D, 2, none⟩) | 20 => v = .int .u32 (n32 (V.c)) | 21 => v = .int .u32 (n32 (V.b &&& V.c)) | 22 => v = .int .u32 (n32 (((V.a &&& V.b) ^^^ (V.a &&& V.c) ^^^ (V.b &&& V.c)))) | 23 => v = .int .u32 (n32 ((Spec.rr V.a 2 ^^^ Spec.rr V.a 13 ^^^ Spec.rr V.a 22) + ((V.a &&& V.b) ^^^ (V.a &&& V.c) ^^^ (V.b &&& V.c)))) | 24 => v = .int .u32 (n32 ((Spec.rr V.a 2 ^^^ Spec.rr V.a 13 ^^^ Spec.rr V.a 22) + ((V.a &&& V.b) ^^^ (V.a &&& V.c) ^^^ (V.b &&& V.c)))) | _ => True) (by kernel_rfl) (by kernel_rfl) (by rfl) rfl ?mono9 ?steps9 ?fin9
      case mono9 =>
        intro i w w' v h hE
        match i with
        | 0 => exact h
        | 1 => exact h
        | 2 => exact h
        | 3 => exact h
        | 4 => exact h
        | 5 => exact h
        | 6 => exact h
        | 7 => exact h
        | 8 => exact h
        | 9 => exact h
        | 10 => exact h
        | 11 => exact h
        | 12 => exact h
        | 13 => exact h
        | 14 => exact h
        | 15 => exact h
        | 16 => exact h
        | 17 => exact h
        | 18 => exact h
        | 19 => exact h
        | 20 => exact h
        | 21 => exact h
        | 22 => exact h
        | 23 => exact h
        | 24 => exact h
        | _ + 25 => trivial
      case steps9 =>
        refine stepE_cons ⟨_, rfl, fun a w hE hH => ?_⟩ ?_
        ·
          have e9 : a.tmps[9]? = some (.int .u32 (n32 V.a)) := hH.old 9 rfl
          exact Or.inl ⟨rfl, goodE_move _ rfl (eval_of e9) rfl⟩
        refine stepE_cons ⟨_, rfl, fun a w hE hH => ?_⟩ ?_
        ·
          obtain ⟨v54, e54, g54⟩ := hH.dep 0 54 rfl (by kernel_rfl)
          have q54 : v54 = .int .u32 (n32 V.a) := g54
          subst q54
          exact Or.inl ⟨(rfl), goodE_call rfl #[.int .u32 (n32 V.a), .int .i64 2] (by simp [Act.eval, e54]) _ Tryd.func42 (by kernel_rfl) (by kernel_rfl) ((turned_ext V.a 2 (by simp) w).mono (fun e w' h => ⟨_, h.1, h.2, rfl⟩))⟩
        refine stepE_cons ⟨_, rfl, fun a w hE hH => ?_⟩ ?_
        ·
          have e9 : a.tmps[9]? = some (.int .u32 (n32 V.a)) := hH.old 9 rfl
          exact Or.inl ⟨rfl, goodE_move _ rfl (eval_of e9) rfl⟩
        refine stepE_cons ⟨_, rfl, fun a w hE hH => ?_⟩ ?_
        ·
          obtain ⟨v56, e56, g56⟩ := hH.dep 2 56 rfl (by kernel_rfl)
          have q56 : v56 = .int .u32 (n32 V.a) := g56
          subst q56
          exact Or.inl ⟨(rfl), goodE_call rfl #[.int .u32 (n32 V.a), .int .i64 13] (by simp [Act.eval, e56]) _ Tryd.func42 (by kernel_rfl) (by kernel_rfl) ((turned_ext V.a 13 (by simp) w).mono (fun e w' h => ⟨_, h.1, h.2, rfl⟩))⟩
        refine stepE_cons ⟨_, rfl, fun a w hE hH => ?_⟩ ?_
        ·
          obtain ⟨v55, e55, g55⟩ := hH.dep 1 55 rfl (by kernel_rfl)
          have q55 : v55 = .int .u32 (n32 (Spec.rr V.a 2)) := g55
          subst q55
          obtain ⟨v57, e57, g57⟩ := hH.dep 3 57 rfl (by kernel_rfl)
          have q57 : v57 = .int .u32 (n32 (Spec.rr V.a 13)) := g57
          subst q57
          exact Or.inl ⟨rfl, goodE_val (.int .u32 (n32 (Spec.rr V.a 2 ^^^ Spec.rr V.a 13))) (by simp [execOp, Act.eval, e57, e55, go_sem]) rfl⟩
        refine stepE_cons ⟨_, rfl, fun a w hE hH => ?_⟩ ?_
        ·
          have e9 : a.tmps[9]? = some (.int .u32 (n32 V.a)) := hH.old 9 rfl
          exact Or.inl ⟨rfl, goodE_move _ rfl (eval_of e9) rfl⟩
        refine stepE_cons ⟨_, rfl, fun a w hE hH => ?_⟩ ?_
        ·
          obtain ⟨v59, e59, g59⟩ := hH.dep 5 59 rfl (by kernel_rfl)
          have q59 : v59 = .int .u32 (n32 V.a) := g59
          subst q59
          exact Or.inl ⟨(rfl), goodE_call rfl #[.int .u32 (n32 V.a), .int .i64 22] (by simp [Act.eval, e59]) _ Tryd.func42 (by kernel_rfl) (by kernel_rfl) ((turned_ext V.a 22 (by simp) w).mono (fun e w' h => ⟨_, h.1, h.2, rfl⟩))⟩
        refine stepE_cons ⟨_, rfl, fun a w hE hH => ?_⟩ ?_
        ·
          obtain ⟨v58, e58, g58⟩ := hH.dep 4 58 rfl (by kernel_rfl)
          have q58 : v58 = .int .u32 (n32 (Spec.rr V.a 2 ^^^ Spec.rr V.a 13)) := g58
          subst q58
          obtain ⟨v60, e60, g60⟩ := hH.dep 6 60 rfl (by kernel_rfl)
          have q60 : v60 = .int .u32 (n32 (Spec.rr V.a 22)) := g60
          subst q60
          exact Or.inl ⟨rfl, goodE_val (.int .u32 (n32 ((Spec.rr V.a 2 ^^^ Spec.rr V.a 13 ^^^ Spec.rr V.a 22)))) (by simp [execOp, Act.eval, e58, e60, go_sem]) rfl⟩
        refine stepE_cons ⟨_, rfl, fun a w hE hH => ?_⟩ ?_
        ·
          have e9 : a.tmps[9]? = some (.int .u32 (n32 V.a)) := hH.old 9 rfl
          exact Or.inl ⟨rfl, goodE_move _ rfl (eval_of e9) rfl⟩
        refine stepE_cons ⟨_, rfl, fun a w hE hH => ?_⟩ ?_
        ·
          have e6 : a.tmps[6]? = some (.pointer (some ⟨D, 0, none⟩)) := hH.old 6 rfl
          exact Or.inl ⟨rfl, goodE_val (.pointer (some ⟨D, 1, none⟩)) (by simp [execOp, Act.eval, e6, go_sem]) rfl⟩
        refine stepE_cons ⟨_, rfl, fun a w hE hH => ?_⟩ ?_
        ·
          obtain ⟨v63, e63, g63⟩ := hH.dep 9 63 rfl (by kernel_rfl)
          have q63 : v63 = .pointer (some ⟨D, 1, none⟩) := g63
          subst q63
          exact Or.inl ⟨(rfl), goodE_val (.int .u32 (n32 V.b)) (by simp [execOp, Act.eval, e63, go_sem, ((HV2.out.drew).ext hE).cell (show (V.list.map u)[1]? = some (.int .u32 (n32 V.b)) from rfl)]) rfl⟩
        refine stepE_cons ⟨_, rfl, fun a w hE hH => ?_⟩ ?_
        ·
          obtain ⟨v62, e62, g62⟩ := hH.dep 8 62 rfl (by kernel_rfl)
          have q62 : v62 = .int .u32 (n32 V.a) := g62
          subst q62
          obtain ⟨v64, e64, g64⟩ := hH.dep 10 64 rfl (by kernel_rfl)
          have q64 : v64 = .int .u32 (n32 (V.b)) := g64
          subst q64
          exact Or.inl ⟨rfl, goodE_val (.int .u32 (n32 (V.a &&& V.b))) (by simp [execOp, Act.eval, e64, e62, go_sem]) rfl⟩
        refine stepE_cons ⟨_, rfl, fun a w hE hH => ?_⟩ ?_
        ·
          have e9 : a.tmps[9]? = some (.int .u32 (n32 V.a)) := hH.old 9 rfl
          exact Or.inl ⟨rfl, goodE_move _ rfl (eval_of e9) rfl⟩
        refine stepE_cons ⟨_, rfl, fun a w hE hH => ?_⟩ ?_
        ·
          have e6 : a.tmps[6]? = some (.pointer (some ⟨D, 0, none⟩)) := hH.old 6 rfl
          exact Or.inl ⟨rfl, goodE_val (.pointer (some ⟨D, 2, none⟩)) (by simp [execOp, Act.eval, e6, go_sem]) rfl⟩
        refine stepE_cons ⟨_, rfl, fun a w hE hH => ?_⟩ ?_
        ·
          obtain ⟨v67, e67, g67⟩ := hH.dep 13 67 rfl (by kernel_rfl)
          have q67 : v67 = .pointer (some ⟨D, 2, none⟩) := g67
          subst q67
          exact Or.inl ⟨(rfl), goodE_val (.int .u32 (n32 V.c)) (by simp [execOp, Act.eval, e67, go_sem, ((HV2.out.drew).ext hE).cell (show (V.list.map u)[2]? = some (.int .u32 (n32 V.c)) from rfl)]) rfl⟩
        refine stepE_cons ⟨_, rfl, fun a w hE hH => ?_⟩ ?_
        ·
          obtain ⟨v66, e66, g66⟩ := hH.dep 12 66 rfl (by kernel_rfl)
          have q66 : v66 = .int .u32 (n32 V.a) := g66
          subst q66
          obtain ⟨v68, e68, g68⟩ := hH.dep 14 68 rfl (by kernel_rfl)
          have q68 : v68 = .int .u32 (n32 (V.c)) := g68
          subst q68
          exact Or.inl ⟨rfl, goodE_val (.int .u32 (n32 (V.a &&& V.c))) (by simp [execOp, Act.eval, e66, e68, go_sem]) rfl⟩
        refine stepE_cons ⟨_, rfl, fun a w hE hH => ?_⟩ ?_
        ·
          obtain ⟨v65, e65, g65⟩ := hH.dep 11 65 rfl (by kernel_rfl)
          have q65 : v65 = .int .u32 (n32 (V.a &&& V.b)) := g65
          subst q65
          obtain ⟨v69, e69, g69⟩ := hH.dep 15 69 rfl (by kernel_rfl)
          have q69 : v69 = .int .u32 (n32 (V.a &&& V.c)) := g69
          subst q69
          exact Or.inl ⟨rfl, goodE_val (.int .u32 (n32 ((V.a &&& V.b) ^^^ (V.a &&& V.c)))) (by simp [execOp, Act.eval, e65, e69, go_sem]) rfl⟩
        refine stepE_cons ⟨_, rfl, fun a w hE hH => ?_⟩ ?_
        ·
          have e6 : a.tmps[6]? = some (.pointer (some ⟨D, 0, none⟩)) := hH.old 6 rfl
          exact Or.inl ⟨rfl, goodE_val (.pointer (some ⟨D, 1, none⟩)) (by simp [execOp, Act.eval, e6, go_sem]) rfl⟩
        refine stepE_cons ⟨_, rfl, fun a w hE hH => ?_⟩ ?_
        ·
          obtain ⟨v71, e71, g71⟩ := hH.dep 17 71 rfl (by kernel_rfl)
          have q71 : v71 = .pointer (some ⟨D, 1, none⟩) := g71
          subst q71
          exact Or.inl ⟨(rfl), goodE_val (.int .u32 (n32 V.b)) (by simp [execOp, Act.eval, e71, go_sem, ((HV2.out.drew).ext hE).cell (show (V.list.map u)[1]? = some (.int .u32 (n32 V.b)) from rfl)]) rfl⟩
        refine stepE_cons ⟨_, rfl, fun a w hE hH => ?_⟩ ?_
        ·
          have e6 : a.tmps[6]? = some (.pointer (some ⟨D, 0, none⟩)) := hH.old 6 rfl
          exact Or.inl ⟨rfl, goodE_val (.pointer (some ⟨D, 2, none⟩)) (by simp [execOp, Act.eval, e6, go_sem]) rfl⟩
        refine stepE_cons ⟨_, rfl, fun a w hE hH => ?_⟩ ?_
        ·
          obtain ⟨v73, e73, g73⟩ := hH.dep 19 73 rfl (by kernel_rfl)
          have q73 : v73 = .pointer (some ⟨D, 2, none⟩) := g73
          subst q73
          exact Or.inl ⟨(rfl), goodE_val (.int .u32 (n32 V.c)) (by simp [execOp, Act.eval, e73, go_sem, ((HV2.out.drew).ext hE).cell (show (V.list.map u)[2]? = some (.int .u32 (n32 V.c)) from rfl)]) rfl⟩
        refine stepE_cons ⟨_, rfl, fun a w hE hH => ?_⟩ ?_
        ·
          obtain ⟨v72, e72, g72⟩ := hH.dep 18 72 rfl (by kernel_rfl)
          have q72 : v72 = .int .u32 (n32 (V.b)) := g72
          subst q72
          obtain ⟨v74, e74, g74⟩ := hH.dep 20 74 rfl (by kernel_rfl)
          have q74 : v74 = .int .u32 (n32 (V.c)) := g74
          subst q74
          exact Or.inl ⟨rfl, goodE_val (.int .u32 (n32 (V.b &&& V.c))) (by simp [execOp, Act.eval, e72, e74, go_sem]) rfl⟩
        refine stepE_cons ⟨_, rfl, fun a w hE hH => ?_⟩ ?_
        ·
          obtain ⟨v70, e70, g70⟩ := hH.dep 16 70 rfl (by kernel_rfl)
          have q70 : v70 = .int .u32 (n32 ((V.a &&& V.b) ^^^ (V.a &&& V.c))) := g70
          subst q70
          obtain ⟨v75, e75, g75⟩ := hH.dep 21 75 rfl (by kernel_rfl)
          have q75 : v75 = .int .u32 (n32 (V.b &&& V.c)) := g75
          subst q75
          exact Or.inl ⟨rfl, goodE_val (.int .u32 (n32 (((V.a &&& V.b) ^^^ (V.a &&& V.c) ^^^ (V.b &&& V.c))))) (by simp [execOp, Act.eval, e75, e70, go_sem]) rfl⟩
        refine stepE_cons ⟨_, rfl, fun a w hE hH => ?_⟩ ?_
        ·
          obtain ⟨v61, e61, g61⟩ := hH.dep 7 61 rfl (by kernel_rfl)
          have q61 : v61 = .int .u32 (n32 ((Spec.rr V.a 2 ^^^ Spec.rr V.a 13 ^^^ Spec.rr V.a 22))) := g61
          subst q61
          obtain ⟨v76, e76, g76⟩ := hH.dep 22 76 rfl (by kernel_rfl)
          have q76 : v76 = .int .u32 (n32 (((V.a &&& V.b) ^^^ (V.a &&& V.c) ^^^ (V.b &&& V.c)))) := g76
          subst q76
          exact Or.inl ⟨rfl, goodE_val (.int .u32 (n32 ((Spec.rr V.a 2 ^^^ Spec.rr V.a 13 ^^^ Spec.rr V.a 22) + ((V.a &&& V.b) ^^^ (V.a &&& V.c) ^^^ (V.b &&& V.c))))) (by simp [execOp, Act.eval, e76, e61, go_sem]) rfl⟩
        refine stepE_cons ⟨_, rfl, fun a w hE hH => ?_⟩ ?_
        ·
          obtain ⟨v77, e77, g77⟩ := hH.dep 23 77 rfl (by kernel_rfl)
          exact Or.inl ⟨rfl, goodE_assign v77 rfl (eval_of e77) g77⟩
        exact stepE_nil
      rintro vals wz hE hV
      have k11 : vals 24 = .int .u32 (n32 ((Spec.rr V.a 2 ^^^ Spec.rr V.a 13 ^^^ Spec.rr V.a 22) + ((V.a &&& V.b) ^^^ (V.a &&& V.c) ^^^ (V.b &&& V.c)))) := hV 24 (by simp) rfl
      simp only [List.map_cons, List.map_nil, putAll, Act.put, List.setIfInBounds_toArray, List.set_cons_zero, List.set_cons_succ, k11]
      have HE6 := Aside0.mk (HE5.out.trans ((Ext.to_drew _).trans hE))
      have HS6 := Aside0.mk (HS5.out.ext ((Ext.to_drew _).trans hE))
      have HA6 := Aside0.mk (HA5.out.ext ((Ext.to_drew _).trans hE))
      have HW6 := Aside0.mk (HW5.out.ext ((Ext.to_drew _).trans hE))
      have HV6 := Aside0.mk (HV2.out.ext ((Ext.to_drew _).trans hE))
      clear hE hV k11
      have e0 := HV6.out.cell (show (V.list.map u)[0]? = some (.int .u32 (n32 V.a)) from rfl)
      have e1 := HV6.out.cell (show (V.list.map u)[1]? = some (.int .u32 (n32 V.b)) from rfl)
      have e2 := HV6.out.cell (show (V.list.map u)[2]? = some (.int .u32 (n32 V.c)) from rfl)
      have e3 := HV6.out.cell (show (V.list.map u)[3]? = some (.int .u32 (n32 V.d)) from rfl)
      have e4 := HV6.out.cell (show (V.list.map u)[4]? = some (.int .u32 (n32 V.e)) from rfl)
      have e5 := HV6.out.cell (show (V.list.map u)[5]? = some (.int .u32 (n32 V.f)) from rfl)
      have e6 := HV6.out.cell (show (V.list.map u)[6]? = some (.int .u32 (n32 V.g)) from rfl)
      rw [show n32 (V.h + (Spec.rr V.e 6 ^^^ Spec.rr V.e 11 ^^^ Spec.rr V.e 25) + ((V.e &&& V.f) ^^^ (~~~V.e &&& V.g)) + k + W) = n32 (Spec.tOne V k W) from rfl, show n32 ((Spec.rr V.a 2 ^^^ Spec.rr V.a 13 ^^^ Spec.rr V.a 22) + ((V.a &&& V.b) ^^^ (V.a &&& V.c) ^^^ (V.b &&& V.c))) = n32 (Spec.tTwo V) from rfl]
      go_wp2_with (with_reducible change wpList _ _ _ (Oper.mk _ (Op.store 71 _ _) _ _ _ _ :: _) _ _; refine Aside0.out ?_)
      refine Aside0.mk ?_
      refine wpList_store_row rfl 71 _ _ rfl D ((Spec.step V k W).list.map u).toArray rfl (by simp [go_sem, Spec.step, Spec.V.list, u]) 71 (V.list.map u).toArray HV6.out (by kernel_rfl) rfl (oneU _) ?_
      clear e0 e1 e2 e3 e4 e5 e6
      go_wp2
      go_roundw
      case measure => simp [intOf]; omega
      case rel =>
        refine ⟨t + 1, by omega, by simp, Below.setRow HE6.out (by omega) _, ?_, ?_, ?_, ?_⟩
        · unfold Row; rw [setRow_heap_other _ _ _ _ (by omega)]; exact HS6.out
        · unfold Row; rw [setRow_heap_other _ _ _ _ (by omega)]; exact HA6.out
        · unfold Row; rw [setRow_heap_other _ _ _ _ (by omega)]; exact HW6.out
        · rw [HN.out]; exact setRow_heap _ _ _ _ _ _ HV6.out
    · obtain rfl : t = 64 := by omega
      obtain ⟨V, hVV⟩ : ∃ V, V = Spec.rounds (Spec.sched b 64) s 64 := ⟨_, rfl⟩
      have HM := Aside0.mk (show s.add V = Spec.mix s b by rw [hVV]; rfl)
      rw [← hVV] at hV
      have HE := Aside0.mk hE
      have HSr := Aside0.mk hS
      have HAr := Aside0.mk hA
      have HV := Aside0.mk hV
      clear hE hS hA hC hV hVV
      go_wp2_with fail
      rw [show ((64 : Nat) : Int) = 64 from rfl]
      go_loopw [12] (fun i wr => ∃ (j : Nat), j ≤ 8 ∧ i = .int .i64 j ∧ Ext w wr ∧ Row wr B sl 71 ∧ Row wr (B + 1) (u0s 8) 71 ∧ Row wr D ((partR s V j).list.map u) 71)
        (fun i _ => 8 - (intOf i).toNat)
      case atStart => exact ⟨0, by omega, rfl, HE.out, HSr.out, HAr.out, HV.out⟩
      case round =>
        obtain ⟨j, hj, rfl, hE, hS, hA, hV⟩ := hrel
        by_cases hlt : j < 8
        · have HE := Aside0.mk hE
          have HSr := Aside0.mk hS
          have HAr := Aside0.mk hA
          have HV := Aside0.mk hV
          have c0 := hV.cell (listU_at (partR s V j).list j hlt)
          rw [partR_at s V j hlt] at c0
          have c1 : wr.cell? ⟨B, j, none⟩ = some (.int .u32 (n32 (s.list.getD j 0))) := hS.cell (by rw [HSL.out]; exact listU_at s.list j hlt)
          have cf := hV.free j
          obtain ⟨x, hx⟩ : ∃ x, x = V.list.getD j 0 := ⟨_, rfl⟩
          obtain ⟨y, hy⟩ : ∃ y, y = s.list.getD j 0 := ⟨_, rfl⟩
          rw [← hx] at c0
          rw [← hy] at c1
          have HP := Aside0.mk (partR_set s V j hlt)
          rw [← hx, ← hy] at HP
          have b4 : (0 : Int) ≤ j ∧ (j : Int) < 8 := by omega
          clear hE hS hA hV hx hy
          go_wp2
          refine wp_region_still_tail 9 (by kernel_rfl) (by kernel_rfl) ?_
          simp only [List.take_succ_cons, List.take_zero, List.drop_succ_cons, List.drop_zero]
          repeat (refine wpStill_step (fun K hK => ?_); go_simp; (try go_bits); with_reducible refine hK _ ?_; clear hK K)
          refine wpStill_nil ?_
          change wpList _ _ _ _ _ wr.drew
          go_wp2
          go_roundw
          case measure => simp [intOf]; omega
          case rel =>
            refine ⟨j + 1, by omega, by simp, Below.drew (Below.setCell HE.out (p := ⟨D, j, none⟩) (by show w.heap.size ≤ D; omega) _), HSr.out.other _ _ (by show B ≠ D; omega), HAr.out.other _ _ (by show B + 1 ≠ D; omega), ?_⟩
            have := HV.out.set j (.int .u32 (n32 (x + y)))
            rw [HP.out] at this
            exact this
        · obtain rfl : j = 8 := by omega
          rw [partR_8, HM.out] at hV
          have HE := Aside0.mk hE
          have HAr := Aside0.mk hA
          have HV := Aside0.mk hV
          clear hE hS hA hV
          obtain ⟨ml, hml⟩ : ∃ ml, ml = (Spec.mix s b).list.map u := ⟨_, rfl⟩
          have HML := Aside0.mk hml
          have HVm := Aside0.mk (show Row wr D ml 71 by rw [hml]; exact HV.out)
          have HMZ := Aside0.mk (show ml.toArray.size = 8 by rw [hml]; rfl)
          have HMO := Aside0.mk (show ml.toArray.all (·.oneCell') = true by rw [hml]; exact oneU _)
          clear HV hml
          go_wp2_with (with_reducible refine gate_dst (N := 111) rfl ?_; refine Aside0.out ?_)
          refine Aside0.mk ?_
          refine wpList_load_row rfl 71 _ rfl D rfl 71 ml.toArray (0, 0) _ HVm.out Tryd.underlying71 rfl (by rw [HMZ.out]; kernel_rfl) ?_
          go_wp2_with (with_reducible change wpList _ _ _ (Oper.mk _ (Op.store 71 _ _) _ _ _ _ :: _) _ _; refine Aside0.out ?_)
          refine Aside0.mk ?_
          refine wpList_store_row rfl 71 _ _ rfl (B + 1) ml.toArray rfl (by simp [go_sem]) 71 _ HAr.out (by rw [HMZ.out]; kernel_rfl) (by rw [HMZ.out]; rfl) HMO.out ?_
          go_wp2
          (try simp only [Exit.inBlock, Exit.then])
          refine bodyPost_ret (results_cell_row rfl _ _ (B + 1) 71 ml.toArray (0, 0) _ rfl (setRow_heap _ _ _ _ _ _ HAr.out) Tryd.underlying71 rfl (by rw [HMZ.out]; kernel_rfl)) rfl ?_
          exact ⟨by rw [HML.out], Below.setRow HE.out (by omega) _⟩
end Go.Proofs.YtnkhhnfmijljbaaDoor
set_option linter.unusedVariables false
set_option linter.unusedSimpArgs false
namespace Go.Proofs.YtnkhhnfmijljbaaDoor
open Go.RowKit Go.Proofs.YtnkhhnfmijljbaaDoorW.PrintWords Go.Proofs.YtnkhhnfmijljbaaDoorW.PrintLast Go.Proofs.YtnkhhnfmijljbaaDoorW.PrintMore
open Extern.Stop (cell)

/-- a Keyed's cells: the state's address, the outer block -/
def kyL (s : Nat) (o : List UInt8) : List Value := .pointer (some ⟨s, 0, none⟩) :: o.map cell
/-- the code at g (its inner state at s) under the secret sec has taken bs -/
structure Ky (w : World) (g s : Nat) (sec bs : List UInt8) : Prop where
  row : Row w g (kyL s (Spec.xorL 0x5c (Spec.key sec))) 85
  st : St w s (Spec.xorL 0x36 (Spec.key sec) ++ bs) (Spec.xorL 0x36 (Spec.key sec) ++ bs).length
  ne : s ≠ g
theorem Ky.ext {w w' : World} {g s : Nat} {sec bs : List UInt8} (h : Ky w g s sec bs) (hE : Ext w w') : Ky w' g s sec bs := ⟨h.row.ext hE, h.st.ext hE, h.ne⟩
/-- the first j bytes turned by x -/
def mixL (x : UInt8) (l : List UInt8) (j : Nat) : List UInt8 := Spec.xorL x (l.take j) ++ l.drop j
theorem wp_then_world {p : World → Prop} {w : World} (F : World → Prop) (h : F w) (k : ∀ w, F w → p w) : p w := k w h
theorem mixL_length (x : UInt8) (l : List UInt8) (j : Nat) : (mixL x l j).length = l.length := by simp [mixL, Spec.xorL]; omega
theorem mixL_zero (x : UInt8) (l : List UInt8) : mixL x l 0 = l := by simp [mixL, Spec.xorL]
theorem mixL_full (x : UInt8) (l : List UInt8) (j : Nat) (h : l.length ≤ j) : mixL x l j = Spec.xorL x l := by simp [mixL, List.take_of_length_le h, List.drop_of_length_le h]
theorem mixL_at (x : UInt8) (l : List UInt8) (j : Nat) (h : j < l.length) : (mixL x l j)[j]? = some (l.getD j 0) := by
  rw [mixL, List.getElem?_append_right (by simp [Spec.xorL]; omega)]
  have : (Spec.xorL x (l.take j)).length = j := by simp [Spec.xorL]; omega
  rw [this, Nat.sub_self, List.getElem?_drop, Nat.add_zero, List.getElem?_eq_getElem h, List.getD, List.getElem?_eq_getElem h]; rfl
theorem mixL_set (x : UInt8) (l : List UInt8) (j : Nat) (h : j < l.length) : (mixL x l j).set j (l.getD j 0 ^^^ x) = mixL x l (j + 1) := by
  have h1 : (Spec.xorL x (l.take j)).length = j := by simp [Spec.xorL]; omega
  have h2 : l.getD j 0 = l[j] := by rw [List.getD, List.getElem?_eq_getElem h]; rfl
  rw [mixL, mixL, List.set_append_right _ _ (by omega), h1, Nat.sub_self, List.drop_eq_getElem_cons h, List.set_cons_zero, List.take_succ_eq_append_getElem h, h2]
  simp only [Spec.xorL, List.map_append, List.map_cons, List.map_nil, List.append_assoc, List.singleton_append]
theorem mixC_at (x : UInt8) (l : List UInt8) (j : Nat) (h : j < l.length) : ((mixL x l j).map cell)[j]? = some (.int .u8 (n8 (l.getD j 0))) := by
  rw [List.getElem?_map, mixL_at x l j h]; rfl
theorem mixC_set (x : UInt8) (l : List UInt8) (j : Nat) (h : j < l.length) : ((mixL x l j).map cell).set j (.int .u8 (n8 (l.getD j 0 ^^^ x))) = (mixL x l (j + 1)).map cell := by
  rw [← mixL_set x l j h, List.map_set]; rfl
theorem x36 (x : UInt8) : bits .xor .u8 (n8 x) (54 : Int) = n8 (x ^^^ 0x36) := bits_u8_xor x 0x36
theorem x5c (x : UInt8) : bits .xor .u8 (n8 x) (92 : Int) = n8 (x ^^^ 0x5c) := bits_u8_xor x 0x5c
theorem fold_set (off : Nat) : ∀ (vs : List Value) (j : Nat) (cs : List Value), off + j + vs.length ≤ cs.length →
    (vs.zipIdx j).foldl (fun (a : Array Value) (x : Value × Nat) => a.setIfInBounds (off + x.2) x.1) cs.toArray = (cs.take (off + j) ++ vs ++ cs.drop (off + j + vs.length)).toArray
  | [], j, cs, h => by simp
  | v :: vs, j, cs, h => by
    have hl : off + j + (vs.length + 1) ≤ cs.length := by simpa using h
    have h1 := fold_set off vs (j + 1) (cs.set (off + j) v) (by rw [List.length_set]; omega)
    rw [List.zipIdx_cons, List.foldl_cons]
    show List.foldl _ (cs.toArray.setIfInBounds (off + j) v) _ = _
    rw [List.setIfInBounds_toArray, h1]
    congr 1
    have h2 := list_seg_step cs (off + j) v vs hl
    rw [show off + (j + 1) = off + j + 1 by omega, h2]
    simp [Nat.add_assoc]
def fieldsOf (d : Option TypeDesc) : List Field := match d with
  | some (.struct fs) => fs.toList
  | _ => []
theorem places85 : ((fieldsOf (Tryd.prog.underlying 85)).mapM (fun f => (Tryd.prog.info? f.type).map fun i => (f.offset, i.size))) = some [(0, 1), (1, 64)] := by kernel_rfl
theorem zero85 : (Tryd.prog.info? 85).map (·.zero) = some (some (.agg (.pointer none :: z8 64).toArray)) := by kernel_rfl
theorem built85 (s : Nat) (o : List UInt8) (ho : o.length = 64) : Tryd.prog.built 85 [(0, .pointer (some ⟨s, 0, none⟩)), (1, .agg (o.map cell).toArray)] = some (kyL s o).toArray := by
  obtain ⟨it, hit, hz⟩ := Option.map_eq_some_iff.1 zero85
  have hp := places85
  unfold Program.built
  cases hu : Tryd.prog.underlying 85 with
  | none => rw [hu] at hp; simp [fieldsOf] at hp
  | some d =>
    cases d <;> (try (rw [hu] at hp; simp [fieldsOf] at hp; done))
    rename_i fs
    rw [hu] at hp
    simp only [fieldsOf] at hp
    simp only [hit, hz, hp]
    have e1 : ((o.map cell).toArray.zipIdx.foldl (fun (a : Array Value) (x : Value × Nat) => a.setIfInBounds (1 + x.2) x.1) (Value.pointer (some ⟨s, 0, none⟩) :: z8 64).toArray) = (kyL s o).toArray := by
      have h1 := fold_set 1 (o.map cell) 0 (Value.pointer (some ⟨s, 0, none⟩) :: z8 64) (by simp [z8, ho])
      rw [← Array.foldl_toList, Array.toList_zipIdx]
      refine h1.trans ?_
      simp [kyL, z8, ho]
    simp [Instr.fill, Value.cells, z8, ho] at e1 ⊢
    exact e1
set_option maxHeartbeats 1000000 in
set_option maxRecDepth 100000 in
theorem mnew_calls (w : World) (A : Option Addr) (c : Nat) (xs : List UInt8) (hK : KTab w) (hF : FTab w) (hx : Bs w A xs.length xs) (hc : xs.length ≤ c) (hl : xs.length < 500000000000000000) :
    Calls Tryd.prog 29 #[.slice A xs.length c] w (fun e w' => ∃ G s, e = .returned (.pointer (some ⟨G, 0, none⟩)) ∧ w.heap.size ≤ G ∧ w.heap.size ≤ s ∧ Below w.heap.size w w' ∧ Ky w' G s xs []) := by
  have HK := Aside0.mk hK
  have HF := Aside0.mk hF
  have HX := Aside0.mk hx
  clear hK hF hx
  go_enter Tryd.func29, Tryd.ntmps29
  go_wp2_with fail
  refine (new_calls w HF.out).mono ?_
  rintro e w1 ⟨rfl, hB1, hS1, hSt1⟩
  obtain ⟨S, hS⟩ : ∃ S, S = w.heap.size := ⟨_, rfl⟩
  rw [← hS] at hSt1 ⊢
  have HE1 := Aside0.mk (show Ext w w1 from hB1)
  have HST1 := Aside0.mk hSt1
  have HS := Aside0.mk hS
  have HX1 := Aside0.mk (HX.out.below hB1)
  clear hB1 hS1 hSt1 hS
  go_wp2_with fail
  refine (mblock_calls w1 A c xs (HK.out.ext HE1.out) (HF.out.ext HE1.out) HX1.out hc hl).mono ?_
  rintro e w2 ⟨rfl, hE2⟩
  have HE2 := Aside0.mk (HE1.out.trans hE2)
  have HST2 := Aside0.mk (HST1.out.ext hE2)
  clear hE2
  obtain ⟨ks, hks⟩ : ∃ ks, ks = Spec.key xs := ⟨_, rfl⟩
  have hkl : ks.length = 64 := by rw [hks]; exact Spec.key_length xs
  have HKS := Aside0.mk hks
  have HKL := Aside0.mk hkl
  rw [← hks]
  clear hks hkl
  go_wp2_with (with_reducible refine gate_dst (N := 9) rfl ?_; refine Aside0.out ?_)
  refine Aside0.mk ?_
  refine wpL_val (.agg (kyL S ks).toArray) (w1 := w2) rfl (by
    have h := run_build (P := Tryd.prog) w2 85 #[(0, .pointer (some ⟨S, 0, none⟩)), (1, .agg (ks.map cell).toArray)] _ (built85 S ks HKL.out)
    simp only [execOp, Sem.run_bind, List.map_toArray, List.map_cons, List.map_nil, Act.eval, Act.put]
    exact (congrArg (fun r => Result.andThen r fun a w' => Result.ok (Next.value a) w') h)) ?_
  go_wp2_with (with_reducible refine gate_dst (N := 14) rfl ?_; refine Aside0.out ?_)
  refine Aside0.mk ?_
  obtain ⟨G, hG⟩ : ∃ G, G = w2.heap.size := ⟨_, rfl⟩
  have hSG : S < G := by have := HST2.out.choose_spec.2.lt; omega
  have hwS : w.heap.size ≤ S := by have := HS.out; omega
  have hwG : w.heap.size ≤ G := by omega
  refine wpList_world (fun w3 => Below w.heap.size w w3 ∧ Row w3 G (kyL S ks) 85 ∧ St w3 S [] 0) ⟨?_, ?_, ?_⟩ ?_
  · exact (below_ext (Ext.refl w) HE2.out).alloc HE2.out.size _
  · rw [hG]; exact Row.alloc _ _ _
  · exact HST2.out.ext ((Ext.refl _).alloc _)
  rintro w3 ⟨hB3, hR3, hS3⟩
  rw [← hG]
  have HB3 := Aside0.mk hB3
  have HR3 := Aside0.mk hR3
  have HS3 := Aside0.mk hS3
  clear hB3 hR3 hS3 hG
  have HKZ := Aside0.mk (show (ks.map cell).toArray.size = 64 by simp [HKL.out])
  refine wpL_row (by rfl) G 1 rfl (ks.map cell) _ (fun i v hv => by rw [Nat.add_comm]; exact HR3.out.cell (by simpa [kyL] using hv)) Tryd.underlying74 rfl (by rw [List.length_map, HKL.out]; kernel_rfl) ?_
  go_wp2_with (with_reducible change wpList _ _ _ (Oper.mk _ (Op.store 74 _ _) _ _ _ _ :: _) _ _; refine Aside0.out ?_)
  refine Aside0.mk ?_
  refine wpList_store_row rfl 74 _ _ rfl w3.heap.size (ks.map cell).toArray rfl (by simp [go_sem]) 74 _ (heap_alloc_new _ _) (by rw [HKZ.out]; kernel_rfl) (by rw [HKZ.out]; rfl) (oneCells _) ?_
  obtain ⟨F, hF⟩ : ∃ F, F = w3.heap.size := ⟨_, rfl⟩
  have hEr : Ext w3 ((w3.alloc (.cells (z8 64).toArray 74)).setRow w3.heap.size (ks.map cell).toArray) := below_alloc_setRow _ _ _
  have hGF : G < F := by have := HR3.out.lt; omega
  refine wpList_world (fun w4 => Below w.heap.size w w4 ∧ Row w4 G (kyL S ks) 85 ∧ St w4 S [] 0 ∧ Row w4 F (ks.map cell) 74) ⟨below_ext HB3.out hEr, HR3.out.ext hEr, HS3.out.ext hEr, by rw [hF]; exact alloc_setRow _ _ _ _⟩ ?_
  rintro w4 ⟨hB4, hR4, hS4, hF4⟩
  rw [← hF]
  have HB4 := Aside0.mk hB4
  have HR4 := Aside0.mk hR4
  have HS4 := Aside0.mk hS4
  have HF4 := Aside0.mk hF4
  clear hB4 hR4 hS4 hF4 hEr hF
  go_wp2_with fail
  go_loopw [15] (fun i wr => ∃ j : Nat, j ≤ 64 ∧ i = .int .i64 j ∧ Below w.heap.size w wr ∧ Row wr G (kyL S (mixL 0x5c ks j)) 85 ∧ Row wr F ((mixL 0x36 ks j).map cell) 74 ∧ St wr S [] 0) (fun i _ => 64 - (intOf i).toNat)
  case atStart => exact ⟨0, by omega, rfl, HB4.out, by rw [mixL_zero]; exact HR4.out, by rw [mixL_zero]; exact HF4.out, HS4.out⟩
  case round =>
    obtain ⟨j, hj, rfl, hB, hR, hF, hS⟩ := hrel
    have HB := Aside0.mk hB
    have HR := Aside0.mk hR
    have HFr := Aside0.mk hF
    have HSr := Aside0.mk hS
    by_cases hlt : j < 64
    · have hjl : j < ks.length := by rw [HKL.out]; exact hlt
      obtain ⟨x, hx⟩ : ∃ x, x = ks.getD j 0 := ⟨_, rfl⟩
      have c0 := hF.cell (mixC_at 0x36 ks j hjl)
      rw [← hx] at c0
      have cf := hF.free j
      have h36 := x36 x
      have b4 : (0 : Int) ≤ j ∧ (j : Int) < 64 := by omega
      have HX := Aside0.mk hx
      have HJL := Aside0.mk hjl
      clear hB hR hF hS hx hjl
      go_wp2_with fail
      refine wp_world (fun w5 => Below w.heap.size w w5 ∧ Row w5 G (kyL S (mixL 0x5c ks j)) 85 ∧ Row w5 F ((mixL 0x36 ks (j + 1)).map cell) 74 ∧ St w5 S [] 0) ⟨HB.out.setCell (p := ⟨F, j, none⟩) (by show w.heap.size ≤ F; omega) _, HR.out.other _ _ (by show G ≠ F; omega), ?_, ?_⟩ ?_
      · have h := HFr.out.set j (.int .u8 (n8 (x ^^^ 0x36)))
        rw [HX.out, mixC_set 0x36 ks j HJL.out] at h
        rw [HX.out]; exact h
      · obtain ⟨T, hT, hRow⟩ := HSr.out
        exact ⟨T, hT, hRow.other _ _ (by show S ≠ F; omega)⟩
      rintro w5 ⟨hB5, hR5, hF5, hS5⟩
      have HBc := Aside0.mk hB5
      have HRGc := Aside0.mk hR5
      have HFc := Aside0.mk hF5
      have HSc := Aside0.mk hS5
      have CX := Aside0.mk (show (kyL S (mixL 0x5c ks j))[1 + j]? = some (.int .u8 (n8 x)) by rw [kyL, Nat.add_comm, List.getElem?_cons_succ, HX.out]; exact mixC_at 0x5c ks j HJL.out)
      clear hB5 hR5 hF5 hS5 c0 cf h36
      refine ext_tail 11 [(0, 23), (1, 24), (2, 25), (3, 26), (4, 27), (5, 28), (6, 29), (7, 30), (8, 31), (9, 32)] [0, 1, 2, 3, 4, 5, 6, 7, 8, 9] (fun i w v => match i with | 0 => v = .pointer (some ⟨G, 0, none⟩) | 1 => v = .int .i64 j | 2 => v = .pointer (some ⟨G, 0, none⟩) | 3 => v = .pointer (some ⟨G, 1, none⟩) | 4 => v = .pointer (some ⟨G, 1 + j, none⟩) | 5 => v = .int .u8 (n8 x) | 6 => v = .int .u8 (n8 (x ^^^ 0x5c)) | 7 => v = .pointer (some ⟨G, 0, none⟩) | 8 => v = .pointer (some ⟨G, 1, none⟩) | 9 => v = .pointer (some ⟨G, 1 + j, none⟩) | _ => True) (by kernel_rfl) (by kernel_rfl) (by rfl) rfl ?mono7 ?steps7 ?fin7
      case mono7 =>
        intro i w w' v h hE
        match i with
        | 0 => exact h
        | 1 => exact h
        | 2 => exact h
        | 3 => exact h
        | 4 => exact h
        | 5 => exact h
        | 6 => exact h
        | 7 => exact h
        | 8 => exact h
        | 9 => exact h
        | _ + 10 => trivial
      case steps7 =>
        refine stepE_cons ⟨_, rfl, fun a w hE hH => ?_⟩ ?_
        ·
          have e3 : a.tmps[3]? = some (.pointer (some ⟨G, 0, none⟩)) := hH.old 3 rfl
          exact Or.inl ⟨rfl, goodE_move _ rfl (eval_of e3) rfl⟩
        refine stepE_cons ⟨_, rfl, fun a w hE hH => ?_⟩ ?_
        ·
          have e5 : a.tmps[5]? = some (.int .i64 j) := hH.old 5 rfl
          exact Or.inl ⟨rfl, goodE_move _ rfl (eval_of e5) rfl⟩
        refine stepE_cons ⟨_, rfl, fun a w hE hH => ?_⟩ ?_
        ·
          obtain ⟨v23, e23, g23⟩ := hH.dep 0 23 rfl (by kernel_rfl)
          have q23 : v23 = .pointer (some ⟨G, 0, none⟩) := g23
          subst q23
          exact Or.inl ⟨rfl, goodE_val (.pointer (some ⟨G, 0, none⟩)) (by simp [execOp, Act.eval, e23, go_sem]) rfl⟩
        refine stepE_cons ⟨_, rfl, fun a w hE hH => ?_⟩ ?_
        ·
          obtain ⟨v25, e25, g25⟩ := hH.dep 2 25 rfl (by kernel_rfl)
          have q25 : v25 = .pointer (some ⟨G, 0, none⟩) := g25
          subst q25
          exact Or.inl ⟨rfl, goodE_val (.pointer (some ⟨G, 1, none⟩)) (by simp [execOp, Act.eval, e25, go_sem]) rfl⟩
        refine stepE_cons ⟨_, rfl, fun a w hE hH => ?_⟩ ?_
        ·
          obtain ⟨v26, e26, g26⟩ := hH.dep 3 26 rfl (by kernel_rfl)
          have q26 : v26 = .pointer (some ⟨G, 1, none⟩) := g26
          subst q26
          obtain ⟨v24, e24, g24⟩ := hH.dep 1 24 rfl (by kernel_rfl)
          have q24 : v24 = .int .i64 j := g24
          subst q24
          exact Or.inl ⟨(rfl), goodE_val (.pointer (some ⟨G, 1 + j, none⟩)) (by simp [execOp, Act.eval, e26, e24, go_sem, b4]) rfl⟩
        refine stepE_cons ⟨_, rfl, fun a w hE hH => ?_⟩ ?_
        ·
          obtain ⟨v27, e27, g27⟩ := hH.dep 4 27 rfl (by kernel_rfl)
          have q27 : v27 = .pointer (some ⟨G, 1 + j, none⟩) := g27
          subst q27
          exact Or.inl ⟨(rfl), goodE_val (.int .u8 (n8 x)) (by simp [execOp, Act.eval, e27, go_sem, (HRGc.out.drew.ext hE).cell CX.out]) rfl⟩
        refine stepE_cons ⟨_, rfl, fun a w hE hH => ?_⟩ ?_
        ·
          obtain ⟨v28, e28, g28⟩ := hH.dep 5 28 rfl (by kernel_rfl)
          have q28 : v28 = .int .u8 (n8 x) := g28
          subst q28
          exact Or.inl ⟨(rfl), goodE_val (.int .u8 (n8 (x ^^^ 0x5c))) (by simp [execOp, Act.eval, e28, go_sem, x5c]) rfl⟩
        refine stepE_cons ⟨_, rfl, fun a w hE hH => ?_⟩ ?_
        ·
          obtain ⟨v23, e23, g23⟩ := hH.dep 0 23 rfl (by kernel_rfl)
          have q23 : v23 = .pointer (some ⟨G, 0, none⟩) := g23
          subst q23
          exact Or.inl ⟨rfl, goodE_val (.pointer (some ⟨G, 0, none⟩)) (by simp [execOp, Act.eval, e23, go_sem]) rfl⟩
        refine stepE_cons ⟨_, rfl, fun a w hE hH => ?_⟩ ?_
        ·
          obtain ⟨v30, e30, g30⟩ := hH.dep 7 30 rfl (by kernel_rfl)
          have q30 : v30 = .pointer (some ⟨G, 0, none⟩) := g30
          subst q30
          exact Or.inl ⟨rfl, goodE_val (.pointer (some ⟨G, 1, none⟩)) (by simp [execOp, Act.eval, e30, go_sem]) rfl⟩
        refine stepE_cons ⟨_, rfl, fun a w hE hH => ?_⟩ ?_
        ·
          obtain ⟨v31, e31, g31⟩ := hH.dep 8 31 rfl (by kernel_rfl)
          have q31 : v31 = .pointer (some ⟨G, 1, none⟩) := g31
          subst q31
          obtain ⟨v24, e24, g24⟩ := hH.dep 1 24 rfl (by kernel_rfl)
          have q24 : v24 = .int .i64 j := g24
          subst q24
          exact Or.inl ⟨(rfl), goodE_val (.pointer (some ⟨G, 1 + j, none⟩)) (by simp [execOp, Act.eval, e31, e24, go_sem, b4]) rfl⟩
        exact stepE_nil
      refine ⟨⟨none, .store 5 (.tmp 32) (.tmp 29), _, _, _, none⟩, rfl, ?_⟩
      rintro vals wz hE hV
      have k32 : vals 9 = .pointer (some ⟨G, 1 + j, none⟩) := hV 9 (by simp) rfl
      have k29 : vals 6 = .int .u8 (n8 (x ^^^ 0x5c)) := hV 6 (by simp) rfl
      refine ⟨rfl, ?_⟩
      intro KK hKK
      simp only [List.map_cons, List.map_nil, putAll, Act.put, List.setIfInBounds_toArray, List.set_cons_zero, List.set_cons_succ, k32, k29]
      have cg := (HRGc.out.drew.ext hE).cell CX.out
      have fg := (HRGc.out.drew.ext hE).free (1 + j)
      refine finE_skip (w1 := wz.setCell ⟨G, 1 + j, none⟩ (.int .u8 (n8 (x ^^^ 0x5c)))) (by simp [execOp, Act.eval, go_sem, cg, fg]) (hKK _ _ ?_)
      refine wp_then_world (fun w6 => Below w.heap.size w w6 ∧ Row w6 G (kyL S (mixL 0x5c ks (j + 1))) 85 ∧ Row w6 F ((mixL 0x36 ks (j + 1)).map cell) 74 ∧ St w6 S [] 0) ⟨?_, ?_, ?_, ?_⟩ ?_
      · exact (below_ext HBc.out ((Ext.to_drew _).trans hE)).setCell (p := ⟨G, 1 + j, none⟩) (by show w.heap.size ≤ G; omega) _
      · have h := (HRGc.out.drew.ext hE).set (1 + j) (.int .u8 (n8 (x ^^^ 0x5c)))
        have e : (kyL S (mixL 0x5c ks j)).set (1 + j) (.int .u8 (n8 (x ^^^ 0x5c))) = kyL S (mixL 0x5c ks (j + 1)) := by
          rw [kyL, kyL, Nat.add_comm 1 j, List.set_cons_succ, HX.out, mixC_set 0x5c ks j HJL.out]
        rw [e] at h; exact h
      · exact (HFc.out.drew.ext hE).other _ _ (by show F ≠ G; omega)
      · obtain ⟨T, hT, hRow⟩ := HSc.out.ext ((Ext.to_drew _).trans hE)
        exact ⟨T, hT, hRow.other _ _ (by show S ≠ G; omega)⟩
      rintro w6 ⟨hB6, hR6, hF6, hS6⟩
      have HB6 := Aside0.mk hB6
      have HR6 := Aside0.mk hR6
      have HF6 := Aside0.mk hF6
      have HS6 := Aside0.mk hS6
      clear hB6 hR6 hF6 hS6 cg fg hE hV k32 k29
      go_wp2
      go_roundw
      case rel => exact ⟨j + 1, by omega, by simp, HB6.out, HR6.out, HF6.out, HS6.out⟩
      case measure => simp [intOf]; omega
    · obtain rfl : j = 64 := by omega
      rw [mixL_full 0x5c ks 64 (by rw [HKL.out]; omega)] at hR
      rw [mixL_full 0x36 ks 64 (by rw [HKL.out]; omega)] at hF
      have HRx := Aside0.mk hR
      have HFx := Aside0.mk hF
      clear hB hR hF hS HR HFr
      go_wp2_with fail
      refine ext_tail 6 [(0, 34), (1, 35), (2, 36), (3, 37), (4, 38)] [0, 1, 2, 3, 4] (fun i w v => match i with | 0 => v = .pointer (some ⟨G, 0, none⟩) | 1 => v = .pointer (some ⟨G, 0, none⟩) | 2 => v = .pointer (some ⟨G, 0, none⟩) | 3 => v = .pointer (some ⟨S, 0, none⟩) | 4 => v = .slice (some ⟨F, 0, none⟩) 64 64 | _ => True) (by kernel_rfl) (by kernel_rfl) (by rfl) rfl ?mono9 ?steps9 ?fin9
      case mono9 =>
        intro i w w' v h hE
        match i with
        | 0 => exact h
        | 1 => exact h
        | 2 => exact h
        | 3 => exact h
        | 4 => exact h
        | _ + 5 => trivial
      case steps9 =>
        refine stepE_cons ⟨_, rfl, fun a w hE hH => ?_⟩ ?_
        ·
          have e3 : a.tmps[3]? = some (.pointer (some ⟨G, 0, none⟩)) := hH.old 3 rfl
          exact Or.inl ⟨rfl, goodE_move _ rfl (eval_of e3) rfl⟩
        refine stepE_cons ⟨_, rfl, fun a w hE hH => ?_⟩ ?_
        ·
          obtain ⟨v34, e34, g34⟩ := hH.dep 0 34 rfl (by kernel_rfl)
          have q34 : v34 = .pointer (some ⟨G, 0, none⟩) := g34
          subst q34
          exact Or.inl ⟨rfl, goodE_val (.pointer (some ⟨G, 0, none⟩)) (by simp [execOp, Act.eval, e34, go_sem]) rfl⟩
        refine stepE_cons ⟨_, rfl, fun a w hE hH => ?_⟩ ?_
        ·
          obtain ⟨v35, e35, g35⟩ := hH.dep 1 35 rfl (by kernel_rfl)
          have q35 : v35 = .pointer (some ⟨G, 0, none⟩) := g35
          subst q35
          exact Or.inl ⟨rfl, goodE_val (.pointer (some ⟨G, 0, none⟩)) (by simp [execOp, Act.eval, e35, go_sem]) rfl⟩
        refine stepE_cons ⟨_, rfl, fun a w hE hH => ?_⟩ ?_
        ·
          obtain ⟨v36, e36, g36⟩ := hH.dep 2 36 rfl (by kernel_rfl)
          have q36 : v36 = .pointer (some ⟨G, 0, none⟩) := g36
          subst q36
          exact Or.inl ⟨(rfl), goodE_val (.pointer (some ⟨S, 0, none⟩)) (by simp [execOp, Act.eval, e36, go_sem, (HRx.out.drew.ext hE).cell (show (kyL S (Spec.xorL 0x5c ks))[0]? = some (.pointer (some ⟨S, 0, none⟩)) from rfl)]) rfl⟩
        refine stepE_cons ⟨_, rfl, fun a w hE hH => ?_⟩ ?_
        ·
          have e4 : a.tmps[4]? = some (.pointer (some ⟨F, 0, none⟩)) := hH.old 4 rfl
          exact Or.inl ⟨rfl, goodE_val (.slice (some ⟨F, 0, none⟩) 64 64) (by simp [execOp, Act.eval, e4, go_sem]) rfl⟩
        exact stepE_nil
      refine ⟨⟨(some 39), .call ⟨.value (.func 20), #[(.tmp 37), (.tmp 38)], #[35, 24]⟩, _, _, _, none⟩, rfl, ?_⟩
      rintro vals wz hE hV
      have k37 : vals 3 = .pointer (some ⟨S, 0, none⟩) := hV 3 (by simp) rfl
      have k38 : vals 4 = .slice (some ⟨F, 0, none⟩) 64 64 := hV 4 (by simp) rfl
      refine ⟨rfl, ?_⟩
      intro KK hKK
      simp only [List.map_cons, List.map_nil, putAll, Act.put, List.setIfInBounds_toArray, List.set_cons_zero, List.set_cons_succ, k37, k38]
      have hxl : (Spec.xorL 0x36 ks).length = 64 := by rw [Spec.xorL_length, HKL.out]
      have hcall := write_of wz S [] F 0 64 64 (Spec.xorL 0x36 ks) 74 (HK.out.below (below_ext HB.out ((Ext.to_drew _).trans hE)) HK.out.1) (HSr.out.ext ((Ext.to_drew _).trans hE)) (HFx.out.drew.ext hE) (by omega) (by omega) (by omega) (by omega) (by simp)
      rw [List.drop_zero, List.take_of_length_le (by omega), List.nil_append] at hcall
      refine finE_call rfl #[.pointer (some ⟨S, 0, none⟩), .slice (some ⟨F, 0, none⟩) 64 64] (by simp [Act.eval]) _ Tryd.func20 (by kernel_rfl) (by kernel_rfl) (hcall.mono ?_)
      rintro e w7 ⟨rfl, hO, hS7⟩
      refine ⟨_, rfl, hKK _ _ ?_⟩
      have HB7 := Aside0.mk (below_only (below_ext HB.out ((Ext.to_drew _).trans hE)) hO hwS (by have := HB.out.size; have := hE.size; simp at this; omega))
      have HR7 := Aside0.mk (hO.row (HRx.out.drew.ext hE) (by omega : G ≠ S))
      have HS7 := Aside0.mk hS7
      clear hE hV hO hS7 hcall k37 k38 hxl hKK
      go_wp2
      go_ret
      refine ⟨G, S, rfl, hwG, hwS, HB7.out, ?_, ?_, by omega⟩
      · rw [← HKS.out]; exact HR7.out
      · rw [List.append_nil, ← HKS.out]; exact HS7.out
end Go.Proofs.YtnkhhnfmijljbaaDoor
set_option linter.unusedVariables false
set_option linter.unusedSimpArgs false
namespace Go.Proofs.YtnkhhnfmijljbaaDoor
open Go.RowKit Go.Proofs.YtnkhhnfmijljbaaDoorW.PrintWords Go.Proofs.YtnkhhnfmijljbaaDoorW.PrintLast Go.Proofs.YtnkhhnfmijljbaaDoorW.PrintMore
open Extern.Stop (cell)

theorem kyL_0 (s : Nat) (o : List UInt8) : (kyL s o)[0]? = some (.pointer (some ⟨s, 0, none⟩)) := rfl
/-- the outer block of a Keyed -/
theorem Bs.at1 {w : World} {g s n : Nat} {xs : List UInt8} {t : TypeId} (h : Row w g (kyL s xs) t) (hn : n = xs.length) (hl : xs.length ≤ 9223372036854775807 := by first | omega | (simp [Spec.xorL_length, Spec.key_length])) : Bs w (some ⟨g, 1, none⟩) n xs := by
  subst hn
  refine Kd.C_of_reads (h1 := fun _ => rfl) (d := (0 : Int)) ⟨ints_length xs, hl, fun hp => ⟨_, rfl, fun j hj => ?_⟩⟩
  rw [addr_add, Nat.add_comm]
  refine h.cell ?_
  rw [kyL, List.getElem?_cons_succ, List.getElem?_map, List.getElem?_eq_getElem hj]
  simp [ints, List.getD, hj, Extern.Stop.cell, n8]
theorem kwrite_none (w : World) (A : Option Addr) (n c : Nat) : Calls Tryd.prog 32 #[.pointer none, .slice A n c] w (fun e w' => e = .returned (.tuple #[]) ∧ w' = w) := by
  go_enter Tryd.func32, Tryd.ntmps32
  go_wp2
  go_end0
  exact ⟨rfl, rfl⟩
theorem kcopy_none (w : World) : Calls Tryd.prog 30 #[.pointer none] w (fun e w' => e = .returned (.pointer none) ∧ w' = w) := by
  go_enter Tryd.func30, Tryd.ntmps30
  go_wp2
  go_ret
  exact ⟨rfl, rfl⟩
set_option maxHeartbeats 1000000 in
set_option maxRecDepth 100000 in
theorem kwrite_calls (w : World) (g s : Nat) (sec bs : List UInt8) (A : Option Addr) (c : Nat) (xs : List UInt8) (hK : KTab w) (hY : Ky w g s sec bs) (hx : Bs w A xs.length xs) (hc : xs.length ≤ c)
    (hne : ∀ ad, A = some ad → 0 < xs.length → ad.block ≠ s) (hlen : bs.length + xs.length < 4611686018427387000) :
    Calls Tryd.prog 32 #[.pointer (some ⟨g, 0, none⟩), .slice A xs.length c] w (fun e w' => e = .returned (.tuple #[]) ∧ Only w s w' ∧ Ky w' g s sec (bs ++ xs)) := by
  have c0 := hY.row.cell (kyL_0 s _)
  have HK := Aside0.mk hK
  have HY := Aside0.mk hY
  have HX := Aside0.mk hx
  have HNE := Aside0.mk hne
  clear hK hY hx hne
  go_enter Tryd.func32, Tryd.ntmps32
  go_wp2_with fail
  refine (write_calls w s (Spec.xorL 0x36 (Spec.key sec) ++ bs) A c xs HK.out HY.out.st HX.out hc HNE.out (by rw [List.length_append, Spec.xorL_length, Spec.key_length]; omega)).mono ?_
  rintro e w1 ⟨rfl, hO, hS⟩
  have HO := Aside0.mk hO
  have HS := Aside0.mk hS
  clear hO hS c0
  go_wp2
  go_end0
  exact ⟨rfl, HO.out, HO.out.row HY.out.row (fun e => HY.out.ne e.symm), by rw [← List.append_assoc]; exact HS.out, HY.out.ne⟩
set_option maxHeartbeats 1000000 in
set_option maxRecDepth 100000 in
theorem kcode_none (w : World) : Calls Tryd.prog 31 #[.pointer none] w (fun e w' => e = .returned (hashV zeroHash) ∧ Below w.heap.size w w') := by
  obtain ⟨B, hBdef⟩ : ∃ B, B = w.heap.size := ⟨_, rfl⟩
  have HBD := Aside0.mk hBdef
  go_enter Tryd.func31, Tryd.ntmps31
  go_wp2_with (with_reducible change wpList _ _ _ (Oper.mk _ (Op.store 28 _ _) _ _ _ _ :: _) _ _; refine Aside0.out ?_)
  refine Aside0.mk ?_
  refine wpList_store_row rfl 28 _ _ rfl w.heap.size (zeroHash.map cell).toArray rfl (by simp only [go_sem, Act.eval, Act.put]; rfl) 28 _ (heap_alloc_new _ _) (by kernel_rfl) rfl (oneCells _) ?_
  go_wp2
  (try simp only [Exit.inBlock, Exit.then])
  refine bodyPost_ret (results_cell_row rfl _ _ w.heap.size 28 (zeroHash.map cell).toArray (0, 0) _ rfl (setRow_heap _ _ _ _ _ _ (heap_alloc_new _ _)) Tryd.underlying28 rfl (by kernel_rfl)) rfl ?_
  exact ⟨rfl, below_alloc_setRow _ _ _⟩
set_option maxHeartbeats 1000000 in
set_option maxRecDepth 100000 in
theorem kcode_calls (w : World) (g s : Nat) (sec bs : List UInt8) (hK : KTab w) (hF : FTab w) (hY : Ky w g s sec bs) (hlen : bs.length < 400000000000000000) :
    Calls Tryd.prog 31 #[.pointer (some ⟨g, 0, none⟩)] w (fun e w' => e = .returned (hashV (Spec.code sec bs)) ∧ Below w.heap.size w w') := by
  obtain ⟨B, hBdef⟩ : ∃ B, B = w.heap.size := ⟨_, rfl⟩
  have HBD := Aside0.mk hBdef
  have HK := Aside0.mk hK
  have HF := Aside0.mk hF
  have HY := Aside0.mk hY
  clear hK hF hY
  go_enter Tryd.func31, Tryd.ntmps31
  go_wp2_with (with_reducible refine gate_dst (N := 5) rfl ?_; refine Aside0.out ?_)
  refine Aside0.mk ?_
  refine wpList_world (fun w1 => Ext w w1 ∧ w1.heap.size = B + 1 ∧ Row w1 B (z8 32) 28) ⟨(Ext.refl w).alloc _, by simp [hBdef], by rw [hBdef]; exact Row.alloc w (z8 32) 28⟩ ?_
  rintro w1 ⟨hE1, hS1, hA1⟩
  rw [← hBdef]
  have HE1 := Aside0.mk hE1
  have HS1 := Aside0.mk hS1
  have HA1 := Aside0.mk hA1
  have c0 := (HY.out.row.ext hE1).cell (kyL_0 s _)
  clear hE1 hS1 hA1 hBdef
  go_wp2_with fail
  refine (sum_calls w1 s (Spec.xorL 0x36 (Spec.key sec) ++ bs) (HK.out.ext HE1.out) (HY.out.st.ext HE1.out) (by rw [List.length_append, Spec.xorL_length, Spec.key_length]; omega)).mono ?_
  rintro e w2 ⟨rfl, hE2⟩
  obtain ⟨ds, hds⟩ : ∃ ds, ds = Spec.digest (Spec.xorL 0x36 (Spec.key sec) ++ bs) := ⟨_, rfl⟩
  rw [← hds]
  have HE2 := Aside0.mk (HE1.out.trans hE2)
  have HA2 := Aside0.mk (HA1.out.ext hE2)
  have HDS := Aside0.mk hds
  have HDL := Aside0.mk (show ds.length = 32 by rw [hds]; exact Spec.digest_length _)
  have hsz2 : B < w2.heap.size := (HA1.out.ext hE2).lt
  have HDZ := Aside0.mk (show (ds.map cell).toArray.size = 32 by simp [HDL.out])
  clear hE2 hds c0
  go_wp2_with (with_reducible change wpList _ _ _ (Oper.mk _ (Op.store 28 _ _) _ _ _ _ :: _) _ _; refine Aside0.out ?_)
  refine Aside0.mk ?_
  refine wpList_store_row rfl 28 _ _ rfl w2.heap.size (ds.map cell).toArray rfl (by simp only [go_sem, hashV, Act.eval, Act.put]; rfl) 28 _ (heap_alloc_new _ _) (by rw [HDZ.out]; kernel_rfl) (by rw [HDZ.out]; rfl) (oneCells _) ?_
  obtain ⟨R, hR⟩ : ∃ R, R = w2.heap.size := ⟨_, rfl⟩
  have hEr : Ext w2 ((w2.alloc (.cells (z8 32).toArray 28)).setRow w2.heap.size (ds.map cell).toArray) := below_alloc_setRow _ _ _
  refine wpList_world (fun w3 => Ext w w3 ∧ Row w3 R (ds.map cell) 28 ∧ Row w3 B (z8 32) 28) ⟨HE2.out.trans hEr, by rw [hR]; exact alloc_setRow _ _ _ _, HA2.out.ext hEr⟩ ?_
  rintro w3 ⟨hE3, hR3, hA3⟩
  rw [← hR]
  have HE3 := Aside0.mk hE3
  have HR3 := Aside0.mk hR3
  have HA3 := Aside0.mk hA3
  clear hE3 hR3 hA3 hEr hR
  go_wp2_with fail
  refine ext_tail 8 [(0, 12), (1, 13), (2, 14), (3, 15), (4, 16), (5, 17), (6, 18)] [0, 1, 2, 3, 4, 5, 6] (fun i w v => match i with | 0 => v = .pointer (some ⟨g, 0, none⟩) | 1 => v = .pointer (some ⟨g, 0, none⟩) | 2 => v = .pointer (some ⟨g, 1, none⟩) | 3 => v = .slice (some ⟨g, 1, none⟩) 64 64 | 4 => v = .slice (some ⟨R, 0, none⟩) 32 32 | 5 => ∃ b, v = .slice (some ⟨b, 0, none⟩) 2 2 ∧ Bss w (some ⟨b, 0, none⟩) 2 [(Spec.xorL 0x5c (Spec.key sec)), ds] | 6 => v = hashV (Spec.code sec bs) | _ => True) (by kernel_rfl) (by kernel_rfl) (by rfl) rfl ?mono4 ?steps4 ?fin4
  case mono4 =>
    intro i w w' v h hE
    match i with
    | 0 => exact h
    | 1 => exact h
    | 2 => exact h
    | 3 => exact h
    | 4 => exact h
    | 5 => exact (by obtain ⟨b, h1, h2⟩ := h; exact ⟨b, h1, h2.below hE⟩)
    | 6 => exact h
    | _ + 7 => trivial
  case steps4 =>
    refine stepE_cons ⟨_, rfl, fun a w hE hH => ?_⟩ ?_
    ·
      have e0 : a.tmps[0]? = some (.pointer (some ⟨g, 0, none⟩)) := hH.old 0 rfl
      exact Or.inl ⟨rfl, goodE_move _ rfl (eval_of e0) rfl⟩
    refine stepE_cons ⟨_, rfl, fun a w hE hH => ?_⟩ ?_
    ·
      obtain ⟨v12, e12, g12⟩ := hH.dep 0 12 rfl (by kernel_rfl)
      have q12 : v12 = .pointer (some ⟨g, 0, none⟩) := g12
      subst q12
      exact Or.inl ⟨rfl, goodE_val (.pointer (some ⟨g, 0, none⟩)) (by simp [execOp, Act.eval, e12, go_sem]) rfl⟩
    refine stepE_cons ⟨_, rfl, fun a w hE hH => ?_⟩ ?_
    ·
      obtain ⟨v13, e13, g13⟩ := hH.dep 1 13 rfl (by kernel_rfl)
      have q13 : v13 = .pointer (some ⟨g, 0, none⟩) := g13
      subst q13
      exact Or.inl ⟨rfl, goodE_val (.pointer (some ⟨g, 1, none⟩)) (by simp [execOp, Act.eval, e13, go_sem]) rfl⟩
    refine stepE_cons ⟨_, rfl, fun a w hE hH => ?_⟩ ?_
    ·
      obtain ⟨v14, e14, g14⟩ := hH.dep 2 14 rfl (by kernel_rfl)
      have q14 : v14 = .pointer (some ⟨g, 1, none⟩) := g14
      subst q14
      exact Or.inl ⟨rfl, goodE_val (.slice (some ⟨g, 1, none⟩) 64 64) (by simp [execOp, Act.eval, e14, go_sem]) rfl⟩
    refine stepE_cons ⟨_, rfl, fun a w hE hH => ?_⟩ ?_
    ·
      have e3 : a.tmps[3]? = some (.pointer (some ⟨R, 0, none⟩)) := hH.old 3 rfl
      exact Or.inl ⟨rfl, goodE_val (.slice (some ⟨R, 0, none⟩) 32 32) (by simp [execOp, Act.eval, e3, go_sem]) rfl⟩
    refine stepE_cons ⟨_, rfl, fun a w hE hH => ?_⟩ ?_
    ·
      obtain ⟨v15, e15, g15⟩ := hH.dep 3 15 rfl (by kernel_rfl)
      have q15 : v15 = .slice (some ⟨g, 1, none⟩) 64 64 := g15
      subst q15
      obtain ⟨v16, e16, g16⟩ := hH.dep 4 16 rfl (by kernel_rfl)
      have q16 : v16 = .slice (some ⟨R, 0, none⟩) 32 32 := g16
      subst q16
      have hg := (HY.out.row.ext HE3.out).drew.ext hE
      have h1 : Bs w (some ⟨g, 1, none⟩) 64 (Spec.xorL 0x5c (Spec.key sec)) := Bs.at1 hg (by rw [Spec.xorL_length, Spec.key_length])
      have h2 : Bs w (some ⟨R, 0, none⟩) 32 ds := Bs.row (HR3.out.drew.ext hE) HDL.out.symm (by rw [HDL.out]; omega)
      refine Or.inl ⟨(rfl), goodE_new (.slice (some ⟨w.heap.size, 0, none⟩) 2 2) (w.alloc (.cells #[.slice (some ⟨g, 1, none⟩) 64 64, .slice (some ⟨R, 0, none⟩) 32 32] 24)) (by simp [execOp, Act.eval, e15, e16, go_sem]) ((Ext.refl w).alloc _) ⟨_, rfl, bss_two h1 (Nat.le_refl _) h2 (Nat.le_refl _)⟩⟩
    refine stepE_cons ⟨_, rfl, fun a w hE hH => ?_⟩ ?_
    ·
      obtain ⟨v17, e17, g17⟩ := hH.dep 5 17 rfl (by kernel_rfl)
      obtain ⟨b, rfl, hb⟩ := g17
      refine Or.inl ⟨(rfl), goodE_call rfl #[.slice (some ⟨b, 0, none⟩) 2 2] (by simp [Act.eval, e17]) _ Tryd.func16 (by kernel_rfl) (by kernel_rfl) ?_⟩
      refine (shaSum_calls w (some ⟨b, 0, none⟩) 2 [(Spec.xorL 0x5c (Spec.key sec)), ds] (HK.out.ext (HE3.out.trans ((Ext.to_drew _).trans hE))) (HF.out.ext (HE3.out.trans ((Ext.to_drew _).trans hE))) hb (by simp [Spec.xorL_length, Spec.key_length, HDL.out])).mono ?_
      rintro e w' ⟨rfl, h⟩
      exact ⟨_, rfl, h, by show hashV _ = hashV _; rw [Spec.code, ← HDS.out]; simp⟩
    exact stepE_nil
  refine ⟨⟨none, .store 28 (.tmp 2) (.tmp 18), _, _, _, none⟩, rfl, ?_⟩
  rintro vals wz hE hV
  have k18 : vals 6 = hashV (Spec.code sec bs) := hV 6 (by simp) rfl
  refine ⟨rfl, ?_⟩
  intro KK hKK
  simp only [List.map_cons, List.map_nil, putAll, Act.put, List.setIfInBounds_toArray, List.set_cons_zero, List.set_cons_succ, k18]
  have HAz := Aside0.mk ((HA3.out.drew).ext hE)
  have HEz := Aside0.mk (HE3.out.trans ((Ext.to_drew _).trans hE))
  have HCZ := Aside0.mk (show ((Spec.code sec bs).map cell).toArray.size = 32 by simp [Spec.code_length])
  refine wp_store_row 28 _ _ rfl B ((Spec.code sec bs).map cell).toArray rfl (by simp only [go_sem, hashV, Act.eval, Act.put]; rfl) 28 _ HAz.out (by rw [HCZ.out]; kernel_rfl) (by rw [HCZ.out]; rfl) (oneCells _) (hKK _ _ ?_)
  clear hE hV k18 hKK
  go_wp2
  (try simp only [Exit.inBlock, Exit.then])
  refine bodyPost_ret (results_cell_row rfl _ _ B 28 ((Spec.code sec bs).map cell).toArray (0, 0) _ rfl (setRow_heap _ _ _ _ _ _ HAz.out) Tryd.underlying28 rfl (by rw [HCZ.out]; kernel_rfl)) rfl ?_
  exact ⟨rfl, Below.setRow HEz.out (by rw [HBD.out]; exact Nat.le_refl _) _⟩
end Go.Proofs.YtnkhhnfmijljbaaDoor
