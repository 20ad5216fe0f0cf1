
import Derived.Test.YthhemephaabblaaGreatDoorZCl
import Derived.Shelf.LaysC
import Derived.Shelf.Strconv.ErrVar
import Derived.Test.YthhemephaabblaaGreatDoorRows
import Derived.Lib.LaidTab
import Derived.Stop.LaidErr
import Derived.ProofKit
import Derived.OpenShut
import Derived.SliceStrings
import Derived.Test.YthhemephaabblaaGreatDoorZCk
namespace Go.Proofs.YthhemephaabblaaGreatDoor.Hq
open Go.RowKit Go.Proofs.YthhemephaabblaaGreatDoorW.PrintWords Go.Proofs.YthhemephaabblaaGreatDoorW.PrintLast Go.Proofs.YthhemephaabblaaGreatDoorW.PrintMore Go.Proofs.YthhemephaabblaaGreatDoor Go.Proofs.YthhemephaabblaaGreatDoor.Q Go.Proofs.YthhemephaabblaaGreatDoor.R
set_option linter.unusedVariables false
set_option linter.unusedSimpArgs false
theorem setRow_same {w : World} {b : Nat} {cs : Array Value} {t : TypeId} {fr : Nat × Nat} (h : w.heap[b]? = some (.cells cs t fr)) : Ext w (w.setRow b cs) := by
  refine ⟨rfl, rfl, rfl, by simp [World.setRow], fun k hk => ?_⟩
  by_cases hkb : k = b
  · subst hkb
    rw [setRow_heap w k _ cs _ _ h, h]
  · exact setRow_heap_other _ _ _ _ hkb
theorem store_run {P : Program} {w : World} {t ty : TypeId} (g : Nat) (cells old : Array Value) {p v : Value} (hx : p = .pointer (some ⟨g, 0, none⟩)) (hy : v = .agg cells) (hg : w.heap[g]? = some (.cells old t (0, 0))) (hi : (P.info? ty).map (·.size) = some cells.size) (hold : old.size = cells.size) (h1 : cells.all (·.oneCell') = true) : (Instr.storeAt ty p v).run P w = .ok () (w.setRow g cells) := by
  subst hx hy
  simp only [Instr.storeAt, Instr.sureAddr, Sem.run_bind, Sem.run_pure, Result.andThen_ok, run_storeVar_row w g t ty old cells hg hi hold h1]
def QV (B : Nat) (w : World) (q : Qry) (v5 v7 : Value) : Prop := Sr B w v5 q.cols ∧ Tr B w v7 q.wh
def qval (q : Qry) (v5 v7 : Value) : Value := .agg #[v5, .string (strB q.tab), v7, .string (strB q.ord), .bool q.down, .int .i64 q.lim]
def ParP (w : World) (r : Qry × Nat × Int) (e : Ending) (w' : World) : Prop :=
  ∃ v5 v7, e = .returned (.tuple #[qval r.1 v5 v7, .int .i64 (r.2.1 : Int), .int .i64 r.2.2]) ∧ QV w.heap.size w' r.1 v5 v7 ∧ Below w.heap.size w w'
theorem Rd.cells {w0 w : World} {g : Nat} {s : List UInt8} {L : List Tk} {v5 : Value} {tab : List UInt8} {v7 : Value} {ord : List UInt8} {down : Bool} {lim : Int} (h : Rd w0 w g s L v5 tab v7 ord down lim) : w.cell? ⟨g, 5, none⟩ = some v5 ∧ w.cell? ⟨g, 6, none⟩ = some (.string (strB tab)) ∧ w.cell? ⟨g, 7, none⟩ = some v7 ∧ w.cell? ⟨g, 8, none⟩ = some (.string (strB ord)) ∧ w.cell? ⟨g, 9, none⟩ = some (.bool down) ∧ w.cell? ⟨g, 10, none⟩ = some (.int .i64 lim) := by
  obtain ⟨p, hp, hL, hb, hg⟩ := h
  exact ⟨(blk_cell hb 5).trans rfl, (blk_cell hb 6).trans rfl, (blk_cell hb 7).trans rfl, (blk_cell hb 8).trans rfl, (blk_cell hb 9).trans rfl, (blk_cell hb 10).trans rfl⟩
theorem no_QV (B : Nat) (w : World) : QV B w ⟨[], [], [], [], false, 0⟩ (.slice none 0 0) (.slice none 0 0) := ⟨World.ownsRow_nil _ _ _ _, World.ownsRow_nil _ _ _ _⟩
set_option maxRecDepth 100000 in
set_option maxHeartbeats 3200000 in
theorem parse_calls (s : List UInt8) (w : World) (hG : Glob w) (hs : s.length ≤ 1000000000000) :
    Calls Tryz.prog 7 #[.string (strB s)] w (ParP w (parseQ s)) := by
  have hsz := strB_size s
  by_cases hl : s.length ≤ 1024
  · have hd : decide ((1024 : Int) < (s.length : Int)) = false := decide_eq_false (by omega)
    have hd2 : ¬ ((1024 : Int) < (s.length : Int)) := by omega
    go_enter Tryz.func7, Tryz.ntmps7
    go_upto_region 4 with fail
    obtain ⟨wa, hwa⟩ : ∃ W, W = w.alloc (.cells #[.slice none 0 0, .string ⟨#[]⟩, .slice none 0 0, .string ⟨#[]⟩, .bool false, .int .i64 0] 25) := ⟨_, rfl⟩
    have hza : wa.heap.size = w.heap.size + 1 := by rw [hwa]; simp
    have hZa : wa.heap[w.heap.size]? = some (.cells #[.slice none 0 0, .string ⟨#[]⟩, .slice none 0 0, .string ⟨#[]⟩, .bool false, .int .i64 0] 25 (0, 0)) := by rw [hwa]; exact heap_alloc_new _ _
    have hBa : Below w.heap.size w wa := by rw [hwa]; exact (Below.refl _ _).alloc (Nat.le_refl _) _
    have hR0 : R0 wa (wa.alloc (.cells #[.string (strB s), .int .i64 0, .int .i64 0, .string ⟨#[]⟩, .int .i64 0, .slice none 0 0, .string ⟨#[]⟩, .slice none 0 0, .string ⟨#[]⟩, .bool false, .int .i64 0] 60)) (w.heap.size + 1) s := ⟨by rw [← hza]; exact heap_alloc_new _ _, by omega⟩
    have hBb : Below wa.heap.size wa (wa.alloc (.cells #[.string (strB s), .int .i64 0, .int .i64 0, .string ⟨#[]⟩, .int .i64 0, .slice none 0 0, .string ⟨#[]⟩, .slice none 0 0, .string ⟨#[]⟩, .bool false, .int .i64 0] 60)) := (Below.refl _ _).alloc (Nat.le_refl _) _
    rw [← hwa]
    generalize (wa.alloc (.cells #[.string (strB s), .int .i64 0, .int .i64 0, .string ⟨#[]⟩, .int .i64 0, .slice none 0 0, .string ⟨#[]⟩, .slice none 0 0, .string ⟨#[]⟩, .bool false, .int .i64 0] 60)) = wb at hR0 hBb ⊢
    have hq := question_rd wa wb (w.heap.size + 1) s hs hR0 hBb
    obtain ⟨g, hg⟩ : ∃ n, n = w.heap.size + 1 := ⟨_, rfl⟩
    rw [← hg] at hq ⊢
    obtain ⟨rb, hrb⟩ : ∃ n, n = w.heap.size := ⟨_, rfl⟩
    rw [← hrb] at hZa ⊢
    have HZA := Aside0.mk hZa
    have HBA := Aside0.mk hBa
    have HRB := Aside0.mk hrb
    have HGE := Aside0.mk hg
    have HZS := Aside0.mk hza
    have HWB := Aside0.mk hBb
    clear hwa hza hZa hBa hR0 hBb hg hrb
    rcases hpq : parseL (toks s 0) with ⟨o, L'⟩
    rw [hpq] at hq
    have HPQ := Aside0.mk hpq
    clear hpq
    cases o with
    | none =>
      have e0 : parseQ s = (⟨[], [], [], [], false, 0⟩, (hdT L').place, 320) := by unfold parseQ; rw [if_pos hl, HPQ.out]
      have HE0 := Aside0.mk e0
      clear e0
      go_upto_region 5 with (go_at_call 18; (with_reducible refine hq.mono ?_); rintro e w2 ⟨rfl, hB2, hK2, v5, tb, v7, od, dn, lm, hR2, _⟩; have hZ2 : w2.heap[rb]? = some (.cells #[.slice none 0 0, .string ⟨#[]⟩, .slice none 0 0, .string ⟨#[]⟩, .bool false, .int .i64 0] 25 (0, 0)) := (hB2.block rb (by have := HZS.out; have := HRB.out; omega)).trans HZA.out; have HZ2 := Aside0.mk hZ2; have HB2 := Aside0.mk hB2; have HK4 := Aside0.mk hR2.c23.2.2; clear hB2 hK2 hR2 hZ2)
      refine exk_tail (fun W => Ext w2.drew W) (fun _ => Ext) 9 [(0, 18), (1, 19), (2, 20), (3, 21), (4, 22), (5, 23), (7, 3)] [0, 1, 2, 3, 4, 5, 6, 7] (fun i w v => match i with | 0 => v = .agg #[.slice none 0 0, .string ⟨#[]⟩, .slice none 0 0, .string ⟨#[]⟩, .bool false, .int .i64 0] | 1 => v = .pointer (some ⟨g, 0, none⟩) | 2 => v = .pointer (some ⟨g, 0, none⟩) | 3 => v = .pointer (some ⟨g, 2, none⟩) | 4 => v = .pointer (some ⟨g, 4, none⟩) | 5 => v = .int .i64 ((hdT L').place : Int) | 7 => v = .int .i64 ((hdT L').place : Int) | _ => True) (by kernel_rfl) (by kernel_rfl) (by rfl) rfl ?j0 ?rj ?r0 ?mono5 ?steps5 ?fin5
      case j0 => exact Ext.refl _
      case rj => exact fun i W W' h hR => h.trans hR
      case r0 => exact fun i W => Ext.refl W
      case mono5 =>
        intro i j w w' v hne h hR
        match j with
        | 0 => exact h
        | 1 => exact h
        | 2 => exact h
        | 3 => exact h
        | 4 => exact h
        | 5 => exact h
        | 6 => exact h
        | 7 => exact h
        | 8 => exact h
        | _ + 9 => trivial
      case steps5 =>
        refine stepK_cons ⟨_, rfl, fun a w hE hH => ?_⟩ ?_
        ·
          exact Or.inl ⟨(rfl), goodK_of rfl (goodE_val (.agg #[.slice none 0 0, .string ⟨#[]⟩, .slice none 0 0, .string ⟨#[]⟩, .bool false, .int .i64 0]) (by simp [execOp, Act.eval, go_sem]) rfl)⟩
        refine stepK_cons ⟨_, rfl, fun a w hE hH => ?_⟩ ?_
        ·
          have e5 : a.tmps[5]? = some (.pointer (some ⟨g, 0, none⟩)) := hH.old 5 rfl
          exact Or.inl ⟨rfl, goodK_of rfl (goodE_move _ rfl (eval_of e5) rfl)⟩
        refine stepK_cons ⟨_, rfl, fun a w hE hH => ?_⟩ ?_
        ·
          obtain ⟨v19, e19, g19⟩ := hH.dep 1 19 rfl (by kernel_rfl)
          have q19 : v19 = .pointer (some ⟨g, 0, none⟩) := g19
          subst q19
          exact Or.inl ⟨rfl, goodK_of rfl (goodE_val (.pointer (some ⟨g, 0, none⟩)) (by simp [execOp, Act.eval, e19, go_sem]) rfl)⟩
        refine stepK_cons ⟨_, rfl, fun a w hE hH => ?_⟩ ?_
        ·
          obtain ⟨v20, e20, g20⟩ := hH.dep 2 20 rfl (by kernel_rfl)
          have q20 : v20 = .pointer (some ⟨g, 0, none⟩) := g20
          subst q20
          exact Or.inl ⟨rfl, goodK_of rfl (goodE_val (.pointer (some ⟨g, 2, none⟩)) (by simp [execOp, Act.eval, e20, go_sem]) rfl)⟩
        refine stepK_cons ⟨_, rfl, fun a w hE hH => ?_⟩ ?_
        ·
          obtain ⟨v21, e21, g21⟩ := hH.dep 3 21 rfl (by kernel_rfl)
          have q21 : v21 = .pointer (some ⟨g, 2, none⟩) := g21
          subst q21
          exact Or.inl ⟨rfl, goodK_of rfl (goodE_val (.pointer (some ⟨g, 4, none⟩)) (by simp [execOp, Act.eval, e21, go_sem]) rfl)⟩
        refine stepK_cons ⟨_, rfl, fun a w hE hH => ?_⟩ ?_
        ·
          obtain ⟨v22, e22, g22⟩ := hH.dep 4 22 rfl (by kernel_rfl)
          have q22 : v22 = .pointer (some ⟨g, 4, none⟩) := g22
          subst q22
          have hc := cell_ext ((Ext.to_drew _).trans hE) HK4.out
          exact Or.inl ⟨(rfl), goodK_of rfl (goodE_val (.int .i64 ((hdT L').place : Int)) (by simp [execOp, Act.eval, e22, hc, go_sem]) rfl)⟩
        refine stepK_cons ⟨_, rfl, fun a w hE hH => ?_⟩ ?_
        ·
          have e2 : a.tmps[2]? = some (.pointer (some ⟨rb, 0, none⟩)) := hH.old 2 rfl
          obtain ⟨v18, e18, g18⟩ := hH.dep 0 18 rfl (by kernel_rfl)
          have q18 : v18 = .agg #[.slice none 0 0, .string ⟨#[]⟩, .slice none 0 0, .string ⟨#[]⟩, .bool false, .int .i64 0] := g18
          subst q18
          have hz := heap_below HZ2.out ((Ext.to_drew _).trans hE)
          exact Or.inl ⟨(rfl), goodK_skip (w.setRow rb #[.slice none 0 0, .string ⟨#[]⟩, .slice none 0 0, .string ⟨#[]⟩, .bool false, .int .i64 0]) (exec_store rfl (store_run rb #[.slice none 0 0, .string ⟨#[]⟩, .slice none 0 0, .string ⟨#[]⟩, .bool false, .int .i64 0] #[.slice none 0 0, .string ⟨#[]⟩, .slice none 0 0, .string ⟨#[]⟩, .bool false, .int .i64 0] (by simp [Act.eval, e2]) (by simp [Act.eval, e18]) hz (by kernel_rfl) rfl (by simp [Value.oneCell']))) (setRow_same hz) trivial⟩
        refine stepK_cons ⟨_, rfl, fun a w hE hH => ?_⟩ ?_
        ·
          obtain ⟨v23, e23, g23⟩ := hH.dep 5 23 rfl (by kernel_rfl)
          exact Or.inl ⟨rfl, goodK_of rfl (goodE_assign v23 rfl (eval_of e23) g23)⟩
        exact stepK_nil
      refine ⟨⟨(some 4), .assign (.const (.int .i64 320)), _, _, _, none⟩, rfl, ?_⟩
      rintro vals wz hE hV
      have k3 : vals 7 = .int .i64 ((hdT L').place : Int) := hV 7 (by simp) rfl
      refine ⟨rfl, ?_⟩
      intro KK hKK
      simp only [List.map_cons, List.map_nil, putAll, Act.put, List.setIfInBounds_toArray, List.set_cons_zero, List.set_cons_succ, k3]
      refine finE_val (w1 := wz) (v := .int .i64 320) (by simp [execOp, Act.eval, Act.put]) (hKK _ _ ?_)
      have hF := heap_below HZ2.out ((Ext.to_drew _).trans hE)
      have hBF : Below w.heap.size w wz := Below.trans HBA.out (Below.mono (below_step HB2.out ((Ext.to_drew _).trans hE)) (by have := HZS.out; omega))
      generalize wz = wf at hF hBF ⊢
      have HFF := Aside0.mk hF
      have HBF := Aside0.mk hBF
      have z0 := blk_cell hF 0
      have z1 := blk_cell hF 1
      have z2 := blk_cell hF 2
      have z3 := blk_cell hF 3
      have z4 := blk_cell hF 4
      have z5 := blk_cell hF 5
      clear hE hV k3 hKK hF hBF
      go_wp2_with fail
      refine bodyPost_ret (v := .tuple #[.agg #[.slice none 0 0, .string ⟨#[]⟩, .slice none 0 0, .string ⟨#[]⟩, .bool false, .int .i64 0], .int .i64 ((hdT L').place : Int), .int .i64 320]) (by simp [results, Tryz.results7, go_sem, z0, z1, z2, z3, z4, z5]) rfl ⟨.slice none 0 0, .slice none 0 0, by rw [HE0.out]; rfl, by rw [HE0.out]; exact no_QV _ _, HBF.out⟩
    | some q =>
      have hpb := parse_ok s HPQ.out
      have hokq := hpb.okQ (by omega)
      have hpf := print_f q hokq (q.cols.length + q.wh.length + 51) (by omega)
      have HOK := Aside0.mk hpb
      have HPF := Aside0.mk hpf
      clear hpf hokq hpb
      go_upto_region 6 with (go_at_call 18; (with_reducible refine hq.mono ?_); rintro e w2 ⟨rfl, hB2, hK2, v5, tb, v7, od, dn, lm, hR2, hx⟩; obtain ⟨hS2, hT2, rfl, rfl, rfl, rfl⟩ := hx q rfl; have hZ2 : w2.heap[rb]? = some (.cells #[.slice none 0 0, .string ⟨#[]⟩, .slice none 0 0, .string ⟨#[]⟩, .bool false, .int .i64 0] 25 (0, 0)) := (hB2.block rb (by have := HZS.out; have := HRB.out; omega)).trans HZA.out; have HZ2 := Aside0.mk hZ2; have HB2 := Aside0.mk hB2; have HS2 := Aside0.mk hS2; have HT2 := Aside0.mk hT2; have HR2 := Aside0.mk hR2; clear hB2 hK2 hR2 hZ2 hS2 hT2 hx)
      obtain ⟨A5, p5, rfl, hp5, hC5⟩ := sr_C HS2.out (by have := HOK.out.ncols; omega)
      obtain ⟨A7, p7, rfl, hp7, hC7⟩ := tr_C HT2.out (by have := HOK.out.nwh; omega)
      obtain ⟨q5, q6, q7, q8, q9, q10⟩ := HR2.out.cells
      have hG2 : Glob w2 := Glob.of_below hG (Below.trans HBA.out (Below.mono HB2.out (by have := HZS.out; omega)))
      have hpr := query_Print.calls (q.cols.length + q.wh.length + 51) A5 p5 (q.cols.map strB) (strB q.tab) A7 p7 (q.wh.map t37) (strB q.ord) q.down q.lim (strB (printQ q).1) (printQ q).2 w2 (by rw [List.length_map]; exact hC5) (by rw [List.length_map]; exact hp5) (by rw [List.length_map]; exact hC7) (by rw [List.length_map]; exact hp7) hG2 HPF.out
      rw [List.length_map, List.length_map] at hpr
      clear hC5 hC7 hG2
      by_cases h0 : (printQ q).2 = 0
      · have e0 : parseQ s = (q, 0, 0) := by unfold parseQ; rw [if_pos hl, HPQ.out]; simp only; rw [if_pos h0]
        have HE0 := Aside0.mk e0
        rw [h0] at hpr
        clear e0 h0
        go_upto_region 9 with (go_at_call 13; (with_reducible refine hpr.mono ?_); rintro e w3 ⟨rfl, hb3⟩; have HS3 := Aside0.mk (HS2.out.ext hb3); have HT3 := Aside0.mk (HT2.out.ext hb3); have hZ3 := heap_below HZ2.out hb3; have HB3 := Aside0.mk (Below.trans HBA.out (Below.mono (below_step HB2.out hb3) (by have := HZS.out; omega))); have HZ3 := Aside0.mk hZ3; have hR3 := HR2.out.move (hb3.block _ HR2.out.lt); obtain ⟨r5, r6, r7, r8, r9, r10⟩ := hR3.cells; have z0 := blk_cell hZ3 0; have z1 := blk_cell hZ3 1; have z2 := blk_cell hZ3 2; have z3 := blk_cell hZ3 3; have z4 := blk_cell hZ3 4; have z5 := blk_cell hZ3 5; have f0 := blk_frozen hZ3 0; have f1 := blk_frozen hZ3 1; have f2 := blk_frozen hZ3 2; have f3 := blk_frozen hZ3 3; have f4 := blk_frozen hZ3 4; have f5 := blk_frozen hZ3 5; clear hb3 hZ3 hR3 q5 q6 q7 q8 q9 q10)
        go_wp2_with fail
        have hF : ((((((w3.setCell ⟨rb, 0, none⟩ (.slice A5 q.cols.length p5)).setCell ⟨rb, 1, none⟩ (.string (strB q.tab))).setCell ⟨rb, 2, none⟩ (.slice A7 q.wh.length p7)).setCell ⟨rb, 3, none⟩ (.string (strB q.ord))).setCell ⟨rb, 4, none⟩ (.bool q.down)).setCell ⟨rb, 5, none⟩ (.int .i64 q.lim)).heap[rb]? = some (.cells #[.slice A5 q.cols.length p5, .string (strB q.tab), .slice A7 q.wh.length p7, .string (strB q.ord), .bool q.down, .int .i64 q.lim] 25 (0, 0)) := by
          have h := (blk_set (blk_set (blk_set (blk_set (blk_set (blk_set HZ3.out 0 (.slice A5 q.cols.length p5)) 1 (.string (strB q.tab))) 2 (.slice A7 q.wh.length p7)) 3 (.string (strB q.ord))) 4 (.bool q.down)) 5 (.int .i64 q.lim))
          simpa using h
        have hK : KeepBut w3 ((((((w3.setCell ⟨rb, 0, none⟩ (.slice A5 q.cols.length p5)).setCell ⟨rb, 1, none⟩ (.string (strB q.tab))).setCell ⟨rb, 2, none⟩ (.slice A7 q.wh.length p7)).setCell ⟨rb, 3, none⟩ (.string (strB q.ord))).setCell ⟨rb, 4, none⟩ (.bool q.down)).setCell ⟨rb, 5, none⟩ (.int .i64 q.lim)) rb none := ((((((KeepBut.of_below (Ext.refl w3) rb none).set_ 0 (.slice A5 q.cols.length p5)).set_ 1 (.string (strB q.tab))).set_ 2 (.slice A7 q.wh.length p7)).set_ 3 (.string (strB q.ord))).set_ 4 (.bool q.down)).set_ 5 (.int .i64 q.lim)
        have hBF : Below w.heap.size w ((((((w3.setCell ⟨rb, 0, none⟩ (.slice A5 q.cols.length p5)).setCell ⟨rb, 1, none⟩ (.string (strB q.tab))).setCell ⟨rb, 2, none⟩ (.slice A7 q.wh.length p7)).setCell ⟨rb, 3, none⟩ (.string (strB q.ord))).setCell ⟨rb, 4, none⟩ (.bool q.down)).setCell ⟨rb, 5, none⟩ (.int .i64 q.lim)) := ((((((HB3.out.setCell (show w.heap.size ≤ rb by rw [HRB.out]; exact Nat.le_refl _) _).setCell (show w.heap.size ≤ rb by rw [HRB.out]; exact Nat.le_refl _) _).setCell (show w.heap.size ≤ rb by rw [HRB.out]; exact Nat.le_refl _) _).setCell (show w.heap.size ≤ rb by rw [HRB.out]; exact Nat.le_refl _) _).setCell (show w.heap.size ≤ rb by rw [HRB.out]; exact Nat.le_refl _) _).setCell (show w.heap.size ≤ rb by rw [HRB.out]; exact Nat.le_refl _) _)
        generalize ((((((w3.setCell ⟨rb, 0, none⟩ (.slice A5 q.cols.length p5)).setCell ⟨rb, 1, none⟩ (.string (strB q.tab))).setCell ⟨rb, 2, none⟩ (.slice A7 q.wh.length p7)).setCell ⟨rb, 3, none⟩ (.string (strB q.ord))).setCell ⟨rb, 4, none⟩ (.bool q.down)).setCell ⟨rb, 5, none⟩ (.int .i64 q.lim)) = wf at hF hK hBF ⊢
        have hlb : rb < wb.heap.size := by have := HWB.out.size; have := HZS.out; have := HRB.out; omega
        have hSf := own_less (HS3.out.keep hK hlb) (show w.heap.size ≤ wb.heap.size by have := HRB.out; omega)
        have hTf := own_less (HT3.out.keep hK hlb) (show w.heap.size ≤ wb.heap.size by have := HRB.out; omega)
        have y0 := blk_cell hF 0
        have y1 := blk_cell hF 1
        have y2 := blk_cell hF 2
        have y3 := blk_cell hF 3
        have y4 := blk_cell hF 4
        have y5 := blk_cell hF 5
        refine bodyPost_ret (v := .tuple #[.agg #[.slice A5 q.cols.length p5, .string (strB q.tab), .slice A7 q.wh.length p7, .string (strB q.ord), .bool q.down, .int .i64 q.lim], .int .i64 0, .int .i64 0]) (by simp [results, Tryz.results7, go_sem, y0, y1, y2, y3, y4, y5]) rfl ⟨_, _, by rw [HE0.out]; rfl, by rw [HE0.out]; exact ⟨hSf, hTf⟩, hBF⟩
      · have e0 : parseQ s = (⟨[], [], [], [], false, 0⟩, 0, 2) := by unfold parseQ; rw [if_pos hl, HPQ.out]; simp only; rw [if_neg h0]
        have HE0 := Aside0.mk e0
        have h1 : (printQ q).2 = 320 := by
          unfold printQ at h0 ⊢
          split at h0
          · split at h0
            · exact absurd rfl h0
            · rename_i h2 h3; rw [if_pos h2, if_neg h3]
          · rename_i h2; rw [if_neg h2]
        rw [h1] at hpr
        clear e0 h0 h1
        go_upto_region 8 with (go_at_call 13; (with_reducible refine hpr.mono ?_); rintro e w3 ⟨rfl, hb3⟩; have hZ3 := heap_below HZ2.out hb3; have HB3 := Aside0.mk (Below.trans HBA.out (Below.mono (below_step HB2.out hb3) (by have := HZS.out; omega))); have HZ3 := Aside0.mk hZ3; have z0 := blk_cell hZ3 0; have z1 := blk_cell hZ3 1; have z2 := blk_cell hZ3 2; have z3 := blk_cell hZ3 3; have z4 := blk_cell hZ3 4; have z5 := blk_cell hZ3 5; have f0 := blk_frozen hZ3 0; have f1 := blk_frozen hZ3 1; have f2 := blk_frozen hZ3 2; have f3 := blk_frozen hZ3 3; have f4 := blk_frozen hZ3 4; have f5 := blk_frozen hZ3 5; clear hb3 hZ3 q5 q6 q7 q8 q9 q10)
        go_wp2_with fail
        have hF : ((((((w3.setCell ⟨rb, 0, none⟩ (.slice none 0 0)).setCell ⟨rb, 1, none⟩ (.string ⟨#[]⟩)).setCell ⟨rb, 2, none⟩ (.slice none 0 0)).setCell ⟨rb, 3, none⟩ (.string ⟨#[]⟩)).setCell ⟨rb, 4, none⟩ (.bool false)).setCell ⟨rb, 5, none⟩ (.int .i64 0)).heap[rb]? = some (.cells #[.slice none 0 0, .string ⟨#[]⟩, .slice none 0 0, .string ⟨#[]⟩, .bool false, .int .i64 0] 25 (0, 0)) := by
          have h := (blk_set (blk_set (blk_set (blk_set (blk_set (blk_set HZ3.out 0 (.slice none 0 0)) 1 (.string ⟨#[]⟩)) 2 (.slice none 0 0)) 3 (.string ⟨#[]⟩)) 4 (.bool false)) 5 (.int .i64 0))
          simpa using h
        have hBF : Below w.heap.size w ((((((w3.setCell ⟨rb, 0, none⟩ (.slice none 0 0)).setCell ⟨rb, 1, none⟩ (.string ⟨#[]⟩)).setCell ⟨rb, 2, none⟩ (.slice none 0 0)).setCell ⟨rb, 3, none⟩ (.string ⟨#[]⟩)).setCell ⟨rb, 4, none⟩ (.bool false)).setCell ⟨rb, 5, none⟩ (.int .i64 0)) := ((((((HB3.out.setCell (show w.heap.size ≤ rb by rw [HRB.out]; exact Nat.le_refl _) _).setCell (show w.heap.size ≤ rb by rw [HRB.out]; exact Nat.le_refl _) _).setCell (show w.heap.size ≤ rb by rw [HRB.out]; exact Nat.le_refl _) _).setCell (show w.heap.size ≤ rb by rw [HRB.out]; exact Nat.le_refl _) _).setCell (show w.heap.size ≤ rb by rw [HRB.out]; exact Nat.le_refl _) _).setCell (show w.heap.size ≤ rb by rw [HRB.out]; exact Nat.le_refl _) _)
        generalize ((((((w3.setCell ⟨rb, 0, none⟩ (.slice none 0 0)).setCell ⟨rb, 1, none⟩ (.string ⟨#[]⟩)).setCell ⟨rb, 2, none⟩ (.slice none 0 0)).setCell ⟨rb, 3, none⟩ (.string ⟨#[]⟩)).setCell ⟨rb, 4, none⟩ (.bool false)).setCell ⟨rb, 5, none⟩ (.int .i64 0)) = wf at hF hBF ⊢
        have y0 := blk_cell hF 0
        have y1 := blk_cell hF 1
        have y2 := blk_cell hF 2
        have y3 := blk_cell hF 3
        have y4 := blk_cell hF 4
        have y5 := blk_cell hF 5
        refine bodyPost_ret (v := .tuple #[.agg #[.slice none 0 0, .string ⟨#[]⟩, .slice none 0 0, .string ⟨#[]⟩, .bool false, .int .i64 0], .int .i64 0, .int .i64 2]) (by simp [results, Tryz.results7, go_sem, y0, y1, y2, y3, y4, y5]) rfl ⟨.slice none 0 0, .slice none 0 0, by rw [HE0.out]; rfl, by rw [HE0.out]; exact no_QV _ _, hBF⟩
  · have e0 : parseQ s = (⟨[], [], [], [], false, 0⟩, 0, 2) := by unfold parseQ; rw [if_neg hl]
    rw [e0]
    have hd : (1024 : Int) < (s.length : Int) := by omega
    clear e0
    go_enter Tryz.func7, Tryz.ntmps7
    go_wp2_with fail
    refine bodyPost_ret (v := .tuple #[.agg #[.slice none 0 0, .string ⟨#[]⟩, .slice none 0 0, .string ⟨#[]⟩, .bool false, .int .i64 0], .int .i64 0, .int .i64 2]) (by simp [results, Tryz.results7, go_sem]) rfl ⟨.slice none 0 0, .slice none 0 0, rfl, no_QV _ _, ?_⟩
    first | exact (Below.refl _ _).alloc (Nat.le_refl _) _ | skip
end Go.Proofs.YthhemephaabblaaGreatDoor.Hq
namespace Go.Proofs.YthhemephaabblaaGreatDoor.Hq
open Go.RowKit Go.Proofs.YthhemephaabblaaGreatDoorW.PrintWords Go.Proofs.YthhemephaabblaaGreatDoorW.PrintLast Go.Proofs.YthhemephaabblaaGreatDoorW.PrintMore Go.Proofs.YthhemephaabblaaGreatDoor Go.Proofs.YthhemephaabblaaGreatDoor.Q Go.Proofs.YthhemephaabblaaGreatDoor.R
set_option linter.unusedVariables false
set_option linter.unusedSimpArgs false
def LR (B : Nat) (w : World) (g : Nat) (v : Value) (L : List Tk) : Prop := ∃ tb o c, v = .slice (some ⟨tb, o, none⟩) L.length c ∧ L.length ≤ c ∧ tb < B ∧ B ≤ w.heap.size ∧ tb ≠ g ∧ (∃ cs, w.heap[tb]? = some (.cells cs 74 (0, 0))) ∧
  ∀ ix x, L[ix]? = some x → w.cell? ⟨tb, o + 3 * ix, none⟩ = some (.int .i64 (rk x.kind)) ∧ w.cell? ⟨tb, o + 3 * ix + 1, none⟩ = some (.int .i64 (x.place : Int)) ∧ w.cell? ⟨tb, o + 3 * ix + 2, none⟩ = some (.string (strB x.says))
def RD (B : Nat) (w : World) (g : Nat) (s : List UInt8) (L : List Tk) (bad : Bool) : Prop := ∃ p v, p ≤ s.length ∧ toks s p = L ∧ g < B ∧ LR B w g v L ∧ w.heap[g]? = some (.cells #[v, .bool bad] 65 (0, 0))
def KB (w w' : World) (g : Nat) : Prop := w.heap.size ≤ w'.heap.size ∧ (∀ i, i < w.heap.size → i ≠ g → some i ≠ (none : Option Nat) → w'.heap[i]? = w.heap[i]?) ∧ w'.os = w.os ∧ w'.tape = w.tape ∧ w'.output = w.output
theorem KB.keep {w w' : World} {g : Nat} (h : KB w w' g) : KeepBut w w' g none := ⟨h.1, h.2.1⟩
theorem KB.below {w w' : World} (h : KB w w' w.heap.size) : Below w.heap.size w w' := ⟨h.2.2.1, h.2.2.2.1, h.2.2.2.2, h.1, fun k hk => h.2.1 k hk (by omega) (by simp)⟩
theorem kb_then {w w1 w2 : World} {g : Nat} (h : KB w w1 g) (hB : Below w.heap.size w1 w2) : KB w w2 g := ⟨Nat.le_trans h.1 hB.size, fun i hi hne hr => (hB.block i hi).trans (h.2.1 i hi hne hr), hB.os.trans h.2.2.1, hB.tape.trans h.2.2.2.1, hB.output.trans h.2.2.2.2⟩
theorem Sr.kb {B g : Nat} {w w' : World} {v : Value} {xs : List (List UInt8)} (h : Sr B w v xs) (hK : KB w w' g) (hg : g < B) : Sr B w' v xs := h.keep hK.keep hg
theorem LR.keep0 {B : Nat} {w w' : World} {g : Nat} {v : Value} {L : List Tk} (h : LR B w g v L) (hK : KeepBut w w' g none) : LR B w' g v L := by
  obtain ⟨tb, o, c, rfl, hc, ht, hBw, hg, hty, hx⟩ := h
  have hb := hK.2 tb (by omega) hg (by simp)
  refine ⟨tb, o, c, rfl, hc, ht, by have := hK.1; omega, hg, (by rw [hb]; exact hty), fun ix x hix => ?_⟩
  have e : ∀ k, w'.cell? ⟨tb, k, none⟩ = w.cell? ⟨tb, k, none⟩ := fun k => by simp only [World.cell?, hb]
  rw [e, e, e]
  exact hx ix x hix
theorem LR.keep {B : Nat} {w w' : World} {g : Nat} {v : Value} {L : List Tk} (h : LR B w g v L) (hK : KB w w' g) : LR B w' g v L := h.keep0 hK.keep
theorem toks_hd (s : List UInt8) (p : Nat) (hp : p ≤ s.length) : ∃ x l, toks s p = x :: l := ⟨_, _, toks_eq s p hp⟩
theorem set_keep {w : World} {g k : Nat} {v : Value} : KB w (w.setCell ⟨g, k, none⟩ v) g := ⟨by simp, fun i hi hne _ => Below.heap_setCell _ _ _ _ (by simpa using hne), rfl, rfl, rfl⟩
theorem LR.tail {B : Nat} {w : World} {g tb o c n : Nat} {x : Tk} {l : List Tk} (h : LR B w g (.slice (some ⟨tb, o, none⟩) n c) (x :: l)) : LR B w g (.slice (some ⟨tb, o + 3, none⟩) l.length (c - 1)) l := by
  obtain ⟨tb', o', c', e, hc, ht, hBw, hg, hty, hx⟩ := h
  injection e with e1 e2 e3
  injection e1 with e1
  injection e1 with e4 e5 e6
  subst e4 e5 e3
  refine ⟨tb, o + 3, c - 1, rfl, by rw [List.length_cons] at hc; omega, ht, hBw, hg, hty, fun ix y hy => ?_⟩
  have := hx (ix + 1) y (by simpa using hy)
  rw [show o + 3 * (ix + 1) = o + 3 + 3 * ix by omega] at this
  exact this
theorem keep_refl (w : World) (g : Nat) : KB w w g := ⟨Nat.le_refl _, fun _ _ _ _ => rfl, rfl, rfl, rfl⟩
theorem keep_trans {w w1 w2 : World} {g : Nat} (h : KB w w1 g) (h2 : KB w1 w2 g) : KB w w2 g := ⟨Nat.le_trans h.1 h2.1, fun i hi hne hn => (h2.2.1 i (Nat.lt_of_lt_of_le hi h.1) hne hn).trans (h.2.1 i hi hne hn), h2.2.2.1.trans h.2.2.1, h2.2.2.2.1.trans h.2.2.2.1, h2.2.2.2.2.trans h.2.2.2.2⟩
theorem tok_kind (s : List UInt8) (p : Nat) (hp : p ≤ s.length) {x : Tk} {l : List Tk} (h : toks s p = x :: l) : x.kind ≤ 5 ∧ (2 ≤ x.kind → ∃ q, q ≤ s.length ∧ toks s q = l ∧ ∃ y l', l = y :: l') := by
  have e := toks_eq s p hp
  rw [h] at e
  injection e with e1 e2
  refine ⟨by rw [e1, tokAt_tk]; exact tk_kind s _, fun hk => ?_⟩
  rw [e1] at hk
  rw [if_neg (by omega)] at e2
  have hq := tok_end s p hp
  obtain ⟨y, l', hy⟩ := toks_hd s _ hq
  exact ⟨_, hq, e2.symm, y, l', e2.trans hy⟩
theorem rk_inj {a b : Nat} (ha : a ≤ 5) (hb : b ≤ 5) (h : rk a = rk b) : a = b := by
  match a, b, ha, hb with
  | 0, 0, _, _ | 1, 1, _, _ | 2, 2, _, _ | 3, 3, _, _ | 4, 4, _, _ | 5, 5, _, _ => rfl
  | 0, 1, _, _ | 0, 2, _, _ | 0, 3, _, _ | 0, 4, _, _ | 0, 5, _, _ | 1, 0, _, _ | 1, 2, _, _ | 1, 3, _, _ | 1, 4, _, _ | 1, 5, _, _ | 2, 0, _, _ | 2, 1, _, _ | 2, 3, _, _ | 2, 4, _, _ | 2, 5, _, _ | 3, 0, _, _ | 3, 1, _, _ | 3, 2, _, _ | 3, 4, _, _ | 3, 5, _, _ | 4, 0, _, _ | 4, 1, _, _ | 4, 2, _, _ | 4, 3, _, _ | 4, 5, _, _ | 5, 0, _, _ | 5, 1, _, _ | 5, 2, _, _ | 5, 3, _, _ | 5, 4, _, _ => simp [rk] at h
theorem RD.open {B : Nat} {w : World} {g : Nat} {s : List UInt8} {L : List Tk} {bad : Bool} (h : RD B w g s L bad) : ∃ p x l tb o c, p ≤ s.length ∧ toks s p = L ∧ g < B ∧ L = x :: l ∧ LR B w g (.slice (some ⟨tb, o, none⟩) (l.length + 1) c) (x :: l) ∧ w.heap[g]? = some (.cells #[.slice (some ⟨tb, o, none⟩) (l.length + 1) c, .bool bad] 65 (0, 0)) ∧ x.kind ≤ 5 ∧
    (w.cell? ⟨tb, o, none⟩ = some (.int .i64 (rk x.kind)) ∧ w.cell? ⟨tb, o + 1, none⟩ = some (.int .i64 (x.place : Int)) ∧ w.cell? ⟨tb, o + 2, none⟩ = some (.string (strB x.says))) ∧
    (w.cell? ⟨g, 0, none⟩ = some (.slice (some ⟨tb, o, none⟩) (l.length + 1) c) ∧ w.cell? ⟨g, 1, none⟩ = some (.bool bad) ∧ w.frozen? ⟨g, 0, none⟩ = false ∧ w.frozen? ⟨g, 1, none⟩ = false) ∧
    (2 ≤ x.kind → ∃ q m, q ≤ s.length ∧ toks s q = l ∧ c = m + 2 ∧ (∃ y l', l = y :: l')) := by
  obtain ⟨p, v, hp, hL, hgB, hR, hg⟩ := h
  obtain ⟨x, l, hxl⟩ := toks_hd s p hp
  have hxl2 := hxl
  rw [hL] at hxl2
  subst hxl2
  have hR2 := hR
  obtain ⟨tb, o, c, rfl, hc, ht, hBw, hne, hty, hx⟩ := hR
  have hx0 := hx 0 x rfl
  rw [Nat.mul_zero, Nat.add_zero] at hx0
  obtain ⟨hk5, hk2⟩ := tok_kind s p hp hxl
  rw [List.length_cons] at hR2 hg hc
  refine ⟨p, x, l, tb, o, c, hp, hL, hgB, rfl, hR2, hg, hk5, hx0, ⟨blk_cell hg 0, blk_cell hg 1, blk_frozen hg 0, blk_frozen hg 1⟩, fun h2 => ?_⟩
  obtain ⟨q, hq, hql, y, l', rfl⟩ := hk2 h2
  rw [List.length_cons] at hc
  exact ⟨q, c - 2, hq, hql, by omega, y, l', rfl⟩
theorem LR.tail' {B : Nat} {w : World} {g tb o m n : Nat} {x : Tk} {l : List Tk} (h : LR B w g (.slice (some ⟨tb, o, none⟩) n (m + 2)) (x :: l)) : LR B w g (.slice (some ⟨tb, o + 3, none⟩) l.length (m + 1)) l := LR.tail h
theorem bEq_strB_ne {a b : List UInt8} (h : ¬ a = b) : ((strB a).toList == (strB b).toList) = false := by
  rw [toList_strB, toList_strB]; simpa using h
def isD (bad : Bool) (k : Nat) (wd : List UInt8) (L : List Tk) : Bool × List Tk := if bad = true then (false, L) else passL k wd L
theorem isD_true (k : Nat) (wd : List UInt8) (L : List Tk) : isD true k wd L = (false, L) := rfl
theorem isD_false (k : Nat) (wd : List UInt8) (L : List Tk) : isD false k wd L = passL k wd L := rfl
set_option maxRecDepth 100000 in
theorem is_d {B : Nat} {w : World} {g : Nat} {s : List UInt8} {L : List Tk} {bad : Bool} (h : RD B w g s L bad) (k : Nat) (hk2 : 2 ≤ k) (hk5 : k ≤ 5) (wd : List UInt8) :
    Calls Tryz.prog 23 #[.pointer (some ⟨g, 0, none⟩), .int .i64 (rk k), .string (strB wd)] w fun e w' => e = .returned (.bool (isD bad k wd L).1) ∧ RD B w' g s (isD bad k wd L).2 bad ∧ KB w w' g := by
  have H := Aside0.mk h
  obtain ⟨p, x, l, tb, o, c, hp, hL, hgB, hxl, hR, hg, hx5, ⟨t0, t1, t2⟩, ⟨c0, c1, f0, f1⟩, hq⟩ := h.open
  have HR := Aside0.mk hR
  have HGB := Aside0.mk hgB
  clear hgB
  have HG := Aside0.mk hg
  have HX := Aside0.mk hxl
  have HQ := Aside0.mk hq
  have HK := Aside0.mk (And.intro hk2 hk5)
  have HX5 := Aside0.mk hx5
  clear hp hL hxl hR hg hq hk2 hk5 hx5
  cases bad with
  | true =>
    go_enter Tryz.func23, Tryz.ntmps23
    go_wp2_with fail
    exact bodyPost_ret (v := .bool false) (by simp [results, Tryz.results23, go_sem]) rfl ⟨rfl, H.out, keep_refl _ _⟩
  | false =>
    by_cases h1 : x.kind = k
    · by_cases h2 : x.says = wd
      · have e : passL k wd L = (true, l) := by rw [HX.out]; unfold passL; exact if_pos ⟨h1, h2⟩
        obtain ⟨q, m, hq, hql, rfl, y, l', hl⟩ := HQ.out (by rw [h1]; exact HK.out.1)
        have HE := Aside0.mk e
        have HQ2 := Aside0.mk (And.intro hq hql)
        have HL := Aside0.mk hl
        subst h1 h2
        clear e hq hql hl
        go_enter Tryz.func23, Tryz.ntmps23
        go_wp2_with fail
        refine bodyPost_ret (v := .bool true) (by simp [results, Tryz.results23, go_sem]) rfl ⟨by rw [isD_false, HE.out], ?_, set_keep⟩
        rw [isD_false, HE.out]
        exact ⟨q, _, HQ2.out.1, HQ2.out.2, HGB.out, (LR.tail' HR.out).keep set_keep, blk_set HG.out 0 _⟩
      · have e : passL k wd L = (false, L) := by rw [HX.out]; unfold passL; exact if_neg (fun h => h2 h.2)
        have HE := Aside0.mk e
        have h3 := bEq_strB_ne h2
        subst h1
        clear e h2
        go_enter Tryz.func23, Tryz.ntmps23
        go_wp2_with fail
        exact bodyPost_ret (v := .bool false) (by simp [results, Tryz.results23, go_sem]) rfl ⟨by rw [isD_false, HE.out], by rw [isD_false, HE.out]; exact H.out, keep_refl _ _⟩
    · have e : passL k wd L = (false, L) := by rw [HX.out]; unfold passL; exact if_neg (fun h => h1 h.1)
      have HE := Aside0.mk e
      have h3 : ¬ rk x.kind = rk k := fun h => h1 (rk_inj HX5.out HK.out.2 h)
      clear e h1
      go_enter Tryz.func23, Tryz.ntmps23
      go_wp2_with fail
      exact bodyPost_ret (v := .bool false) (by simp [results, Tryz.results23, go_sem]) rfl ⟨by rw [isD_false, HE.out], by rw [isD_false, HE.out]; exact H.out, keep_refl _ _⟩
set_option maxRecDepth 100000 in
theorem must_d {B : Nat} {w : World} {g : Nat} {s : List UInt8} {L : List Tk} {bad : Bool} (h : RD B w g s L bad) (k : Nat) (hk2 : 2 ≤ k) (hk5 : k ≤ 5) (wd : List UInt8) :
    Calls Tryz.prog 20 #[.pointer (some ⟨g, 0, none⟩), .int .i64 (rk k), .string (strB wd)] w fun e w' => e = .returned (.tuple #[]) ∧ RD B w' g s (isD bad k wd L).2 (bad || !(isD bad k wd L).1) ∧ KB w w' g := by
  have H := Aside0.mk (is_d h k hk2 hk5 wd)
  clear h hk2 hk5
  go_enter Tryz.func20, Tryz.ntmps20
  obtain ⟨b, hb⟩ : ∃ b, b = (isD bad k wd L).1 := ⟨_, rfl⟩
  rw [← hb] at H
  have HB := Aside0.mk hb
  clear hb
  cases b with
  | true =>
    go_wp2_with (go_at_call 23; (with_reducible refine H.out.mono ?_); rintro e w2 ⟨rfl, hR2, hK2⟩; have HR2 := Aside0.mk hR2; have HK2 := Aside0.mk hK2; clear hR2 hK2)
    go_end0
    refine ⟨rfl, ?_, HK2.out⟩
    rw [← HB.out, Bool.not_true, Bool.or_false]
    exact HR2.out
  | false =>
    go_wp2_with (go_at_call 23; (with_reducible refine H.out.mono ?_); rintro e w2 ⟨rfl, hR2, hK2⟩; have HR2 := Aside0.mk hR2; have HK2 := Aside0.mk hK2; obtain ⟨p, x, l, tb, o, c, hp, hL, hgB, hxl, hR, hg, hx5, ⟨t0, t1, t2⟩, ⟨c0, c1, f0, f1⟩, hq⟩ := hR2.open; have HP := Aside0.mk (And.intro hp hL); have HXL := Aside0.mk hxl; have HRR := Aside0.mk hR; have HGB := Aside0.mk hgB; clear hgB; have HGG := Aside0.mk hg; clear hK2 hp hL hxl hR hg hx5 hq)
    go_end0
    refine ⟨rfl, ?_, keep_trans HK2.out set_keep⟩
    rw [← HB.out, Bool.not_false, Bool.or_true]
    exact ⟨_, _, HP.out.1, HP.out.2, HGB.out, (by rw [HXL.out]; exact HRR.out.keep set_keep), blk_set HGG.out 1 _⟩
end Go.Proofs.YthhemephaabblaaGreatDoor.Hq
namespace Go.Proofs.YthhemephaabblaaGreatDoor.Hq
open Go.RowKit Go.Proofs.YthhemephaabblaaGreatDoorW.PrintWords Go.Proofs.YthhemephaabblaaGreatDoorW.PrintLast Go.Proofs.YthhemephaabblaaGreatDoorW.PrintMore Go.Proofs.YthhemephaabblaaGreatDoor Go.Proofs.YthhemephaabblaaGreatDoor.Q Go.Proofs.YthhemephaabblaaGreatDoor.R
set_option linter.unusedVariables false
set_option linter.unusedSimpArgs false
theorem wordOk_toks (s : List UInt8) (p : Nat) (hp : p ≤ s.length) {x : Tk} {l : List Tk} (h : toks s p = x :: l) (hk : x.kind = 2) : nmB x.says = decide (x.says.length ≤ 16) := by
  have e : x = (tokAt s p).1 := by rw [toks_eq s p hp] at h; injection h with h1 _; exact h1.symm
  rw [tokAt_tk] at e
  subst e
  generalize runEnd isSp s p = a at hk ⊢
  unfold tk at hk ⊢
  cases hc : s[a]? with
  | none => rw [hc] at hk; simp at hk
  | some c =>
    rw [hc] at hk
    simp only at hk ⊢
    have hlt : a < s.length := (List.getElem?_eq_some_iff.1 hc).1
    have hca : s[a] = c := (List.getElem?_eq_some_iff.1 hc).2
    by_cases h1 : isSm c = true
    · simp only [if_pos h1]
      have hw : isWd c = true := by unfold isWd; simp [h1]
      have e2 : (s.drop a).takeWhile isWd = c :: (s.drop (a + 1)).takeWhile isWd := by rw [List.drop_eq_getElem_cons hlt, List.takeWhile_cons_of_pos (by rw [hca]; exact hw), hca]
      have e3 : ((s.drop a).takeWhile isWd).all isWd = true := List.all_takeWhile
      rw [e2] at e3
      simp only [e2]
      unfold nmB
      simp only
      rw [h1, e3, Bool.and_true, Bool.and_true]
    · rw [if_neg h1] at hk
      by_cases h2 : isDg c = true
      · rw [if_pos h2] at hk; simp at hk
      · rw [if_neg h2] at hk
        by_cases h3 : c = 34
        · rw [if_pos h3] at hk
          split at hk <;> simp at hk
        · rw [if_neg h3] at hk
          split at hk <;> simp at hk
def nameD (bad : Bool) (L : List Tk) : List UInt8 × Bool × List Tk := if bad = true then ([], true, L) else ((nameL L).1.getD [], !(nameL L).1.isSome, (nameL L).2)
theorem RD.says {s : List UInt8} {x : Tk} {l : List Tk} {p : Nat} (h : toks s p = x :: l) : x.says.length ≤ s.length := toksF_says s _ p x (by have e : toksF _ s p = x :: l := h; rw [e]; simp)
theorem RD.draw {B : Nat} {w w' : World} {g : Nat} {s : List UInt8} {L : List Tk} {bad : Bool} (h : RD B w g s L bad) (hh : w'.heap = w.heap) : RD B w' g s L bad := by
  obtain ⟨p, v, hp, hL, hgB, hR, hg⟩ := h
  exact ⟨p, v, hp, hL, hgB, hR.keep0 ⟨by rw [hh]; exact Nat.le_refl _, fun i _ _ _ => by rw [hh]⟩, by rw [hh]; exact hg⟩
theorem RD.set1 {B : Nat} {w : World} {g : Nat} {s : List UInt8} {L : List Tk} {bad : Bool} (h : RD B w g s L bad) (b : Bool) : RD B (w.setCell ⟨g, 1, none⟩ (.bool b)) g s L b := by
  obtain ⟨p, v, hp, hL, hgB, hR, hg⟩ := h
  exact ⟨p, v, hp, hL, hgB, hR.keep set_keep, blk_set hg 1 _⟩
set_option maxRecDepth 100000 in
theorem name_d {B : Nat} {w : World} {g : Nat} {s : List UInt8} {L : List Tk} {bad : Bool} (h : RD B w g s L bad) (hs : s.length ≤ 1000000000000) :
    Calls Tryz.prog 22 #[.pointer (some ⟨g, 0, none⟩)] w fun e w' => e = .returned (.string (strB (nameD bad L).1)) ∧ RD B w' g s (nameD bad L).2.2 (nameD bad L).2.1 ∧ KB w w' g := by
  have H := Aside0.mk h
  obtain ⟨p, x, l, tb, o, c, hp, hL, hgB, hxl, hR, hg, hx5, ⟨t0, t1, t2⟩, ⟨c0, c1, f0, f1⟩, hq⟩ := h.open
  have hsz := RD.says (hL.trans hxl)
  have hnm := rname_f x.says (by omega) 21 (by omega)
  have hwd := wordOk_toks s p hp (hL.trans hxl)
  have hC := cairnref32_Name.calls 21 (strB x.says) (nmB x.says)
  have HN := Aside0.mk hnm
  have HW := Aside0.mk hwd
  have HR := Aside0.mk hR
  have HGB := Aside0.mk hgB
  clear hgB
  have HG := Aside0.mk hg
  have HX := Aside0.mk hxl
  have HQ := Aside0.mk hq
  clear hp hL hxl hR hg hq hx5 hsz hnm hwd
  cases bad with
  | true =>
    go_enter Tryz.func22, Tryz.ntmps22
    go_wp2_with fail
    refine bodyPost_ret (v := .string (strB [])) (by simp [results, Tryz.results22, go_sem]; try rfl) rfl ⟨rfl, ?_, set_keep⟩
    exact RD.set1 H.out true
  | false =>
    obtain ⟨b, hb⟩ : ∃ b, b = nmB x.says := ⟨_, rfl⟩
    rw [← hb] at hC
    have HB := Aside0.mk hb
    have HN2 := Aside0.mk (hb ▸ HN.out : cairnref32_Name.f 21 (strB x.says) = some b)
    clear hb
    cases b with
    | false =>
      have e : nameL L = (none, L) := by
        rw [HX.out]; unfold nameL; refine if_neg (fun h => ?_)
        have := HW.out h.1
        rw [← HB.out] at this
        have h2 := h.2
        simp only [hdT, List.headD_cons] at h2
        simp [h2] at this
      have HE := Aside0.mk e
      clear e
      go_enter Tryz.func22, Tryz.ntmps22
      go_wp2_with (go_at_call 47; (with_reducible refine (hC _ HN2.out).mono ?_); rintro e w2 ⟨rfl, hd⟩; obtain ⟨kk, rfl⟩ := hd)
      refine bodyPost_ret (v := .string (strB [])) (by simp [results, Tryz.results22, go_sem]; try rfl) rfl ⟨by unfold nameD; rw [HE.out]; rfl, ?_, keep_trans ⟨by simp, fun _ _ _ _ => rfl, rfl, rfl, rfl⟩ set_keep⟩
      have e2 : nameD false L = ([], true, L) := by unfold nameD; rw [HE.out]; rfl
      rw [e2]
      exact RD.set1 (H.out.draw (w' := w.drewN kk) rfl) true
    | true =>
      by_cases h1 : x.kind = 2
      · have e : nameL L = (some x.says, l) := by
          rw [HX.out]; unfold nameL; refine if_pos ⟨h1, ?_⟩
          have := HW.out h1
          rw [← HB.out] at this
          have h4 := this.symm
          rw [decide_eq_true_eq] at h4
          exact h4
        obtain ⟨q, m, hq, hql, rfl, y, l', hl⟩ := HQ.out (by omega)
        have HE := Aside0.mk e
        have HQ2 := Aside0.mk (And.intro hq hql)
        have h3 : rk x.kind = 1 := by rw [h1]; rfl
        rw [h3] at t0
        clear e hq hql hl h1 h3
        go_enter Tryz.func22, Tryz.ntmps22
        go_wp2_with (go_at_call 47; (with_reducible refine (hC _ HN2.out).mono ?_); rintro e w2 ⟨rfl, hd⟩; obtain ⟨kk, rfl⟩ := hd)
        refine bodyPost_ret (v := .string (strB x.says)) (by simp [results, Tryz.results22, go_sem]) rfl ⟨by unfold nameD; rw [HE.out]; rfl, ?_, keep_trans ⟨by simp, fun _ _ _ _ => rfl, rfl, rfl, rfl⟩ set_keep⟩
        have e2 : nameD false L = (x.says, false, l) := by unfold nameD; rw [HE.out]; rfl
        rw [e2]
        exact ⟨q, _, HQ2.out.1, HQ2.out.2, HGB.out, ((LR.tail' HR.out).keep0 (w' := w.drewN kk) ⟨by simp, fun _ _ _ _ => rfl⟩).keep set_keep, blk_set (show (w.drewN kk).heap[g]? = _ from HG.out) 0 _⟩
      · have e : nameL L = (none, L) := by rw [HX.out]; unfold nameL; exact if_neg (fun h => h1 h.1)
        have HE := Aside0.mk e
        have h3 : ¬ rk x.kind = 1 := fun h => h1 (by rcases x with ⟨k, sy, pl⟩; simp only at h ⊢; match k, h with | 2, _ => rfl | 0, h | 1, h | 3, h | 4, h | _ + 5, h => simp [rk] at h)
        clear e h1
        go_enter Tryz.func22, Tryz.ntmps22
        go_wp2_with (go_at_call 47; (with_reducible refine (hC _ HN2.out).mono ?_); rintro e w2 ⟨rfl, hd⟩; obtain ⟨kk, rfl⟩ := hd)
        refine bodyPost_ret (v := .string (strB [])) (by simp [results, Tryz.results22, go_sem]; try rfl) rfl ⟨by unfold nameD; rw [HE.out]; rfl, ?_, keep_trans ⟨by simp, fun _ _ _ _ => rfl, rfl, rfl, rfl⟩ set_keep⟩
        have e2 : nameD false L = ([], true, L) := by unfold nameD; rw [HE.out]; rfl
        rw [e2]
        exact RD.set1 (H.out.draw (w' := w.drewN kk) rfl) true
end Go.Proofs.YthhemephaabblaaGreatDoor.Hq
namespace Go.Proofs.YthhemephaabblaaGreatDoor.Hq
open Go.RowKit Go.Proofs.YthhemephaabblaaGreatDoorW.PrintWords Go.Proofs.YthhemephaabblaaGreatDoorW.PrintLast Go.Proofs.YthhemephaabblaaGreatDoorW.PrintMore Go.Proofs.YthhemephaabblaaGreatDoor Go.Proofs.YthhemephaabblaaGreatDoor.Q Go.Proofs.YthhemephaabblaaGreatDoor.R
set_option linter.unusedVariables false
set_option linter.unusedSimpArgs false
theorem RD.lt {B : Nat} {w : World} {g : Nat} {s : List UInt8} {L : List Tk} {bad : Bool} (h : RD B w g s L bad) : g < B ∧ B ≤ w.heap.size := by
  obtain ⟨p, v, hp, hL, hgB, ⟨tb, o, c, e, hc, ht, hBw, _⟩, hg⟩ := h
  exact ⟨hgB, hBw⟩
theorem RD.below {B : Nat} {w w' : World} {g : Nat} {s : List UInt8} {L : List Tk} {bad : Bool} (h : RD B w g s L bad) (hb : Below B w w') : RD B w' g s L bad := by
  obtain ⟨p, v, hp, hL, hgB, ⟨tb, o, c, e, hc, ht, hBw, hne, hty, hx⟩, hg⟩ := h
  have ht' := hb.block tb ht
  refine ⟨p, v, hp, hL, hgB, ⟨tb, o, c, e, hc, ht, Nat.le_trans hBw hb.size, hne, (by rw [ht']; exact hty), fun ix x hix => ?_⟩, by rw [hb.block g hgB]; exact hg⟩
  have e : ∀ k, w'.cell? ⟨tb, k, none⟩ = w.cell? ⟨tb, k, none⟩ := fun k => by simp only [World.cell?, ht']
  rw [e, e, e]
  exact hx ix x hix
theorem isD_rest {bad : Bool} {k : Nat} {wd : List UInt8} {L L' : List Tk} (h : isD bad k wd L = (false, L')) : L' = L := by
  unfold isD at h
  split at h
  · exact (Prod.mk.inj h).2.symm
  · exact pass_no h
theorem isD_got {bad : Bool} {k : Nat} {wd : List UInt8} {L L' : List Tk} (h : isD bad k wd L = (true, L')) : bad = false ∧ passL k wd L = (true, L') := by
  unfold isD at h
  split at h
  · cases h
  · rename_i hb; exact ⟨by simpa using hb, h⟩
theorem sr_one {B : Nat} {w : World} (hB : B ≤ w.heap.size) (c : List UInt8) : Sr B (w.alloc (.cells #[.string (strB c)] 9)) (.slice (some ⟨w.heap.size, 0, none⟩) 1 1) [c] := by
  refine ⟨rfl, .inr ⟨w.heap.size, 1, #[.string (strB c)], rfl, hB, heap_alloc_new _ _, Nat.le_refl _, ?_, rfl, rfl⟩⟩
  decide
def colsR (n : Nat) (acc : List (List UInt8)) (L : List Tk) : Option (List (List UInt8)) × List Tk := if (passL 5 wComma L).1 = true then colsL n acc (passL 5 wComma L).2 else (some acc, L)
theorem colsL_R (n : Nat) (acc : List (List UInt8)) (L : List Tk) : colsL (n + 1) acc L = match nameL L with
    | (none, L1) => (none, L1)
    | (some c, L1) => colsR n (acc ++ [c]) L1 := rfl
def colsD (bad : Bool) (L : List Tk) : Option (List (List UInt8)) × List Tk := if bad = true then (none, L) else columnsL L
def ColsJ (B : Nat) (w : World) (g : Nat) (s : List UInt8) (F : Option (List (List UInt8)) × List Tk) (n : Nat) (v3 : Value) (wr : World) : Prop :=
  ∃ acc L1 bd, acc.length + n = 8 ∧ RD B wr g s L1 bd ∧ Sr w.heap.size wr v3 acc ∧ KB w wr g ∧ F = if bd = true then (none, L1) else colsR n acc L1
set_option maxRecDepth 100000 in
set_option maxHeartbeats 3200000 in
theorem columns_d {B : Nat} {w : World} {g : Nat} {s : List UInt8} {L : List Tk} {bad : Bool} (h : RD B w g s L bad) (hs : s.length ≤ 1000000000000) :
    Calls Tryz.prog 21 #[.pointer (some ⟨g, 0, none⟩)] w fun e w' => ∃ v cs, e = .returned v ∧ RD B w' g s (colsD bad L).2 (!(colsD bad L).1.isSome) ∧ Sr w.heap.size w' v cs ∧ (∀ cs', (colsD bad L).1 = some cs' → cs = cs') ∧ KB w w' g := by
  have hlt := h.lt
  rcases hp : isD bad 5 wStar L with ⟨b, L1⟩
  have hc : Calls Tryz.prog 23 #[.pointer (some ⟨g, 0, none⟩), .int .i64 4, .string ⟨#[42]⟩] w fun e w' => e = .returned (.bool b) ∧ RD B w' g s L1 bad ∧ KB w w' g := by
    have := is_d h 5 (by omega) (by omega) wStar
    rw [hp] at this
    exact this
  have HP := Aside0.mk hp
  have HLT := Aside0.mk hlt
  clear hp h hlt
  cases b with
  | true =>
    obtain ⟨rfl, hp⟩ := isD_got HP.out
    have e : colsD false L = (some [], L1) := by show columnsL L = _; unfold columnsL; rw [if_pos (by rw [hp]), hp]
    have HE := Aside0.mk e
    clear e hp
    go_enter Tryz.func21, Tryz.ntmps21
    go_wp2_with (go_at_call 23; (with_reducible refine hc.mono ?_); rintro e w1 ⟨rfl, hR, hK⟩; have HR1 := Aside0.mk hR; have HK1 := Aside0.mk hK; clear hR hK)
    go_ret
    rw [HE.out]
    exact ⟨_, [], rfl, HR1.out, World.ownsRow_nil _ _ _ _, fun cs' h => Option.some.inj h, HK1.out⟩
  | false =>
    obtain rfl := isD_rest HP.out
    rcases hnm : nameD bad L1 with ⟨c, bd, L2⟩
    have HNM := Aside0.mk hnm
    clear hnm
    have hF : colsD bad L1 = if bd = true then (none, L2) else colsR 7 [c] L2 := by
      have h1 := HNM.out
      have h2 := HP.out
      unfold nameD at h1
      unfold colsD
      cases bad with
      | true => simp only [if_true, Prod.mk.injEq] at h1 ⊢; obtain ⟨_, rfl, rfl⟩ := h1; rfl
      | false =>
        rw [if_neg Bool.false_ne_true] at h1 ⊢
        rw [isD_false] at h2
        unfold columnsL
        rw [if_neg (by rw [h2]; exact Bool.false_ne_true), colsL_R]
        rcases hn : nameL L1 with ⟨o, L3⟩
        rw [hn] at h1
        simp only [Prod.mk.injEq] at h1
        obtain ⟨rfl, rfl, rfl⟩ := h1
        cases o <;> rfl
    generalize colsD bad L1 = F at hF ⊢
    have HF := Aside0.mk hF
    clear hF
    go_enter Tryz.func21, Tryz.ntmps21
    go_wp2_with (first | (go_at_call 23; (with_reducible refine hc.mono ?_); rintro e w1 ⟨rfl, hR, hK⟩; have hn := name_d hR hs; rw [HNM.out] at hn; have HK1 := Aside0.mk hK; clear hR hK) | (go_at_call 22; (with_reducible refine hn.mono ?_); rintro e w2 ⟨rfl, hR, hK⟩; have HR2 := Aside0.mk hR; have HK2 := Aside0.mk (keep_trans HK1.out hK); clear hR hK hn))
    go_loopg [3] 7 (fun kq v3 wr => ColsJ B w g s F kq v3 wr)
    case atStart =>
      exact ⟨[c], L2, bd, rfl, HR2.out.below (Below.refl _ _ |>.alloc HR2.out.lt.2 _), sr_one HK2.out.1 c, kb_then HK2.out ((Below.refl _ _).alloc HK2.out.1 _), HF.out⟩
    case round =>
    obtain ⟨acc, L3, bd3, hn, hR, hS, hKr, he⟩ := hrel
    have HE := Aside0.mk he
    have HR3 := Aside0.mk hR
    have HS3 := Aside0.mk hS
    have HK3 := Aside0.mk hKr
    obtain ⟨A5, cap5, rfl, hc5⟩ := own_form hS
    rcases hp3 : isD bd3 5 wComma L3 with ⟨b, L4⟩
    have hc3 : Calls Tryz.prog 23 #[.pointer (some ⟨g, 0, none⟩), .int .i64 4, .string ⟨#[44]⟩] wr fun e w' => e = .returned (.bool b) ∧ RD B w' g s L4 bd3 ∧ KB wr w' g := by
      have := is_d hR 5 (by omega) (by omega) wComma
      rw [hp3] at this
      exact this
    have HP3 := Aside0.mk hp3
    clear he hR hS hKr hp3 hc
    cases b with
    | false =>
      obtain rfl := isD_rest HP3.out
      go_wp2_with (go_at_call 23; (with_reducible refine hc3.mono ?_); rintro e w4 ⟨rfl, hR, hK⟩; have HR4 := Aside0.mk hR; have HK4 := Aside0.mk hK; clear hR hK)
      go_ret
      have e0 := HE.out
      have e1 := HP3.out
      cases bd3 with
      | true =>
        rw [if_pos rfl] at e0
        rw [e0]
        exact ⟨_, acc, rfl, HR4.out, HS3.out.kb HK4.out (by have := HLT.out; omega), fun cs' h => (by cases h), keep_trans HK3.out HK4.out⟩
      | false =>
        rw [isD_false] at e1
        rw [if_neg Bool.false_ne_true] at e0
        unfold colsR at e0
        rw [e1, if_neg Bool.false_ne_true] at e0
        rw [e0]
        exact ⟨_, acc, rfl, HR4.out, HS3.out.kb HK4.out (by have := HLT.out; omega), fun cs' h => Option.some.inj h, keep_trans HK3.out HK4.out⟩
    | true =>
      obtain ⟨rfl, hp4⟩ := isD_got HP3.out
      have HP4 := Aside0.mk hp4
      clear hp4
      cases gk with
      | zero =>
        have hl : acc.length = 8 := by omega
        rw [hl]
        go_wp2_with (go_at_call 23; (with_reducible refine hc3.mono ?_); rintro e w4 ⟨rfl, hR, hK⟩; have HR4 := Aside0.mk hR; have HK4 := Aside0.mk hK; obtain ⟨_, _, _, _, _, _, _, _, _, _, _, _, _, _, ⟨c0, c1, f0, f1⟩, _⟩ := hR.open; clear hR hK)
        go_ret
        have e0 := HE.out
        rw [if_neg Bool.false_ne_true] at e0
        unfold colsR at e0
        rw [HP4.out, if_pos rfl, colsL] at e0
        rw [e0]
        exact ⟨_, [], rfl, HR4.out.set1 true, World.ownsRow_nil _ _ _ _, fun cs' h => (by cases h), keep_trans HK3.out (keep_trans HK4.out set_keep)⟩
      | succ k =>
        have hl : ¬ (acc.length : Int) = 8 := by omega
        rcases hnm4 : nameD false L4 with ⟨c4, bd4, L5⟩
        have HNM4 := Aside0.mk hnm4
        clear hnm4
        go_wp2_with (first | (go_at_call 23; (with_reducible refine hc3.mono ?_); rintro e w4 ⟨rfl, hR, hK⟩; have hn4 := name_d hR hs; rw [HNM4.out] at hn4; have HK4 := Aside0.mk (keep_trans HK3.out hK); have HS4 := Aside0.mk (HS3.out.kb hK (by have := HLT.out; omega)); clear hR hK) | (go_at_call 22; (with_reducible refine hn4.mono ?_); rintro e w5 ⟨rfl, hR, hK⟩; have HR5 := Aside0.mk hR; have HK5 := Aside0.mk (keep_trans HK4.out hK); have HS5 := Aside0.mk (HS4.out.kb hK (by have := HLT.out; omega)); clear hR hK hn4) | (at_builtin; refine sr_app (W := w5) w.heap.size rfl _ _ rfl _ acc [c4] #[.string (strB c4)] rfl ?sx rfl rfl ?s1 ?s2 ?s3 ?_; (case sx => simp [Act.eval]); (case s1 => exact HS5.out); (case s2 => exact HK5.out.1); (case s3 => simp; omega); intro v1 w6 hS1 hB1 hG1; obtain ⟨A1, cp1, ev1, hcp1⟩ := own_form hS1; rw [show (acc ++ [c4]).length = acc.length + 1 by simp] at ev1; subst ev1; have HR6 := Aside0.mk (HR5.out.below (hB1.mono (by have := HLT.out; omega))); have HK6 := Aside0.mk (kb_then HK5.out hB1); have HS6 := Aside0.mk hS1; clear hS1 hB1 hG1))
        go_roundg k
        case measure => omega
        case rel =>
          refine ⟨acc ++ [c4], L5, bd4, by simp; omega, HR6.out, HS6.out, HK6.out, ?_⟩
          have e0 := HE.out
          rw [if_neg Bool.false_ne_true] at e0
          unfold colsR at e0
          rw [HP4.out, if_pos rfl, colsL_R] at e0
          have h1 := HNM4.out
          unfold nameD at h1
          rw [if_neg Bool.false_ne_true] at h1
          simp only at e0
          rw [e0]
          rcases hn : nameL L4 with ⟨o, L6⟩
          rw [hn] at h1
          simp only [Prod.mk.injEq] at h1
          obtain ⟨rfl, rfl, rfl⟩ := h1
          cases o <;> rfl
end Go.Proofs.YthhemephaabblaaGreatDoor.Hq
namespace Go.Proofs.YthhemephaabblaaGreatDoor.Hq
open Go.RowKit Go.Proofs.YthhemephaabblaaGreatDoorW.PrintWords Go.Proofs.YthhemephaabblaaGreatDoorW.PrintLast Go.Proofs.YthhemephaabblaaGreatDoorW.PrintMore Go.Proofs.YthhemephaabblaaGreatDoor Go.Proofs.YthhemephaabblaaGreatDoor.Q Go.Proofs.YthhemephaabblaaGreatDoor.R
set_option linter.unusedVariables false
set_option linter.unusedSimpArgs false
theorem signs_calls2 (w : World) : Calls Tryz.prog 33 #[] w fun e w' => ∃ bk o c, e = .returned (.slice (some ⟨bk, o, none⟩) 6 c) ∧ (∀ (j : Nat) x, opsL[j]? = some x → w'.cell? ⟨bk, o + j, none⟩ = some (sv x)) ∧ Ext w w' ∧ w.heap.size ≤ bk ∧ bk < w'.heap.size := by
  refine (cairnref32_Signs.calls (opsL.map strB) w signs_f).mono ?_
  rintro e w' ⟨v, rfl, hR, hB⟩
  obtain ⟨A, c, rfl, hc, hC⟩ := Kd.R_reads hR
  obtain ⟨hn, bk, o, rfl, hbk, hcell⟩ := strC_cells hC (by decide)
  obtain ⟨inner, ho⟩ := Kd.R_own hR
  exact ⟨bk, o, c, rfl, hcell, hB, (own_lt ho bk rfl).1, (own_lt ho bk rfl).2⟩
def testD (n : Nat) (bad : Bool) (L : List Tk) : Option Tst × List Tk := if bad = true then (none, L) else if n = 8 then (none, L) else testL L
def tval (t : Tst) : Value := .agg #[.string (strB t.col), .int .i64 t.op, .string (strB t.val)]
theorem keep_new {w w' : World} {g b k : Nat} {u : Value} (h : KB w w' g) (hb : w.heap.size ≤ b) : KB w (w'.setCell ⟨b, k, none⟩ u) g :=
  ⟨by simpa using h.1, fun i hi hne hx => (Below.heap_setCell _ _ _ _ (show i ≠ b by omega)).trans (h.2.1 i hi hne hx), h.2.2.1, h.2.2.2.1, h.2.2.2.2⟩
theorem keep_blk {w w' : World} {g b : Nat} {o : Obj} (h : KB w w' g) (hb : b ≠ g) (ho : w.heap[b]? = some o) : w'.heap[b]? = some o := (h.2.1 b (blk_lt ho) hb (by simp)).trans ho
theorem LR.below {B : Nat} {w : World} {g b k : Nat} {v u : Value} {L : List Tk} (h : LR B w g v L) (hb : B ≤ b) : LR B (w.setCell ⟨b, k, none⟩ u) g v L := by
  obtain ⟨tb, o, c, rfl, hc, ht, hBw, hg, hty, hx⟩ := h
  have ht' : (w.setCell ⟨b, k, none⟩ u).heap[tb]? = w.heap[tb]? := Below.heap_setCell _ _ _ _ (show tb ≠ b by omega)
  refine ⟨tb, o, c, rfl, hc, ht, by simpa using hBw, hg, (by rw [ht']; exact hty), fun ix x hix => ?_⟩
  have e : ∀ j, (w.setCell ⟨b, k, none⟩ u).cell? ⟨tb, j, none⟩ = w.cell? ⟨tb, j, none⟩ := fun j => by simp only [World.cell?, ht']
  rw [e, e, e]
  exact hx ix x hix
def SgJ (bd : Bool) (L1 : List Tk) (ix : Nat) (op : Int) (L' : List Tk) : Prop :=
  (op = 0 ∧ L' = L1 ∧ ∀ (j : Nat) (x : List UInt8), j < ix → opsL[j]? = some x → (isD bd 5 x L1).1 = false) ∨ (∃ (j : Nat) (x : List UInt8), op = (j : Int) + 1 ∧ opsL[j]? = some x ∧ isD bd 5 x L1 = (true, L'))
structure TeJ (B : Nat) (w : World) (g : Nat) (s : List UInt8) (c : List UInt8) (bd : Bool) (L1 : List Tk) (a tb bk o ix : Nat) (op : Int) (L' : List Tk) (wr : World) : Prop where
  rd : RD B wr g s L' bd
  za : wr.heap[a]? = some (.cells #[.string ⟨#[]⟩, .int .i64 0, .string ⟨#[]⟩] 70 (0, 0))
  zt : wr.heap[tb]? = some (.cells #[.string (strB c), .int .i64 op, .string ⟨#[]⟩] 70 (0, 0))
  sg : ∀ (j : Nat) x, opsL[j]? = some x → wr.cell? ⟨bk, o + j, none⟩ = some (sv x)
  kp : KB w wr g
  lt : bk < wr.heap.size
  j : SgJ bd L1 ix op L'
def TeP (B : Nat) (w : World) (g : Nat) (s : List UInt8) (r : Option Tst × List Tk) (e : Ending) (w' : World) : Prop := ∃ t, e = .returned (tval t) ∧ RD B w' g s r.2 (!r.1.isSome) ∧ (∀ t', r.1 = some t' → t = t') ∧ KB w w' g
theorem testD_open {n : Nat} {bad : Bool} {L L1 : List Tk} {c : List UInt8} {bd : Bool} (hn : ¬ n = 8) (h : nameD bad L = (c, bd, L1)) : testD n bad L = if bd = true then (none, L1) else (if (hdT L1).kind = 5 ∧ opN (hdT L1).says ≠ 0 then (if (hdT L1.tail).kind = 4 then (some ⟨c, (opN (hdT L1).says : Nat), (hdT L1.tail).says⟩, L1.tail.tail) else (none, L1.tail)) else (none, L1)) := by
  unfold nameD at h
  unfold testD
  cases bad with
  | true => rw [if_pos rfl] at h ⊢; simp only [Prod.mk.injEq] at h; obtain ⟨_, rfl, rfl⟩ := h; rfl
  | false =>
    rw [if_neg Bool.false_ne_true] at h ⊢
    rw [if_neg hn]
    unfold testL
    rcases hm : nameL L with ⟨o, L2⟩
    rw [hm] at h
    simp only [Prod.mk.injEq] at h
    obtain ⟨rfl, rfl, rfl⟩ := h
    cases o <;> rfl
theorem opsL_len {j : Nat} {x : List UInt8} (h : opsL[j]? = some x) : j < 6 := (List.getElem?_eq_some_iff.1 h).1
theorem opN_got {j : Nat} {x : List UInt8} (h : opsL[j]? = some x) : opN x = j + 1 := by
  have := opsL_len h
  match j, h with
  | 0, h | 1, h | 2, h | 3, h | 4, h | 5, h => obtain rfl := Option.some.inj h; decide
theorem opF_zero (w : List UInt8) : ∀ j, j ≤ 6 → (∀ ix x, ix < j → opsL[ix]? = some x → ¬ x = w) → opF w j = 0
  | 0, _, _ => rfl
  | j + 1, hj, h => by
    rw [opF_succ, if_neg, opF_zero w j (by omega) (fun ix x hix => h ix x (by omega))]
    have hlt : j < opsL.length := by show j < 6; omega
    exact fun e => h j opsL[j] (by omega) (List.getElem?_eq_getElem hlt) (by rw [← e, List.getD_eq_getElem?_getD, List.getElem?_eq_getElem hlt]; rfl)
theorem sg_none {bd : Bool} {L1 : List Tk} (h : ∀ (j : Nat) (x : List UInt8), j < 6 → opsL[j]? = some x → (isD bd 5 x L1).1 = false) : bd = true ∨ ¬ ((hdT L1).kind = 5 ∧ opN (hdT L1).says ≠ 0) := by
  cases bd with
  | true => exact .inl rfl
  | false =>
    refine .inr fun hk => hk.2 (opF_zero _ 6 (Nat.le_refl _) fun ix x hix hx e => ?_)
    have := h ix x hix hx
    rw [isD_false] at this
    unfold passL at this
    rw [if_pos ⟨hk.1, e.symm⟩] at this
    cases this
theorem pass_got {k : Nat} {wd : List UInt8} {L L' : List Tk} (h : passL k wd L = (true, L')) : (hdT L).kind = k ∧ (hdT L).says = wd ∧ L' = L.tail := by
  unfold passL at h
  split at h
  · rename_i hh; exact ⟨hh.1, hh.2, (Prod.mk.inj h).2.symm⟩
  · cases h
set_option maxRecDepth 100000 in
set_option maxHeartbeats 3200000 in
theorem test_d {B : Nat} {w : World} {g : Nat} {s : List UInt8} {L : List Tk} {bad : Bool} (h : RD B w g s L bad) (n : Nat) (hn8 : n ≤ 8) (hs : s.length ≤ 1000000000000) :
    Calls Tryz.prog 24 #[.pointer (some ⟨g, 0, none⟩), .int .i64 (n : Int)] w (TeP B w g s (testD n bad L)) := by
  have HLT := Aside0.mk h.lt
  obtain ⟨wa, hwa⟩ : ∃ W, W = w.alloc (.cells #[.string ⟨#[]⟩, .int .i64 0, .string ⟨#[]⟩] 70) := ⟨_, rfl⟩
  have H : Aside0 (RD B wa g s L bad) := ⟨by rw [hwa]; exact h.below ((Below.refl _ _).alloc h.lt.2 _)⟩
  have HZA : Aside0 (wa.heap[w.heap.size]? = some (.cells #[.string ⟨#[]⟩, .int .i64 0, .string ⟨#[]⟩] 70 (0, 0))) := ⟨by rw [hwa]; exact heap_alloc_new _ _⟩
  have HKA : Aside0 (KB w wa g) := ⟨by rw [hwa]; exact kb_then (keep_refl _ _) ((Below.refl _ _).alloc (Nat.le_refl _) _)⟩
  obtain ⟨a, ha⟩ : ∃ n, n = w.heap.size := ⟨_, rfl⟩
  rw [← ha] at HZA
  have HA := Aside0.mk ha
  have HWA := Aside0.mk hwa
  have hag : a ≠ g := by have := HLT.out; omega
  clear h ha hwa
  by_cases hn : n = 8
  · subst hn
    have e : testD 8 bad L = (none, L) := by unfold testD; cases bad <;> rfl
    rw [e]
    obtain ⟨p, x, l, tb, o, c, hp, hL, hgB, hxl, hR, hg, hx5, ⟨t0, t1, t2⟩, ⟨c0, c1, f0, f1⟩, hq⟩ := H.out.open
    have z0 := blk_cell HZA.out 0
    have z1 := blk_cell HZA.out 1
    have z2 := blk_cell HZA.out 2
    have y0 := blk_frozen HZA.out 0
    have y1 := blk_frozen HZA.out 1
    have y2 := blk_frozen HZA.out 2
    clear hp hL hgB hxl hR hg hx5 t0 t1 t2 c0 hq e
    go_enter Tryz.func24, Tryz.ntmps24
    go_upto_region 1 with fail
    rw [← HWA.out, ← HA.out]
    go_wp2_with fail
    refine bodyPost_ret (v := tval ⟨[], 0, []⟩) (by simp [results, Tryz.results24, go_sem, z0, z1, z2, tval]; try rfl) rfl ⟨⟨[], 0, []⟩, rfl, ?_, fun t' h => (by cases h), ?_⟩
    · exact (((H.out.set1 true).below (((((Below.refl _ _).setCell (show B ≤ a by have := HLT.out; have := HA.out; omega) _).setCell (show B ≤ a by have := HLT.out; have := HA.out; omega) _).setCell (show B ≤ a by have := HLT.out; have := HA.out; omega) _))))
    · exact keep_new (keep_new (keep_new (keep_trans HKA.out set_keep) (Nat.le_of_eq HA.out.symm)) (Nat.le_of_eq HA.out.symm)) (Nat.le_of_eq HA.out.symm)
  · have hn2 : ¬ (n : Int) = 8 := by omega
    rcases hnm : nameD bad L with ⟨c, bd, L1⟩
    have hc := name_d H.out hs
    rw [hnm] at hc
    have HNM := Aside0.mk hnm
    have HN := Aside0.mk hn
    clear hnm hn
    go_enter Tryz.func24, Tryz.ntmps24
    go_upto_region 1 with fail
    rw [← HWA.out, ← HA.out]
    go_upto_region 5 with (go_at_call 22; (with_reducible refine hc.mono ?_); rintro e w2 ⟨rfl, hR, hK⟩; have HR2 := Aside0.mk hR; have HK2 := Aside0.mk hK; clear hR hK)
    obtain ⟨wt, hwt⟩ : ∃ W, W = w2.alloc (.cells #[.string (strB c), .int .i64 0, .string ⟨#[]⟩] 70) := ⟨_, rfl⟩
    obtain ⟨tb, htb⟩ : ∃ n, n = w2.heap.size := ⟨_, rfl⟩
    rw [← hwt, ← htb]
    have hsz : w.heap.size < w2.heap.size := by have := blk_lt HZA.out; have := HK2.out.1; have := HA.out; omega
    have hEt : Ext w2 wt := by rw [hwt]; exact (Ext.refl _).alloc _
    have HZT : Aside0 (wt.heap[tb]? = some (.cells #[.string (strB c), .int .i64 0, .string ⟨#[]⟩] 70 (0, 0))) := ⟨by rw [hwt, htb]; exact heap_alloc_new _ _⟩
    have HRT := Aside0.mk (HR2.out.below (hEt.mono (HR2.out.lt.2)))
    have HZA2 := Aside0.mk (heap_below (keep_blk HK2.out hag HZA.out) hEt)
    have HKT := Aside0.mk (kb_then (keep_trans HKA.out HK2.out) (hEt.mono (by omega)))
    have HT := Aside0.mk (And.intro htb (And.intro hsz HA.out))
    clear hwt htb hsz hEt hc
    go_wp2_with (go_at_call 33; refine (signs_calls2 _).mono ?_; rintro e w3 ⟨bk, o, cc, rfl, hsg, hE, hbk, hbk2⟩; have HSG := Aside0.mk hsg; have HE := Aside0.mk hE; have HBK := Aside0.mk (And.intro hbk hbk2); clear hsg hE hbk hbk2)
    go_loopg [7] 6 (fun kq v7 wr => ∃ ix op L', kq + ix = 6 ∧ v7 = .int .i64 (ix : Nat) ∧ TeJ B w g s c bd L1 a tb bk o ix op L' wr)
    case atStart =>
      refine ⟨0, 0, L1, rfl, rfl, HRT.out.below (HE.out.mono HRT.out.lt.2), heap_below HZA2.out HE.out, heap_below HZT.out HE.out, HSG.out, kb_then HKT.out (HE.out.mono HKT.out.1), HBK.out.2, .inl ⟨rfl, rfl, fun j x hj => absurd hj (Nat.not_lt_zero _)⟩⟩
    case round =>
    obtain ⟨ix, op, L', hix, rfl, hJ⟩ := hrel
    have HJ := Aside0.mk hJ
    have HIX := Aside0.mk hix
    have d0 := blk_cell hJ.zt 0
    have d1 := blk_cell hJ.zt 1
    have d2 := blk_cell hJ.zt 2
    have e1 := blk_frozen hJ.zt 1
    have e2 := blk_frozen hJ.zt 2
    have z0 := blk_cell hJ.za 0
    have z1 := blk_cell hJ.za 1
    have z2 := blk_cell hJ.za 2
    have y0 := blk_frozen hJ.za 0
    have y1 := blk_frozen hJ.za 1
    have y2 := blk_frozen hJ.za 2
    have htg : tb ≠ g := by have := HLT.out; have := HT.out; omega
    have hta : tb ≠ a := by have := HT.out; omega
    have hat : a ≠ tb := by have := HT.out; omega
    have hga : g ≠ a := fun h => hag h.symm
    have hgt : g ≠ tb := fun h => htg h.symm
    rcases hJ.j with ⟨rfl, rfl, hno⟩ | ⟨j, x, rfl, hx, hgot⟩
    · cases gk with
      | zero =>
        obtain rfl : ix = 6 := by omega
        have HNO := Aside0.mk hno
        obtain ⟨p, x, l, tk, o1, c1, hp, hL, hgB, hxl, hR, hg, hx5, ⟨t0, t1, t2⟩, ⟨c0, cb, f0, f1⟩, hq⟩ := hJ.rd.open
        clear hJ hno hp hL hgB hxl hR hg hx5 hq t1 hix
        go_wp2_with fail
        have e0 : testD n bad L = (none, L') := by
          rw [testD_open HN.out HNM.out]
          rcases sg_none HNO.out with rfl | h
          · rfl
          · rw [if_neg h]; cases bd <;> rfl
        rw [e0]
        refine bodyPost_ret (v := tval ⟨c, 0, []⟩) (by simp [results, Tryz.results24, go_sem, z0, z1, z2, tval]; try rfl) rfl ⟨⟨c, 0, []⟩, rfl, ?_, fun t' h => (by cases h), ?_⟩
        · exact (((HJ.out.rd.set1 true).below (((((Below.refl _ _).setCell (show B ≤ a by have := HLT.out; have := HA.out; omega) _).setCell (show B ≤ a by have := HLT.out; have := HA.out; omega) _).setCell (show B ≤ a by have := HLT.out; have := HA.out; omega) _))))
        · exact keep_new (keep_new (keep_new (keep_trans HJ.out.kp set_keep) (Nat.le_of_eq HA.out.symm)) (Nat.le_of_eq HA.out.symm)) (Nat.le_of_eq HA.out.symm)
      | succ k =>
        have h6 : (ix : Int) < 6 := by omega
        obtain ⟨x, hxo⟩ : ∃ x, opsL[ix]? = some x := ⟨_, List.getElem?_eq_getElem (show ix < opsL.length by show ix < 6; omega)⟩
        have hsg : wr.cell? ⟨bk, o + ix, none⟩ = some (.string (strB x)) := hJ.sg ix x hxo
        rcases his : isD bd 5 x L' with ⟨b, L2⟩
        have hci : Calls Tryz.prog 23 #[.pointer (some ⟨g, 0, none⟩), .int .i64 4, .string (strB x)] wr fun e w' => e = .returned (.bool b) ∧ RD B w' g s L2 bd ∧ KB wr w' g := by
          have := is_d hJ.rd 5 (by omega) (by omega) x
          rw [his] at this
          exact this
        have HIS := Aside0.mk his
        have HXO := Aside0.mk hxo
        have HNO := Aside0.mk hno
        clear hJ hix his hxo hno
        cases b with
        | true =>
          go_wp2_with (go_at_call 23; (with_reducible refine hci.mono ?_); rintro e w4 ⟨rfl, hR, hK⟩; have HR4 := Aside0.mk hR; have HK4 := Aside0.mk hK; have v0 := blk_cell (keep_blk hK htg HJ.out.zt) 1; have v1 := blk_frozen (keep_blk hK htg HJ.out.zt) 1; clear hR hK)
          go_roundg k
          case measure => omega
          case rel =>
            refine ⟨ix + 1, (ix : Int) + 1, L2, by have := HIX.out; omega, rfl, HR4.out.below ((Below.refl _ _).setCell (show B ≤ tb by have := HLT.out; have := HT.out; omega) _), ?_, ?_, ?_, keep_new (keep_trans HJ.out.kp HK4.out) (by have := HT.out; omega), ?_, .inr ⟨ix, x, rfl, HXO.out, HIS.out⟩⟩
            · exact blk_far (keep_blk HK4.out hag HJ.out.za) hat _
            · exact blk_set (keep_blk HK4.out htg HJ.out.zt) 1 _
            · intro j2 x2 hx2
              have hb4 : (w4.setCell ⟨tb, 1, none⟩ (.int .i64 ((ix : Int) + 1))).heap[bk]? = wr.heap[bk]? := (Below.heap_setCell _ _ _ _ (show bk ≠ tb by have := HBK.out.1; have := blk_lt HZT.out; omega)).trans (HK4.out.2.1 bk HJ.out.lt (by have := HBK.out.1; have := blk_lt HZT.out; have := HLT.out; have := HT.out; omega) (by simp))
              have := HJ.out.sg j2 x2 hx2
              simp only [World.cell?, hb4] at this ⊢
              exact this
            · have := HK4.out.1
              have := HJ.out.lt
              simp
              omega
        | false =>
          go_wp2_with (go_at_call 23; (with_reducible refine hci.mono ?_); rintro e w4 ⟨rfl, hR, hK⟩; have HR4 := Aside0.mk hR; have HK4 := Aside0.mk hK; clear hR hK)
          obtain rfl := isD_rest HIS.out
          go_roundg k
          case measure => omega
          case rel =>
            refine ⟨ix + 1, 0, _, by have := HIX.out; omega, rfl, HR4.out, keep_blk HK4.out hag HJ.out.za, keep_blk HK4.out htg HJ.out.zt, ?_, keep_trans HJ.out.kp HK4.out, Nat.lt_of_lt_of_le HJ.out.lt HK4.out.1, .inl ⟨rfl, rfl, fun j2 x2 hj2 hx2 => ?_⟩⟩
            · intro j2 x2 hx2
              have hb4 : w4.heap[bk]? = wr.heap[bk]? := HK4.out.2.1 bk HJ.out.lt (by have := HBK.out.1; have := blk_lt HZT.out; have := HLT.out; have := HT.out; omega) (by simp)
              have := HJ.out.sg j2 x2 hx2
              simp only [World.cell?, hb4] at this ⊢
              exact this
            · rcases Nat.lt_or_ge j2 ix with h | h
              · exact HNO.out j2 x2 h hx2
              · obtain rfl : j2 = ix := by omega
                obtain rfl := Option.some.inj (HXO.out.symm.trans hx2)
                rw [HIS.out]
    · obtain ⟨ov, hov⟩ : ∃ v, v = (j : Int) + 1 := ⟨_, rfl⟩
      rw [← hov] at d1
      have hop : ¬ (ov = 0) := by omega
      have HOV := Aside0.mk hov
      obtain ⟨rfl, hgot⟩ := isD_got hgot
      obtain ⟨p, y, l, tk, o1, c1, hp, hL, hgB, hyl, hR, hg, hy5, ⟨t0, t1, t2⟩, ⟨c0, cb, f0, f1⟩, hq⟩ := hJ.rd.open
      have HRD := Aside0.mk (And.intro hp (And.intro hL (And.intro hgB (And.intro hyl (And.intro hR hg)))))
      have HQ := Aside0.mk hq
      have HGOT := Aside0.mk hgot
      have HX := Aside0.mk hx
      have HY5 := Aside0.mk hy5
      clear hJ hp hL hgB hyl hR hg hy5 hq t1 hx hgot hov
      have h6 : ((ix : Int) < 6) ∨ ¬ ((ix : Int) < 6) := by omega
      by_cases hk : y.kind = 4
      · have h3 : rk y.kind = 3 := by rw [hk]; rfl
        rw [h3] at t0
        obtain ⟨q, m, hq, hql, rfl, hne⟩ := HQ.out (by omega)
        have HQL := Aside0.mk (And.intro hq hql)
        clear hq hql hne
        rcases h6 with h6 | h6
        all_goals
          go_wp2_with fail
          have e0 : testD n bad L = (some ⟨c, ov, y.says⟩, l) := by
            obtain ⟨g1, g2, g3⟩ := pass_got HGOT.out
            have hY := HRD.out.2.2.2.1
            rw [testD_open HN.out HNM.out, if_neg Bool.false_ne_true, if_pos ⟨g1, by rw [g2, opN_got HX.out]; omega⟩, ← g3, hY]
            rw [if_pos (show (hdT (y :: l)).kind = 4 from hk), g2, opN_got HX.out, HOV.out]; rfl
          rw [e0]
          refine bodyPost_ret (v := tval ⟨c, ov, y.says⟩) (by simp [results, Tryz.results24, go_sem, z0, z1, z2, tval]; try rfl) rfl ⟨⟨c, ov, y.says⟩, rfl, ?_, fun t' h => Option.some.inj h, ?_⟩
          · have hRD := HRD.out
            have hb : ∀ {W : World} (k : Nat) (u : Value), RD B W g s l false → RD B (W.setCell ⟨a, k, none⟩ u) g s l false := fun k u h => h.below ((Below.refl _ _).setCell (show B ≤ a by have := HLT.out; have := HA.out; omega) _)
            refine hb _ _ (hb _ _ (hb _ _ ?_))
            have hG := blk_far hRD.2.2.2.2.2 (p := ⟨tb, 2, none⟩) hgt (.string (strB y.says))
            exact ⟨q, _, HQL.out.1, HQL.out.2, hRD.2.2.1, (LR.below (LR.tail' hRD.2.2.2.2.1) (show B ≤ tb by have := HLT.out; have := HT.out; omega)).keep set_keep, blk_set hG 0 _⟩
          · exact keep_new (keep_new (keep_new (keep_trans (keep_new HJ.out.kp (by have := HT.out; omega)) set_keep) (Nat.le_of_eq HA.out.symm)) (Nat.le_of_eq HA.out.symm)) (Nat.le_of_eq HA.out.symm)
      · obtain ⟨kv, hkv⟩ : ∃ v, v = rk y.kind := ⟨_, rfl⟩
        rw [← hkv] at t0
        have h3 : ¬ kv = 3 := fun h => hk (rk_inj (b := 4) HY5.out (by omega) (hkv.symm.trans h))
        have hopb : (ov == 0) = false := by simpa using hop
        have h3b : (kv == 3) = false := by simpa using h3
        clear hkv
        rcases h6 with h6 | h6
        all_goals
          go_wp2_with fail
          have e0 : testD n bad L = (none, L') := by
            obtain ⟨g1, g2, g3⟩ := pass_got HGOT.out
            have hY := HRD.out.2.2.2.1
            rw [testD_open HN.out HNM.out, if_neg Bool.false_ne_true, if_pos ⟨g1, by rw [g2, opN_got HX.out]; omega⟩, ← g3, hY]
            rw [if_neg (show ¬ (hdT (y :: l)).kind = 4 from hk)]
          rw [e0]
          refine bodyPost_ret (v := tval ⟨c, ov, []⟩) (by simp [results, Tryz.results24, go_sem, z0, z1, z2, tval]; try rfl) rfl ⟨⟨c, ov, []⟩, rfl, ?_, fun t' h => (by cases h), ?_⟩
          · exact (((HJ.out.rd.set1 true).below (((((Below.refl _ _).setCell (show B ≤ a by have := HLT.out; have := HA.out; omega) _).setCell (show B ≤ a by have := HLT.out; have := HA.out; omega) _).setCell (show B ≤ a by have := HLT.out; have := HA.out; omega) _))))
          · exact keep_new (keep_new (keep_new (keep_trans HJ.out.kp set_keep) (Nat.le_of_eq HA.out.symm)) (Nat.le_of_eq HA.out.symm)) (Nat.le_of_eq HA.out.symm)
end Go.Proofs.YthhemephaabblaaGreatDoor.Hq
namespace Go.Proofs
open Go.Shelf Go.RowKit
theorem Tryz.strconv_Atoi_err (s : ByteArray) (hl : s.size ≤ 18) (h : Lib.atoi s.data.toList = none) (tp : TypeId) (p : Value) (w : World) (hvar : w.var? Tryz.prog "strconv.ErrSyntax" = some #[.iface tp p]) :
    Calls Tryz.prog 48 #[.string s] w fun e w' => ∃ N, ∃ T, e = .returned (.tuple #[.int .i64 0, .iface T (.pointer (some ⟨N, 0, none⟩))]) ∧ Below w.heap.size w w' := by
  refine (Any.strconv_Atoi_err_var Tryz.laysC172 s hl h tp p w hvar).mono ?_
  rintro e w' ⟨N, rfl, _, _, hb⟩
  exact ⟨N, _, rfl, hb⟩
end Go.Proofs
namespace Go.Proofs.YthhemephaabblaaGreatDoor.Hq
open Go.RowKit Go.Proofs.YthhemephaabblaaGreatDoorW.PrintWords Go.Proofs.YthhemephaabblaaGreatDoorW.PrintLast Go.Proofs.YthhemephaabblaaGreatDoorW.PrintMore Go.Proofs.YthhemephaabblaaGreatDoor Go.Proofs.YthhemephaabblaaGreatDoor.Q Go.Proofs.YthhemephaabblaaGreatDoor.R
set_option linter.unusedVariables false
set_option linter.unusedSimpArgs false
structure Glob2 (w : World) : Prop where
  tab : Glob w
  syn : ∃ tp p, w.var? Tryz.prog "strconv.ErrSyntax" = some #[.iface tp p]
def limN (l : List UInt8) : Int := if l.length ≤ 9 ∧ l.head? ≠ some 48 then (Lib.atoi l).getD 0 else 0
theorem atoi_any (l : List UInt8) (hl : l.length ≤ 18) (w : World) (hG : Glob2 w) : Calls Tryz.prog 48 #[.string (strB l)] w fun e w' => ∃ er, e = .returned (.tuple #[.int .i64 ((Lib.atoi l).getD 0), er]) ∧ Below w.heap.size w w' := by
  have hd : (strB l).data.toList = l := rfl
  cases hn : Lib.atoi l with
  | none =>
    obtain ⟨tp, p, hv⟩ := hG.syn
    refine (Tryz.strconv_Atoi_err (strB l) (by have := strB_size l; omega) (by rw [hd]; exact hn) tp p w hv).mono ?_
    rintro e w' ⟨N, T, rfl, hb⟩
    exact ⟨_, rfl, hb⟩
  | some n =>
    refine (strconv_Atoi.calls (strB l) n none w (by unfold strconv_Atoi.f; rw [if_pos (by have := strB_size l; omega), hd, hn]; rfl)).mono ?_
    rintro e w' ⟨rfl, hb⟩
    exact ⟨_, rfl, hb⟩
set_option maxRecDepth 100000 in
theorem limit_d (l : List UInt8) (w : World) (hG : Glob2 w) : Calls Tryz.prog 25 #[.string (strB l)] w fun e w' => e = .returned (.int .i64 (limN l)) ∧ Below w.heap.size w w' := by
  have hsz := strB_size l
  have HG := Aside0.mk hG
  clear hG
  by_cases h9 : l.length ≤ 9
  · match l, h9, hsz with
    | [], _, _ =>
      have key : Calls Tryz.prog 25 #[.string ⟨#[]⟩] w fun e w' => e = .returned (.int .i64 0) ∧ Below w.heap.size w w' := by
        go_enter Tryz.func25, Tryz.ntmps25
        go_wp2_with fail
        exact bodyPost_ret (v := .int .i64 0) (by simp [results, Tryz.results25, go_sem]) rfl ⟨rfl, Below.refl _ _⟩
      exact key
    | c :: r, h9, hsz =>
      have hc := atoi_any (c :: r) (by omega) w HG.out
      have hE : (strB (c :: r)).toList.isEmpty = false := by rw [toList_strB]; rfl
      have hI : ∀ h, ((strB (c :: r))[0]'h) = c := fun _ => rfl
      have hz : (strB (c :: r)).size = r.length + 1 := hsz
      have h9' : ¬ ((9 : Int) < (r.length : Int) + 1) := by rw [List.length_cons] at h9; omega
      have h9b : decide ((9 : Int) < (r.length : Int) + 1) = false := decide_eq_false h9'
      have HS := Aside0.mk h9
      clear hsz h9
      by_cases h48 : c = 48
      · have hv : limN (c :: r) = 0 := by unfold limN; rw [if_neg]; rintro ⟨_, h⟩; exact h (by rw [h48]; rfl)
        have hb : (c.toNat : Int) = 48 := by rw [h48]; rfl
        rw [hv]
        clear h48 hv hc
        go_enter Tryz.func25, Tryz.ntmps25
        go_wp2_with fail
        exact bodyPost_ret (v := .int .i64 0) (by simp [results, Tryz.results25, go_sem]) rfl ⟨rfl, Below.refl _ _⟩
      · have hv : limN (c :: r) = (Lib.atoi (c :: r)).getD 0 := by unfold limN; rw [if_pos ⟨HS.out, fun h => h48 (Option.some.inj h)⟩]
        have hb : ¬ (c.toNat : Int) = 48 := fun h => h48 (by rw [← UInt8.toNat_inj]; show c.toNat = 48; omega)
        rw [hv]
        generalize (Lib.atoi (c :: r)).getD 0 = zz at hc ⊢
        clear h48 hv
        go_enter Tryz.func25, Tryz.ntmps25
        go_wp2_with (go_at_call 48; (with_reducible refine hc.mono ?_); rintro e w2 ⟨er, rfl, hb2⟩; have HB := Aside0.mk hb2; clear hb2)
        exact bodyPost_ret (v := .int .i64 zz) (by simp [results, Tryz.results25, go_sem]) rfl ⟨rfl, HB.out⟩
  · have h9' : (9 : Int) < (l.length : Int) := by omega
    have hv : limN l = 0 := by unfold limN; rw [if_neg]; rintro ⟨h, _⟩; exact h9 h
    rw [hv]
    go_enter Tryz.func25, Tryz.ntmps25
    go_wp2_with fail
    exact bodyPost_ret (v := .int .i64 0) (by simp [results, Tryz.results25, go_sem]) rfl ⟨rfl, Below.refl _ _⟩
end Go.Proofs.YthhemephaabblaaGreatDoor.Hq
namespace Go.Proofs.YthhemephaabblaaGreatDoor.Hq
open Go.RowKit Go.Lib
set_option linter.unusedVariables false
set_option linter.unusedSimpArgs false
theorem var_iface {H : Type} {enc : TypeId × Value → H} {P : Program} {w : World} {base : Nat} {sp : Nat → Bool} {held : Bool} {fuel : Nat} {ti : TypeId} {ms : Array (String × TypeId)} {cs : List Value} {n : String} {d : DataW H} {p : List MemPlace}
    (hi : P.underlying ti = some (.interface ms)) (h : DataW.trod enc P w base sp held fuel ti cs = some (.iface n d, p)) : ∃ tp v, cs = [.iface tp v] := by
  cases fuel with
  | zero => simp [DataW.trod] at h
  | succ m =>
    unfold DataW.trod at h
    rw [hi] at h
    split at h <;> simp_all
def laidL : List (String × DataW Unit) := [("math/bits.deBruijn32tab", Rows.laid_math_bits_deBruijn32tab), ("math/bits.deBruijn64tab", Rows.laid_math_bits_deBruijn64tab), ("internal/strconv.uint64pow10", Rows.laid_internal_strconv_uint64pow10), ("strconv.ErrRange", Rows.laid_strconv_ErrRange), ("strconv.ErrSyntax", Rows.laid_strconv_ErrSyntax)]
theorem syn_at {P : Program} {n nm : String} {d : DataW Unit} {r : List (String × DataW Unit)} {W : World} {g : Nat} {ti : TypeId} {ms : Array (String × TypeId)} (h : laidMet P ((n, .iface nm d) :: r) W) (hg : P.globalNamed n = some g) (ht : (P.globals[g]?).map (·.type) = some ti) (hi : P.underlying ti = some (.interface ms)) : ∃ tp p, W.var? P n = some #[.iface tp p] := by
  obtain ⟨ps, ⟨g0, t0, cs0, f0, p0, q0, hg0, ht0, hv0, hd0, _, e0⟩, _, hrows⟩ := h
  obtain rfl := Option.some.inj (hg.symm.trans hg0)
  obtain rfl := Option.some.inj (ht.symm.trans ht0)
  obtain ⟨l0⟩ := cs0
  obtain ⟨tp, v, rfl⟩ := var_iface hi hd0
  exact ⟨tp, v, hv0⟩
theorem glob_of_laid {W : World} (h : laidMet Tryz.prog laidL W) : Glob2 W := by
  have hp : laidMet Tryz.prog (("internal/strconv.uint64pow10", Lib.tabData .u64 Lib.pow10Tab) :: [("strconv.ErrRange", Rows.laid_strconv_ErrRange), ("strconv.ErrSyntax", Rows.laid_strconv_ErrSyntax)]) W := h.tail.tail
  refine ⟨⟨Lib.tabIs_of_head (g := 3) (t := 183) (e := 156) (n := 20) (by kernel_rfl) (by kernel_rfl) Tryz.underlying183 Tryz.underlying156 (by kernel_rfl) (by kernel_rfl) hp⟩, ?_⟩
  have hs : laidMet Tryz.prog (("strconv.ErrSyntax", Rows.laid_strconv_ErrSyntax) :: []) W := hp.tail.tail
  exact syn_at (g := 0) hs (by kernel_rfl) (by kernel_rfl) Tryz.underlying91
noncomputable def put (h : Array Obj) (g : Nat) (cs : Array Value) : Array Obj := h.modify g fun
  | .cells _ t frozen => .cells cs t frozen
  | o => o
def b32 : List Int := [0, 1, 28, 2, 29, 14, 24, 3, 30, 22, 20, 15, 25, 17, 4, 8, 31, 27, 13, 23, 21, 19, 16, 7, 26, 12, 18, 6, 11, 5, 10, 9]
def b64 : List Int := [0, 1, 56, 2, 57, 49, 28, 3, 61, 58, 42, 50, 38, 29, 17, 4, 62, 47, 59, 36, 45, 43, 51, 22, 53, 39, 33, 30, 24, 18, 12, 5, 63, 55, 48, 27, 60, 41, 37, 16, 46, 35, 44, 21, 52, 32, 23, 11, 54, 26, 40, 15, 34, 20, 31, 10, 25, 14, 19, 9, 13, 8, 7, 6]
noncomputable def laidWorld (os : Os) : World :=
  let N := (World.settled Tryz.prog os).heap.size
  let w0 := World.holding Tryz.prog os ⟨#[.cells #[.string ⟨#[105, 110, 118, 97, 108, 105, 100, 32, 115, 121, 110, 116, 97, 120]⟩] 190, .cells #[.string ⟨#[118, 97, 108, 117, 101, 32, 111, 117, 116, 32, 111, 102, 32, 114, 97, 110, 103, 101]⟩] 190], #[], []⟩
  let h0 := put (put w0.heap 0 #[.iface 188 (.pointer (some ⟨N, 0, none⟩))]) 1 #[.iface 188 (.pointer (some ⟨N + 1, 0, none⟩))]
  let h1 := put (put (put h0 3 (Lib.pow10Tab.map (Value.int .u64)).toArray) 4 (b32.map (Value.int .u8)).toArray) 5 (b64.map (Value.int .u8)).toArray
  { w0 with heap := h1 }
theorem laid_met (os : Os) (args : Array Value) : laidMet Tryz.prog laidL ((laidWorld os).forCall (fun _ _ => 0) ⟨#[], args, []⟩).memory :=
  laidMet_of_run' 8 (by kernel_rfl) (by kernel_rfl)
end Go.Proofs.YthhemephaabblaaGreatDoor.Hq
namespace Go.Proofs.YthhemephaabblaaGreatDoor.Hq
open Go.RowKit Go.Proofs.YthhemephaabblaaGreatDoorW.PrintWords Go.Proofs.YthhemephaabblaaGreatDoorW.PrintLast Go.Proofs.YthhemephaabblaaGreatDoorW.PrintMore Go.Proofs.YthhemephaabblaaGreatDoor Go.Proofs.YthhemephaabblaaGreatDoor.Q Go.Proofs.YthhemephaabblaaGreatDoor.R
set_option linter.unusedVariables false
set_option linter.unusedSimpArgs false
def Te (B : Nat) (w : World) (v : Value) (ts : List Tst) : Prop := w.ownsRow B 70 3 v ts.length (ts.flatMap tcells)
theorem info70 : (Tryz.prog.info? 70).map (fun i => (i.zero, i.size, i.bytes)) = some (some (.agg #[.string ⟨#[]⟩, .int .i64 0, .string ⟨#[]⟩]), 3, 40) := by kernel_rfl
theorem Te.keep {B g : Nat} {w w' : World} {v : Value} {ts : List Tst} (h : Te B w v ts) (hK : KB w w' g) (hg : g < B) : Te B w' v ts := own_keep h hK.keep hg
theorem Te.far {B g k : Nat} {w : World} {v u : Value} {ts : List Tst} (h : Te B w v ts) (hg : g < B) : Te B (w.setCell ⟨g, k, none⟩ u) v ts := by
  exact h.keep (g := g) set_keep hg
theorem Te.ext {B : Nat} {w w' : World} {v : Value} {ts : List Tst} (h : Te B w v ts) (hE : Ext w w') : Te B w' v ts := own_ext h hE
theorem te_run_app {B b c : Nat} {W : World} (ty : TypeId) {v : Value} {ts : List Tst} {t : Tst} {fr : Nat × Nat} (hO : Te B W v ts) (hb : W.heap[b]? = some (.cells #[.string (strB t.col), .int .i64 t.op, .string (strB t.val)] 70 fr)) (hB : B ≤ W.heap.size) (hl : ts.length ≤ 1000000000) :
    ∃ v1 w1, (Builtin.append_ #[29, 29] ty #[v, .slice (some ⟨b, 0, none⟩) 1 c]).run Tryz.prog W = .ok v1 w1 ∧ Te B w1 v1 (ts ++ [t]) ∧ W.grownBy w1 v.ownBlock ∧ Te B w1 v ts := by
  obtain ⟨i0, hi, hzz⟩ := Option.map_eq_some_iff.1 info70
  simp only [Prod.mk.injEq] at hzz
  obtain ⟨hz0, hz1, hz2⟩ := hzz
  obtain ⟨v1, w1, hr, hown, hg, hold⟩ := own_run_app (P := Tryz.prog) 29 ty 70 i0 _ 3 40 Tryz.underlying29 hi hz0 hz1 hz2 rfl (by decide) (by decide) hO ⟨b, 0, none⟩ 1 c (tcells t) rfl (World.news_of_block hb) (by intro u hu; simp only [tcells, List.mem_cons, List.not_mem_nil, or_false] at hu; rcases hu with rfl | rfl | rfl <;> rfl) (by omega) hB
  refine ⟨v1, w1, hr, ?_, hg, hold⟩
  unfold Te
  rw [List.length_append, List.flatMap_append]
  exact (by simpa using hown)
theorem te_C {B : Nat} {w : World} {v : Value} {ts : List Tst} (h : Te B w v ts) (hl : ts.length ≤ 1000000000) : ∃ A c, v = .slice A ts.length c ∧ ts.length ≤ c ∧ Kd.C k70 w A ts.length (ts.map t70) := by
  obtain ⟨A, c, rfl, hc⟩ := own_form h
  refine ⟨A, c, rfl, hc, by rw [List.length_map], by omega, fun hp => ?_⟩
  rcases h.2 with ⟨he, h0⟩ | ⟨g, cap, cur, he, _⟩
  · omega
  · injection he with hA _ _
    subst hA
    refine ⟨_, rfl, fun j p hj => ⟨[.string p.f0, .int .i64 p.f1, .string p.f2], rfl, k70_mk w p, fun i u hu => ?_⟩⟩
    have hi : i < 3 := (List.getElem?_eq_some_iff.1 hu).1
    have e : k70.sz = 3 := rfl
    rw [e]
    refine World.ownsRow.cells h (g := g) rfl _ _ ?_
    rw [List.getElem?_map] at hj
    cases hx : ts[j]? with
    | none => rw [hx] at hj; cases hj
    | some y =>
      rw [hx] at hj
      obtain rfl := Option.some.inj hj
      rw [flat_get ts j i y hx hi]
      exact hu
theorem k74_C {w : World} {A : Option Addr} {xs : List Tk} (h : Kd.C k74 w A xs.length (xs.map rtok)) (hp : 0 < xs.length) : ∃ bk o, A = some ⟨bk, o, none⟩ ∧ ∀ ix x, xs[ix]? = some x → w.cell? ⟨bk, o + 3 * ix, none⟩ = some (.int .i64 (rk x.kind)) ∧ w.cell? ⟨bk, o + 3 * ix + 1, none⟩ = some (.int .i64 (x.place : Int)) ∧ w.cell? ⟨bk, o + 3 * ix + 2, none⟩ = some (.string (strB x.says)) := by
  obtain ⟨hl, hn, hx1⟩ := h
  obtain ⟨a, rfl, hx⟩ := hx1 hp
  have key : ∀ ix x, xs[ix]? = some x → ∀ j u, [Value.int .i64 (rk x.kind), .int .i64 (x.place : Int), .string (strB x.says)][j]? = some u → w.cell? (a.add (3 * ix + j)) = some u := by
    intro ix x hix j u hu
    obtain ⟨cs, hcl, hK, hc⟩ := hx ix (rtok x) (by rw [List.getElem?_map, hix]; rfl)
    rw [k74_open hK] at hc
    have := hc j u hu
    rw [show k74.sz = 3 from rfl, Nat.mul_comm] at this
    exact this
  have h0 : ∃ x, xs[0]? = some x := ⟨_, List.getElem?_eq_getElem hp⟩
  obtain ⟨x0, hx0⟩ := h0
  have ha := spot_none (show w.cell? a = some _ from by have := key 0 x0 hx0 0 _ rfl; simpa [Addr.add] using this)
  refine ⟨a.block, a.off, congrArg some ha, fun ix x hix => ?_⟩
  have k0 := key ix x hix 0 _ rfl
  have k1 := key ix x hix 1 _ rfl
  have k2 := key ix x hix 2 _ rfl
  rw [ha] at k0 k1 k2
  rw [addr_add] at k0 k1 k2
  rw [Nat.add_assoc, Nat.add_assoc]
  exact ⟨k0, k1, k2⟩
theorem toks_ne (s : List UInt8) : 0 < (toks s 0).length := by rw [toks_eq s 0 (Nat.zero_le _)]; simp
theorem own_type {base e size n k o c : Nat} {w : World} {L : List Value} (h : w.ownsRow base e size (.slice (some ⟨k, o, none⟩) n c) n L) : ∃ cs, w.heap[k]? = some (.cells cs e (0, 0)) := by
  rcases h.2 with ⟨he, _⟩ | ⟨k2, cap, cur, he, hb, hh, _⟩
  · cases he
  · injection he with e1 e2 e3
    injection e1 with e1
    injection e1 with e4 e5 e6
    subst e4
    exact ⟨cur, hh⟩
theorem tokens_d (s : List UInt8) (hs : s.length ≤ 1000000000000) (w : World) : Calls Tryz.prog 19 #[.string (strB s)] w fun e w' => ∃ v, e = .returned v ∧ Below w.heap.size w w' ∧ ∃ tb o c, v = .slice (some ⟨tb, o, none⟩) (toks s 0).length c ∧ (toks s 0).length ≤ c ∧ w.heap.size ≤ tb ∧ tb < w'.heap.size ∧ (∃ cs, w'.heap[tb]? = some (.cells cs 74 (0, 0))) ∧
    ∀ ix x, (toks s 0)[ix]? = some x → w'.cell? ⟨tb, o + 3 * ix, none⟩ = some (.int .i64 (rk x.kind)) ∧ w'.cell? ⟨tb, o + 3 * ix + 1, none⟩ = some (.int .i64 (x.place : Int)) ∧ w'.cell? ⟨tb, o + 3 * ix + 2, none⟩ = some (.string (strB x.says)) := by
  refine (cairnref32_Tokens.calls (4 * s.length + 31) (strB s) ((toks s 0).map rtok) w (tokens_f s hs _ (by omega))).mono ?_
  rintro e w' ⟨v, rfl, hR, hB⟩
  obtain ⟨A, c, rfl, hc, hC⟩ := Kd.R_reads hR
  obtain ⟨inner, ho⟩ := Kd.R_own hR
  rw [List.length_map] at hC hc ho ⊢
  obtain ⟨bk, o, rfl, hcell⟩ := k74_C hC (toks_ne s)
  exact ⟨_, rfl, hB, bk, o, c, rfl, hc, (own_lt ho bk rfl).1, (own_lt ho bk rfl).2, own_type ho, hcell⟩
theorem RD.start {s : List UInt8} {w : World} {tb o c : Nat} (hc : (toks s 0).length ≤ c) (ht : tb < w.heap.size) (hty : ∃ cs, w.heap[tb]? = some (.cells cs 74 (0, 0)))
    (hx : ∀ ix x, (toks s 0)[ix]? = some x → w.cell? ⟨tb, o + 3 * ix, none⟩ = some (.int .i64 (rk x.kind)) ∧ w.cell? ⟨tb, o + 3 * ix + 1, none⟩ = some (.int .i64 (x.place : Int)) ∧ w.cell? ⟨tb, o + 3 * ix + 2, none⟩ = some (.string (strB x.says))) :
    RD (w.heap.size + 1) (w.alloc (.cells #[.slice (some ⟨tb, o, none⟩) (toks s 0).length c, .bool false] 65)) w.heap.size s (toks s 0) false := by
  have hbt : (w.alloc (.cells #[.slice (some ⟨tb, o, none⟩) (toks s 0).length c, .bool false] 65)).heap[tb]? = w.heap[tb]? := ((Ext.refl w).alloc _).block tb ht
  refine ⟨0, _, Nat.zero_le _, rfl, by omega, ⟨tb, o, c, rfl, hc, by omega, by simp, by omega, (by rw [hbt]; exact hty), fun ix x hix => ?_⟩, heap_alloc_new _ _⟩
  have hb : (w.alloc (.cells #[.slice (some ⟨tb, o, none⟩) (toks s 0).length c, .bool false] 65)).heap[tb]? = w.heap[tb]? := ((Ext.refl w).alloc _).block tb ht
  have := hx ix x hix
  simp only [World.cell?, hb] at this ⊢
  exact this
end Go.Proofs.YthhemephaabblaaGreatDoor.Hq
namespace Go.Proofs.YthhemephaabblaaGreatDoor.Hq
open Go.RowKit Go.ChangeShapes Go.WideShapes Go.ChangeAt Go.Proofs.YthhemephaabblaaGreatDoorW.PrintWords Go.Proofs.YthhemephaabblaaGreatDoorW.PrintLast Go.Proofs.YthhemephaabblaaGreatDoorW.PrintMore Go.Proofs.YthhemephaabblaaGreatDoor Go.Proofs.YthhemephaabblaaGreatDoor.Q Go.Proofs.YthhemephaabblaaGreatDoor.R
set_option linter.unusedVariables false
set_option linter.unusedSimpArgs false
section
variable {H : Type} {enc : TypeId × Value → H} {w : World} {fuel : Nat} {v : Value}
end
end Go.Proofs.YthhemephaabblaaGreatDoor.Hq
namespace Go.Proofs.YthhemephaabblaaGreatDoor.Hq
open Go.RowKit Go.Proofs.YthhemephaabblaaGreatDoorW.PrintWords Go.Proofs.YthhemephaabblaaGreatDoorW.PrintLast Go.Proofs.YthhemephaabblaaGreatDoorW.PrintMore Go.Proofs.YthhemephaabblaaGreatDoor Go.Proofs.YthhemephaabblaaGreatDoor.Q Go.Proofs.YthhemephaabblaaGreatDoor.R
set_option linter.unusedVariables false
set_option linter.unusedSimpArgs false
theorem own_app2 {P : Program} {base : Nat} {W : World} (t ty e : TypeId) (i : TypeInfo) (z : Value) (size bytes : Nat) (ht : P.underlying t = some (.slice e)) (hi : P.info? e = some i) (hz : i.zero = some z) (hsize : i.size = size) (hby : i.bytes = bytes) (hzs : z.cells.size = size) (hsz : 0 < size) (hb0 : 0 < bytes)
    {v : Value} {n : Nat} {L : List Value} (hown : W.ownsRow base e size v n L) (A : Option Addr) (m c : Nat) (news : List Value) (hl : news.length = m * size) (hnews : 0 < m → ∃ a, A = some a ∧ ∀ j u, news[j]? = some u → W.cell? (a.add j) = some u) (h1 : ∀ u ∈ news, u.oneCell' = true)
    (hbytes : (n + m) * bytes ≤ 140737488355328) (hbase : base ≤ W.heap.size) :
    ∃ v1 w1, (Builtin.append_ #[t, t] ty #[v, .slice A m c]).run P W = .ok v1 w1 ∧ w1.ownsRow base e size v1 (n + m) (L ++ news) ∧ W.grownBy w1 v.ownBlock ∧ ∀ u n' L', (n' ≤ n ∨ (n' ≤ n + m ∧ L' = (L ++ news).take (n' * size))) → W.ownsRow base e size u n' L' → w1.ownsRow base e size u n' L' := by
  have hlen : n + m ≤ 140737488355328 := Nat.le_trans (Nat.le_mul_of_pos_right _ hb0) hbytes
  rcases Nat.eq_zero_or_pos m with h0 | h0
  · subst h0
    have hn0 : news = [] := List.eq_nil_of_length_eq_zero (by omega)
    subst hn0
    refine ⟨v, W, ?_, by simpa using hown, ⟨rfl, rfl, rfl, Nat.le_refl _, fun _ _ _ => rfl⟩, fun u n' L' _ h => h⟩
    rcases hown.2 with ⟨rfl, hn⟩ | ⟨g, cap, cur, rfl, hb, hh, hnc, hcm, hcs, ht2⟩
    · cases A with
      | none => simp [Builtin.append_, run_underlying ht, sizeOf, typeInfo, hi, Builtin.lenOf, Builtin.firstCells, storeCells]
      | some a => simp [Builtin.append_, run_underlying ht, sizeOf, typeInfo, hi, Builtin.lenOf, Builtin.firstCells, storeCells, loadCells, loadCellsFrom]
    · cases A with
      | none => simp [Builtin.append_, run_underlying ht, sizeOf, typeInfo, hi, Builtin.lenOf, Builtin.firstCells, storeCells, hnc]
      | some a => simp [Builtin.append_, run_underlying ht, sizeOf, typeInfo, hi, Builtin.lenOf, Builtin.firstCells, storeCells, loadCells, loadCellsFrom, hnc]
  · obtain ⟨a, rfl, hnw⟩ := hnews h0
    obtain ⟨v1, w1, hr, hown1, hg, _, _⟩ := run_append_own_at (P := P) W base t ty e i z size bytes ht hi hz hsize hby hzs hsz v n L hown a m c news hl hnw h1 (by simp only [maxLen]; omega) hbytes hbase
    refine ⟨v1, w1, hr, hown1, hg, fun u n' L' hn' hu => ?_⟩
    by_cases hne : u.ownBlock = none ∨ v.ownBlock ≠ u.ownBlock
    · refine World.ownsRow.kept hu hg ?_
      rcases hne with h | h
      · exact .inl h
      · exact .inr (fun e => h e.symm)
    · have hub : u.ownBlock ≠ none := fun e => hne (.inl e)
      have hvu : v.ownBlock = u.ownBlock := by
        by_cases h : v.ownBlock = u.ownBlock
        · exact h
        · exact absurd (.inr h) hne
      rcases hu.2 with ⟨rfl, _⟩ | ⟨g, cap, cur, rfl, hb, hh, hnc, hcm, hcs, htk⟩
      · exact absurd rfl hub
      rcases hown.2 with ⟨rfl, _⟩ | ⟨g', cap', cur', rfl, hb', hh', hnc', hcm', hcs', htk'⟩
      · exact absurd hvu.symm hub
      have hgg : g' = g := by simpa [Value.ownBlock] using hvu
      subst hgg
      rw [hh] at hh'
      cases hh'
      have hcc : cap = cap' := Nat.eq_of_mul_eq_mul_right hsz (hcs.symm.trans hcs')
      subst hcc
      have hcl : cur.toList.length = cap * size := by simp [hcs]
      have hns : n * size ≤ cap * size := Nat.mul_le_mul_right _ hnc'
      by_cases hroom : n + m ≤ cap
      · have hmul : (n + m) * size ≤ cap * size := Nat.mul_le_mul_right _ hroom
        rw [Nat.add_mul] at hmul
        have hr2 := run_append_room (P := P) W t ty e i ht hi g' n cap cur hh a m c news (by rw [hl, hsize]) hnw h1 hroom (by rw [hsize, hl, hcs]; omega)
        rw [hr2] at hr
        injection hr with _ hw
        subst hw
        refine ⟨hu.1, .inr ⟨g', cap, _, rfl, hb, setRow_heap _ _ _ _ _ _ hh, hnc, hcm, ?_, ?_⟩⟩
        · rw [hsize, List.size_toArray, List.length_append, List.length_append, List.length_take, List.length_drop, hcl, hl]
          omega
        · rw [hsize]
          rcases hn' with hn' | ⟨hn', hL'⟩
          · have hns' : n' * size ≤ n * size := Nat.mul_le_mul_right _ hn'
            rw [List.append_assoc, List.take_append_of_le_length (by rw [List.length_take, hcl]; omega), List.take_take, Nat.min_eq_left hns']
            exact htk
          · have hns' : n' * size ≤ (n + m) * size := Nat.mul_le_mul_right _ hn'
            rw [Nat.add_mul] at hns'
            rw [htk', List.take_append_of_le_length (by rw [List.length_append, hown.1, hl]; exact hns')]
            exact hL'.symm
      · have hL : L.length = n * i.size := by rw [hsize]; exact hown.1
        have hr2 := run_append_grow (P := P) W t ty e i z ht hi hz ⟨g', 0, none⟩ n cap L hL (fun j u hu => hown.cells (g := g') rfl j u hu) a m c news (by rw [hl, hsize]) hnw (by omega) (by omega) (growslice_fits (by omega) (by rw [hby]; omega))
        rw [hr2] at hr
        injection hr with _ hw
        subst hw
        exact own_ext hu (((Ext.refl W).drew).alloc _)
def wMark : List UInt8 := [109, 97, 114, 107]
def SpM (B : Nat) (X : List (List UInt8)) (W W' : World) : Prop := Below B W W' ∧ ∀ u xs, (xs.length ≤ X.length ∨ xs = [wMark] ∨ xs = X ++ [wMark]) → Sr B W u xs → Sr B W' u xs
def tMark : Tst := ⟨[], 77, []⟩
def SpT (B : Nat) (X : List Tst) (W W' : World) : Prop := Below B W W' ∧ (∀ u xs, (xs.length ≤ X.length ∨ xs = [tMark] ∨ xs = X ++ [tMark]) → Tr B W u xs → Tr B W' u xs) ∧ ∀ u xs, Sr B W u xs → Sr B W' u xs
end Go.Proofs.YthhemephaabblaaGreatDoor.Hq
namespace Go.Proofs.YthhemephaabblaaGreatDoor.Hq
open Go.RowKit Go.Proofs.YthhemephaabblaaGreatDoorW.PrintWords Go.Proofs.YthhemephaabblaaGreatDoorW.PrintLast Go.Proofs.YthhemephaabblaaGreatDoorW.PrintMore Go.Proofs.YthhemephaabblaaGreatDoor Go.Proofs.YthhemephaabblaaGreatDoor.Q Go.Proofs.YthhemephaabblaaGreatDoor.R
set_option linter.unusedVariables false
set_option linter.unusedSimpArgs false
def MR (B : Nat) (X : List (List UInt8)) (i : Nat) (W W' : World) : Prop := if i = 5 then SpM B X W W' else Ext W W'
theorem MR.ne {B i : Nat} {X : List (List UInt8)} {W W' : World} (h : i ≠ 5) (hR : MR B X i W W') : Ext W W' := by unfold MR at hR; rw [if_neg h] at hR; exact hR
theorem MR.of {B : Nat} {X : List (List UInt8)} {W W' : World} (h : SpM B X W W') : MR B X 5 W W' := by unfold MR; rw [if_pos rfl]; exact h
theorem MR.below {B i : Nat} {X : List (List UInt8)} {w W W' : World} (hB : Below B w W) (hs : B ≤ W.heap.size) (hR : MR B X i W W') : Below B w W' := by
  by_cases hi : i = 5
  · unfold MR at hR; rw [if_pos hi] at hR; exact hB.trans hR.1
  · exact hB.trans ((hR.ne hi).mono hs)
def MT (B : Nat) (X : List Tst) (i : Nat) (W W' : World) : Prop := if i = 4 then SpT B X W W' else Ext W W'
theorem MT.ne {B i : Nat} {X : List Tst} {W W' : World} (h : i ≠ 4) (hR : MT B X i W W') : Ext W W' := by unfold MT at hR; rw [if_neg h] at hR; exact hR
theorem MT.of {B : Nat} {X : List Tst} {W W' : World} (h : SpT B X W W') : MT B X 4 W W' := by unfold MT; rw [if_pos rfl]; exact h
theorem MT.below {B i : Nat} {X : List Tst} {w W W' : World} (hB : Below B w W) (hs : B ≤ W.heap.size) (hR : MT B X i W W') : Below B w W' := by
  by_cases hi : i = 4
  · unfold MT at hR; rw [if_pos hi] at hR; exact hB.trans hR.1
  · exact hB.trans ((hR.ne hi).mono hs)
end Go.Proofs.YthhemephaabblaaGreatDoor.Hq
namespace Go.Proofs.YthhemephaabblaaGreatDoor.Hq
open Go.RowKit Go.Proofs.YthhemephaabblaaGreatDoorW.PrintWords Go.Proofs.YthhemephaabblaaGreatDoorW.PrintLast Go.Proofs.YthhemephaabblaaGreatDoorW.PrintMore Go.Proofs.YthhemephaabblaaGreatDoor Go.Proofs.YthhemephaabblaaGreatDoor.Q Go.Proofs.YthhemephaabblaaGreatDoor.R
set_option linter.unusedVariables false
set_option linter.unusedSimpArgs false
set_option maxRecDepth 100000 in
set_option maxHeartbeats 3200000 in
theorem same_calls (q : Qry) (A5 : Option Addr) (c5 : Nat) (A7 : Option Addr) (c7 : Nat) (B5 : Option Addr) (d5 : Nat) (B7 : Option Addr) (d7 : Nat) (w : World) (h5 : Kd.C Kd.string w A5 q.cols.length (q.cols.map strB)) (hc5 : q.cols.length ≤ c5) (h7 : Kd.C k37 w A7 q.wh.length (q.wh.map t37)) (hc7 : q.wh.length ≤ c7)
    (g5 : Kd.C Kd.string w B5 q.cols.length (q.cols.map strB)) (hd5 : q.cols.length ≤ d5) (g7 : Kd.C k70 w B7 q.wh.length (q.wh.map t70)) (hd7 : q.wh.length ≤ d7) (hl5 : q.cols.length ≤ 1000000000000) (hl7 : q.wh.length ≤ 1000000000000) :
    Calls Tryz.prog 10 #[qval q (.slice A5 q.cols.length c5) (.slice A7 q.wh.length c7), qval q (.slice B5 q.cols.length d5) (.slice B7 q.wh.length d7)] w fun e w' => e = .returned (.bool true) ∧ Ext w w' := by
  unfold qval
  have H5 := Aside0.mk h5
  have H7 := Aside0.mk h7
  have G5 := Aside0.mk g5
  have G7 := Aside0.mk g7
  clear h5 h7 g5 g7
  go_enter Tryz.func10, Tryz.ntmps10
  go_upto_region 1 with fail
  obtain ⟨w2, hw2⟩ : ∃ W, W = ((w.alloc (.cells #[.slice A5 q.cols.length c5, .string (strB q.tab), .slice A7 q.wh.length c7, .string (strB q.ord), .bool q.down, .int .i64 q.lim] 25)).alloc (.cells #[.slice B5 q.cols.length d5, .string (strB q.tab), .slice B7 q.wh.length d7, .string (strB q.ord), .bool q.down, .int .i64 q.lim] 31)) := ⟨_, rfl⟩
  have hzp : w2.heap[w.heap.size]? = some (.cells #[.slice A5 q.cols.length c5, .string (strB q.tab), .slice A7 q.wh.length c7, .string (strB q.ord), .bool q.down, .int .i64 q.lim] 25 (0, 0)) := by rw [hw2]; exact (Array.getElem?_push_lt (by simp)).trans (by simpa using heap_alloc_new w _)
  have hzq : w2.heap[w.heap.size + 1]? = some (.cells #[.slice B5 q.cols.length d5, .string (strB q.tab), .slice B7 q.wh.length d7, .string (strB q.ord), .bool q.down, .int .i64 q.lim] 31 (0, 0)) := by rw [hw2]; have := heap_alloc_new (w.alloc (.cells #[.slice A5 q.cols.length c5, .string (strB q.tab), .slice A7 q.wh.length c7, .string (strB q.ord), .bool q.down, .int .i64 q.lim] 25)) (.cells #[.slice B5 q.cols.length d5, .string (strB q.tab), .slice B7 q.wh.length d7, .string (strB q.ord), .bool q.down, .int .i64 q.lim] 31); simpa using this
  have hE2 : Ext w w2 := by rw [hw2]; exact ((Ext.refl w).alloc _).alloc _
  rw [← hw2]
  obtain ⟨pb, hpb⟩ : ∃ n, n = w.heap.size := ⟨_, rfl⟩
  obtain ⟨qb, hqb⟩ : ∃ n, n = w.heap.size + 1 := ⟨_, rfl⟩
  rw [← hqb, ← hpb]
  rw [← hpb] at hzp
  rw [← hqb] at hzq
  have HE2 := Aside0.mk hE2
  have HZP := Aside0.mk hzp
  have HZQ := Aside0.mk hzq
  have z0 := blk_cell hzp 0
  have y0 := blk_cell hzq 0
  have z1 := blk_cell hzp 1
  have y1 := blk_cell hzq 1
  have z2 := blk_cell hzp 2
  have y2 := blk_cell hzq 2
  have z3 := blk_cell hzp 3
  have y3 := blk_cell hzq 3
  have z4 := blk_cell hzp 4
  have y4 := blk_cell hzq 4
  have z5 := blk_cell hzp 5
  have y5 := blk_cell hzq 5
  clear hw2 hpb hqb hzp hzq hE2
  go_wp2_with fail
  go_loopw [55] (fun s55 W => ∃ j : Nat, j ≤ q.cols.length ∧ s55 = .int .i64 j ∧ Ext w2 W) (fun v _ => q.cols.length - (intOf v).toNat)
  case atStart => exact ⟨0, by omega, rfl, Ext.refl _⟩
  case round =>
  clear z0 z1 z2 z3 z4 z5 y0 y1 y2 y3 y4 y5
  obtain ⟨wo, hwo⟩ : ∃ wo : World, wo = wr := ⟨_, rfl⟩
  subst hwo
  obtain ⟨j, hj, rfl, hX⟩ := hrel
  have HX := Aside0.mk hX
  have HXX := Aside0.mk (HE2.out.trans hX)
  clear hX
  by_cases hlt : j < q.cols.length
  · have hb : (j : Int) < q.cols.length := by omega
    obtain ⟨_, a5, o5, rfl, _, hcell⟩ := strC_cells (Kd.C_below H5.out HXX.out) (by omega)
    obtain ⟨_, a6, o6, rfl, _, hcell2⟩ := strC_cells (Kd.C_below G5.out HXX.out) (by omega)
    obtain ⟨x, hx⟩ : ∃ x, q.cols[j]? = some x := ⟨_, List.getElem?_eq_getElem hlt⟩
    have HC5 : Aside0 (wo.cell? ⟨a5, o5 + j, none⟩ = some (.string (strB x))) := ⟨hcell j x hx⟩
    have HC6 : Aside0 (wo.cell? ⟨a6, o6 + j, none⟩ = some (.string (strB x))) := ⟨hcell2 j x hx⟩
    have HZ0 : Aside0 (wo.cell? ⟨pb, 0, none⟩ = some (.slice (some ⟨a5, o5, none⟩) q.cols.length c5)) := ⟨cell_ext HX.out (blk_cell HZP.out 0)⟩
    have HY0 : Aside0 (wo.cell? ⟨qb, 0, none⟩ = some (.slice (some ⟨a6, o6, none⟩) q.cols.length d5)) := ⟨cell_ext HX.out (blk_cell HZQ.out 0)⟩
    have HLT := Aside0.mk hb
    have HLT2 := Aside0.mk (show (0 : Int) ≤ (j : Int) by omega)
    clear hcell hcell2 hx
    go_upto_region 6 with fail
    clear hb
    refine ext_region 11 [(0, 58), (1, 59), (2, 60), (3, 61), (4, 62), (5, 63), (6, 64), (7, 65), (8, 66), (9, 67), (10, 68)] [0, 1, 2, 3, 4, 5, 6, 7, 8, 9, 10] (fun i w v => match i with | 0 => v = .pointer (some ⟨pb, 0, none⟩) | 1 => v = .slice (some ⟨a5, o5, none⟩) q.cols.length c5 | 2 => v = .int .i64 (j : Nat) | 3 => v = .pointer (some ⟨a5, o5 + j, none⟩) | 4 => v = .string (strB x) | 5 => v = .pointer (some ⟨qb, 0, none⟩) | 6 => v = .slice (some ⟨a6, o6, none⟩) q.cols.length d5 | 7 => v = .int .i64 (j : Nat) | 8 => v = .pointer (some ⟨a6, o6 + j, none⟩) | 9 => v = .string (strB x) | 10 => v = .bool false | _ => True) (by kernel_rfl) (by kernel_rfl) (by rfl) rfl ?mono6 ?steps6 ?fin6
    case mono6 =>
      intro i w w' v h hE
      match i with
      | 0 => exact h
      | 1 => exact h
      | 2 => exact h
      | 3 => exact h
      | 4 => exact h
      | 5 => exact h
      | 6 => exact h
      | 7 => exact h
      | 8 => exact h
      | 9 => exact h
      | 10 => exact h
      | _ + 11 => trivial
    case steps6 =>
      refine stepE_cons ⟨_, rfl, fun a w hE hH => ?_⟩ ?_
      ·
        have e2 : a.tmps[2]? = some (.pointer (some ⟨pb, 0, none⟩)) := hH.old 2 rfl
        exact Or.inl ⟨rfl, goodE_val (.pointer (some ⟨pb, 0, none⟩)) (by simp [execOp, Act.eval, e2, go_sem]) rfl⟩
      refine stepE_cons ⟨_, rfl, fun a w hE hH => ?_⟩ ?_
      ·
        obtain ⟨v58, e58, g58⟩ := hH.dep 0 58 rfl (by kernel_rfl)
        have q58 : v58 = .pointer (some ⟨pb, 0, none⟩) := g58
        subst q58
        have hc := cell_ext ((Ext.to_drew _).trans hE) HZ0.out
        exact Or.inl ⟨(rfl), goodE_val (.slice (some ⟨a5, o5, none⟩) q.cols.length c5) (by simp [execOp, Act.eval, e58, hc, go_sem]) rfl⟩
      refine stepE_cons ⟨_, rfl, fun a w hE hH => ?_⟩ ?_
      ·
        have e5 : a.tmps[5]? = some (.int .i64 (j : Nat)) := hH.old 5 rfl
        exact Or.inl ⟨rfl, goodE_move _ rfl (eval_of e5) rfl⟩
      refine stepE_cons ⟨_, rfl, fun a w hE hH => ?_⟩ ?_
      ·
        obtain ⟨v59, e59, g59⟩ := hH.dep 1 59 rfl (by kernel_rfl)
        have q59 : v59 = .slice (some ⟨a5, o5, none⟩) q.cols.length c5 := g59
        subst q59
        obtain ⟨v60, e60, g60⟩ := hH.dep 2 60 rfl (by kernel_rfl)
        have q60 : v60 = .int .i64 (j : Nat) := g60
        subst q60
        exact Or.inl ⟨(rfl), goodE_val (.pointer (some ⟨a5, o5 + j, none⟩)) (by simp [execOp, Act.eval, e59, e60, Addr.add, HLT.out, HLT2.out, go_sem]; try (intro h0; first | (rw [h0]; rfl) | omega)) rfl⟩
      refine stepE_cons ⟨_, rfl, fun a w hE hH => ?_⟩ ?_
      ·
        obtain ⟨v61, e61, g61⟩ := hH.dep 3 61 rfl (by kernel_rfl)
        have q61 : v61 = .pointer (some ⟨a5, o5 + j, none⟩) := g61
        subst q61
        have hc := cell_ext ((Ext.to_drew _).trans hE) HC5.out
        exact Or.inl ⟨(rfl), goodE_val (.string (strB x)) (by simp [execOp, Act.eval, e61, hc, go_sem]) rfl⟩
      refine stepE_cons ⟨_, rfl, fun a w hE hH => ?_⟩ ?_
      ·
        have e3 : a.tmps[3]? = some (.pointer (some ⟨qb, 0, none⟩)) := hH.old 3 rfl
        exact Or.inl ⟨rfl, goodE_val (.pointer (some ⟨qb, 0, none⟩)) (by simp [execOp, Act.eval, e3, go_sem]) rfl⟩
      refine stepE_cons ⟨_, rfl, fun a w hE hH => ?_⟩ ?_
      ·
        obtain ⟨v63, e63, g63⟩ := hH.dep 5 63 rfl (by kernel_rfl)
        have q63 : v63 = .pointer (some ⟨qb, 0, none⟩) := g63
        subst q63
        have hc := cell_ext ((Ext.to_drew _).trans hE) HY0.out
        exact Or.inl ⟨(rfl), goodE_val (.slice (some ⟨a6, o6, none⟩) q.cols.length d5) (by simp [execOp, Act.eval, e63, hc, go_sem]) rfl⟩
      refine stepE_cons ⟨_, rfl, fun a w hE hH => ?_⟩ ?_
      ·
        have e5 : a.tmps[5]? = some (.int .i64 (j : Nat)) := hH.old 5 rfl
        exact Or.inl ⟨rfl, goodE_move _ rfl (eval_of e5) rfl⟩
      refine stepE_cons ⟨_, rfl, fun a w hE hH => ?_⟩ ?_
      ·
        obtain ⟨v64, e64, g64⟩ := hH.dep 6 64 rfl (by kernel_rfl)
        have q64 : v64 = .slice (some ⟨a6, o6, none⟩) q.cols.length d5 := g64
        subst q64
        obtain ⟨v65, e65, g65⟩ := hH.dep 7 65 rfl (by kernel_rfl)
        have q65 : v65 = .int .i64 (j : Nat) := g65
        subst q65
        exact Or.inl ⟨(rfl), goodE_val (.pointer (some ⟨a6, o6 + j, none⟩)) (by simp [execOp, Act.eval, e64, e65, Addr.add, HLT.out, HLT2.out, go_sem]; try (intro h0; first | (rw [h0]; rfl) | omega)) rfl⟩
      refine stepE_cons ⟨_, rfl, fun a w hE hH => ?_⟩ ?_
      ·
        obtain ⟨v66, e66, g66⟩ := hH.dep 8 66 rfl (by kernel_rfl)
        have q66 : v66 = .pointer (some ⟨a6, o6 + j, none⟩) := g66
        subst q66
        have hc := cell_ext ((Ext.to_drew _).trans hE) HC6.out
        exact Or.inl ⟨(rfl), goodE_val (.string (strB x)) (by simp [execOp, Act.eval, e66, hc, go_sem]) rfl⟩
      refine stepE_cons ⟨_, rfl, fun a w hE hH => ?_⟩ ?_
      ·
        obtain ⟨v62, e62, g62⟩ := hH.dep 4 62 rfl (by kernel_rfl)
        have q62 : v62 = .string (strB x) := g62
        subst q62
        obtain ⟨v67, e67, g67⟩ := hH.dep 9 67 rfl (by kernel_rfl)
        have q67 : v67 = .string (strB x) := g67
        subst q67
        exact Or.inl ⟨rfl, goodE_val (.bool false) (by simp [execOp, Act.eval, e67, e62, go_sem]) rfl⟩
      exact stepE_nil
    rintro vals wz hE hV
    have k68 : vals 10 = .bool false := hV 10 (by simp) rfl
    simp only [List.map_cons, List.map_nil, putAll, Act.put, List.setIfInBounds_toArray, List.set_cons_zero, List.set_cons_succ, k68]
    have HX2 : Aside0 (Ext w2 wz) := ⟨HX.out.trans ((Ext.to_drew _).trans hE)⟩
    clear hE hV
    go_wp2_with fail
    go_roundw
    case rel => exact ⟨j + 1, by omega, by go_num, HX2.out⟩
    case measure => simp [intOf]; omega
  · obtain rfl : j = q.cols.length := by omega
    have hb : ¬ ((q.cols.length : Int) < q.cols.length) := by omega
    have y2 : wo.cell? ⟨qb, 2, none⟩ = some (.slice B7 q.wh.length d7) := cell_ext HX.out (blk_cell HZQ.out 2)
    go_wp2_with fail
    clear hb y2
    go_loopw [73] (fun s73 W => ∃ j : Nat, j ≤ q.wh.length ∧ s73 = .int .i64 j ∧ Ext w2 W) (fun v _ => q.wh.length - (intOf v).toNat)
    case atStart => exact ⟨0, by omega, rfl, HX.out⟩
    case round =>
    clear HX HXX
    obtain ⟨wp, hwp⟩ : ∃ wp : World, wp = wr := ⟨_, rfl⟩
    subst hwp
    obtain ⟨j, hj, rfl, hX⟩ := hrel
    have HX := Aside0.mk hX
    have HXX := Aside0.mk (HE2.out.trans hX)
    by_cases hlt : j < q.wh.length
    · have hb : (j : Int) < q.wh.length := by omega
      obtain ⟨t, ht⟩ : ∃ t, t = q.wh[j] := ⟨_, rfl⟩
      obtain ⟨ad, hA, d1, d2, d3⟩ := at_T37 (Kd.C_below H7.out HXX.out) (j : Int) (by omega) hb
      obtain ⟨ad2, hA2, f1, f2, f3⟩ := at_T70 (Kd.C_below G7.out HXX.out) (j : Int) (by omega) hb
      rw [rd37 _ _ hlt, ← ht] at d1 d2 d3
      rw [rd70 _ _ hlt, ← ht] at f1 f2 f3
      simp only [t37, t70, Int.toNat_natCast] at d1 d2 d3 f1 f2 f3
      subst hA hA2
      have y2 : wp.cell? ⟨qb, 2, none⟩ = some (.slice (some ad2) q.wh.length d7) := cell_ext hX (blk_cell HZQ.out 2)
      have HD1 := Aside0.mk d1
      have HD2 := Aside0.mk d2
      have HD3 := Aside0.mk d3
      clear ht d1 d2 d3 hX
      go_upto_region 13 with fail
      obtain ⟨wt, hwt⟩ : ∃ W, W = wp.alloc (.cells #[.string (strB t.col), .int .i64 t.op, .string (strB t.val)] 70) := ⟨_, rfl⟩
      have hE1 : Ext wp wt := by rw [hwt]; exact (Ext.refl _).alloc _
      have hzt : wt.heap[wp.heap.size]? = some (.cells #[.string (strB t.col), .int .i64 t.op, .string (strB t.val)] 70 (0, 0)) := by rw [hwt]; exact heap_alloc_new _ _
      obtain ⟨tb, htb⟩ : ∃ n, n = wp.heap.size := ⟨_, rfl⟩
      rw [← htb] at hzt
      rw [← hwt, ← htb]
      have HD1 := Aside0.mk (cell_ext hE1 HD1.out)
      have HD2 := Aside0.mk (cell_ext hE1 HD2.out)
      have HD3 := Aside0.mk (cell_ext hE1 HD3.out)
      have HT0 : Aside0 (wt.cell? ⟨tb, 0, none⟩ = some (.string (strB t.col))) := ⟨blk_cell hzt 0⟩
      have HT1 : Aside0 (wt.cell? ⟨tb, 1, none⟩ = some (.int .i64 t.op)) := ⟨blk_cell hzt 1⟩
      have HT2 : Aside0 (wt.cell? ⟨tb, 2, none⟩ = some (.string (strB t.val))) := ⟨blk_cell hzt 2⟩
      have HZ2 : Aside0 (wt.cell? ⟨pb, 2, none⟩ = some (.slice (some ad) q.wh.length c7)) := ⟨cell_ext (HX.out.trans hE1) (blk_cell HZP.out 2)⟩
      have HXt := Aside0.mk (HX.out.trans hE1)
      have HLT := Aside0.mk hb
      have HLT2 := Aside0.mk (show (0 : Int) ≤ (j : Int) by omega)
      clear hwt hE1 hzt htb y2 f1 f2 f3 hb
      refine ext_region 13 [(0, 81), (1, 82), (2, 83), (3, 84), (4, 85), (5, 86), (6, 87), (7, 88), (8, 89), (9, 90), (10, 91), (11, 92), (12, 93)] [0, 1, 2, 3, 4, 5, 6, 7, 8, 9, 10, 11, 12] (fun i w v => match i with | 0 => v = .pointer (some ⟨pb, 2, none⟩) | 1 => v = .slice (some ad) q.wh.length c7 | 2 => v = .int .i64 (j : Nat) | 3 => v = .pointer (some (ad.add (j * 3))) | 4 => v = .agg #[.string (strB t.col), .int .i64 t.op, .string (strB t.val)] | 5 => v = .pointer (some ⟨tb, 0, none⟩) | 6 => v = .string (strB t.col) | 7 => v = .pointer (some ⟨tb, 1, none⟩) | 8 => v = .int .i64 t.op | 9 => v = .pointer (some ⟨tb, 2, none⟩) | 10 => v = .string (strB t.val) | 11 => v = .agg #[.string (strB t.col), .int .i64 t.op, .string (strB t.val)] | 12 => v = .bool false | _ => True) (by kernel_rfl) (by kernel_rfl) (by rfl) rfl ?mono13 ?steps13 ?fin13
      case mono13 =>
        intro i w w' v h hE
        match i with
        | 0 => exact h
        | 1 => exact h
        | 2 => exact h
        | 3 => exact h
        | 4 => exact h
        | 5 => exact h
        | 6 => exact h
        | 7 => exact h
        | 8 => exact h
        | 9 => exact h
        | 10 => exact h
        | 11 => exact h
        | 12 => exact h
        | _ + 13 => trivial
      case steps13 =>
        refine stepE_cons ⟨_, rfl, fun a w hE hH => ?_⟩ ?_
        ·
          have e2 : a.tmps[2]? = some (.pointer (some ⟨pb, 0, none⟩)) := hH.old 2 rfl
          exact Or.inl ⟨rfl, goodE_val (.pointer (some ⟨pb, 2, none⟩)) (by simp [execOp, Act.eval, e2, go_sem]) rfl⟩
        refine stepE_cons ⟨_, rfl, fun a w hE hH => ?_⟩ ?_
        ·
          obtain ⟨v81, e81, g81⟩ := hH.dep 0 81 rfl (by kernel_rfl)
          have q81 : v81 = .pointer (some ⟨pb, 2, none⟩) := g81
          subst q81
          have hc := cell_ext ((Ext.to_drew _).trans hE) HZ2.out
          exact Or.inl ⟨(rfl), goodE_val (.slice (some ad) q.wh.length c7) (by simp [execOp, Act.eval, e81, hc, go_sem]) rfl⟩
        refine stepE_cons ⟨_, rfl, fun a w hE hH => ?_⟩ ?_
        ·
          have e6 : a.tmps[6]? = some (.int .i64 (j : Nat)) := hH.old 6 rfl
          exact Or.inl ⟨rfl, goodE_move _ rfl (eval_of e6) rfl⟩
        refine stepE_cons ⟨_, rfl, fun a w hE hH => ?_⟩ ?_
        ·
          obtain ⟨v82, e82, g82⟩ := hH.dep 1 82 rfl (by kernel_rfl)
          have q82 : v82 = .slice (some ad) q.wh.length c7 := g82
          subst q82
          obtain ⟨v83, e83, g83⟩ := hH.dep 2 83 rfl (by kernel_rfl)
          have q83 : v83 = .int .i64 (j : Nat) := g83
          subst q83
          exact Or.inl ⟨(rfl), goodE_val (.pointer (some (ad.add (j * 3)))) (by simp [execOp, Act.eval, e82, e83, HLT.out, HLT2.out, go_sem]) rfl⟩
        refine stepE_cons ⟨_, rfl, fun a w hE hH => ?_⟩ ?_
        ·
          obtain ⟨v84, e84, g84⟩ := hH.dep 3 84 rfl (by kernel_rfl)
          have q84 : v84 = .pointer (some (ad.add (j * 3))) := g84
          subst q84
          have hc1 := cell_ext ((Ext.to_drew _).trans hE) HD1.out
          have hc2 := cell_ext ((Ext.to_drew _).trans hE) HD2.out
          have hc3 := cell_ext ((Ext.to_drew _).trans hE) HD3.out
          exact Or.inl ⟨(rfl), goodE_val (.agg #[.string (strB t.col), .int .i64 t.op, .string (strB t.val)]) (by simp [execOp, Act.eval, e84, hc1, hc2, hc3, go_sem]) rfl⟩
        refine stepE_cons ⟨_, rfl, fun a w hE hH => ?_⟩ ?_
        ·
          have e7 : a.tmps[7]? = some (.pointer (some ⟨tb, 0, none⟩)) := hH.old 7 rfl
          exact Or.inl ⟨rfl, goodE_val (.pointer (some ⟨tb, 0, none⟩)) (by simp [execOp, Act.eval, e7, go_sem]) rfl⟩
        refine stepE_cons ⟨_, rfl, fun a w hE hH => ?_⟩ ?_
        ·
          obtain ⟨v86, e86, g86⟩ := hH.dep 5 86 rfl (by kernel_rfl)
          have q86 : v86 = .pointer (some ⟨tb, 0, none⟩) := g86
          subst q86
          have hc := cell_ext ((Ext.to_drew _).trans hE) HT0.out
          exact Or.inl ⟨(rfl), goodE_val (.string (strB t.col)) (by simp [execOp, Act.eval, e86, hc, go_sem]) rfl⟩
        refine stepE_cons ⟨_, rfl, fun a w hE hH => ?_⟩ ?_
        ·
          have e7 : a.tmps[7]? = some (.pointer (some ⟨tb, 0, none⟩)) := hH.old 7 rfl
          exact Or.inl ⟨rfl, goodE_val (.pointer (some ⟨tb, 1, none⟩)) (by simp [execOp, Act.eval, e7, go_sem]) rfl⟩
        refine stepE_cons ⟨_, rfl, fun a w hE hH => ?_⟩ ?_
        ·
          obtain ⟨v88, e88, g88⟩ := hH.dep 7 88 rfl (by kernel_rfl)
          have q88 : v88 = .pointer (some ⟨tb, 1, none⟩) := g88
          subst q88
          have hc := cell_ext ((Ext.to_drew _).trans hE) HT1.out
          exact Or.inl ⟨(rfl), goodE_val (.int .i64 t.op) (by simp [execOp, Act.eval, e88, hc, go_sem]) rfl⟩
        refine stepE_cons ⟨_, rfl, fun a w hE hH => ?_⟩ ?_
        ·
          have e7 : a.tmps[7]? = some (.pointer (some ⟨tb, 0, none⟩)) := hH.old 7 rfl
          exact Or.inl ⟨rfl, goodE_val (.pointer (some ⟨tb, 2, none⟩)) (by simp [execOp, Act.eval, e7, go_sem]) rfl⟩
        refine stepE_cons ⟨_, rfl, fun a w hE hH => ?_⟩ ?_
        ·
          obtain ⟨v90, e90, g90⟩ := hH.dep 9 90 rfl (by kernel_rfl)
          have q90 : v90 = .pointer (some ⟨tb, 2, none⟩) := g90
          subst q90
          have hc := cell_ext ((Ext.to_drew _).trans hE) HT2.out
          exact Or.inl ⟨(rfl), goodE_val (.string (strB t.val)) (by simp [execOp, Act.eval, e90, hc, go_sem]) rfl⟩
        refine stepE_cons ⟨_, rfl, fun a w hE hH => ?_⟩ ?_
        ·
          obtain ⟨v87, e87, g87⟩ := hH.dep 6 87 rfl (by kernel_rfl)
          have q87 : v87 = .string (strB t.col) := g87
          subst q87
          obtain ⟨v89, e89, g89⟩ := hH.dep 8 89 rfl (by kernel_rfl)
          have q89 : v89 = .int .i64 t.op := g89
          subst q89
          obtain ⟨v91, e91, g91⟩ := hH.dep 10 91 rfl (by kernel_rfl)
          have q91 : v91 = .string (strB t.val) := g91
          subst q91
          exact Or.inl ⟨rfl, goodE_val (.agg #[.string (strB t.col), .int .i64 t.op, .string (strB t.val)]) (by simp [execOp, Act.eval, e89, e91, e87, go_sem]) rfl⟩
        refine stepE_cons ⟨_, rfl, fun a w hE hH => ?_⟩ ?_
        ·
          obtain ⟨v85, e85, g85⟩ := hH.dep 4 85 rfl (by kernel_rfl)
          have q85 : v85 = .agg #[.string (strB t.col), .int .i64 t.op, .string (strB t.val)] := g85
          subst q85
          obtain ⟨v92, e92, g92⟩ := hH.dep 11 92 rfl (by kernel_rfl)
          have q92 : v92 = .agg #[.string (strB t.col), .int .i64 t.op, .string (strB t.val)] := g92
          subst q92
          exact Or.inl ⟨rfl, goodE_val (.bool false) (by simp [execOp, Act.eval, e92, e85, go_sem]) rfl⟩
        exact stepE_nil
      rintro vals wz hE hV
      have k93 : vals 12 = .bool false := hV 12 (by simp) rfl
      simp only [List.map_cons, List.map_nil, putAll, Act.put, List.setIfInBounds_toArray, List.set_cons_zero, List.set_cons_succ, k93]
      have HX2 : Aside0 (Ext w2 wz) := ⟨HXt.out.trans ((Ext.to_drew _).trans hE)⟩
      clear hE hV
      go_wp2_with fail
      go_roundw
      case rel => exact ⟨j + 1, by omega, by go_num, HX2.out⟩
      case measure => simp [intOf]; omega
    · obtain rfl : j = q.wh.length := by omega
      have hb : ¬ ((q.wh.length : Int) < q.wh.length) := by omega
      clear hX
      go_wp2_with fail
      go_ret
      exact ⟨rfl, HE2.out.trans HX.out⟩
end Go.Proofs.YthhemephaabblaaGreatDoor.Hq
