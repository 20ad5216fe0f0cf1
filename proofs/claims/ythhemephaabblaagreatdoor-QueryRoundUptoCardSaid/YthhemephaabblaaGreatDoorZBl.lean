/- Parts of the proof: query.Parse: the walk. Printed by prs.py. The document's reader: is, must, name. The document's reader: name. The document's reader: columns. The document's reader: test. The document's limit: a number of any text. From the rows' list of package-level variables to what the contracts ask for. Rows of the document's tests; its reader at a text's first token. Arguments opened: the document's question; how great it is. Appending to a row of the call's own: all elder rows are as they were. cairnlaw32.mine: the walk. Printed by min.py. -/
import Derived.Test.YthhemephaabblaaGreatDoorZBk
import Derived.Shelf.LaysC
import Derived.Shelf.Strconv.ErrVar
import Derived.Test.YthhemephaabblaaGreatDoorRows
import Derived.Lib.LaidTab
import Derived.Stop.LaidErr
import Derived.ProofKit
import Derived.OpenShut
import Derived.SliceStrings
import Derived.Test.YthhemephaabblaaGreatDoorZBj
namespace Go.Proofs.YthhemephaabblaaGreatDoor.Hq
open Go.RowKit Go.Proofs.YthhemephaabblaaGreatDoorW.PrintWords Go.Proofs.YthhemephaabblaaGreatDoorW.PrintLast Go.Proofs.YthhemephaabblaaGreatDoorW.PrintMore Go.Proofs.YthhemephaabblaaGreatDoor Go.Proofs.YthhemephaabblaaGreatDoor.Q Go.Proofs.YthhemephaabblaaGreatDoor.R
set_option linter.unusedVariables false
set_option linter.unusedSimpArgs false

theorem setRow_same {w : World} {b : Nat} {cs : Array Value} {t : TypeId} {fr : Nat × Nat} (h : w.heap[b]? = some (.cells cs t fr)) : Ext w (w.setRow b cs) := by
  refine ⟨rfl, rfl, rfl, by simp [World.setRow], fun k hk => ?_⟩
  by_cases hkb : k = b
  · subst hkb
    rw [setRow_heap w k _ cs _ _ h, h]
  · exact setRow_heap_other _ _ _ _ hkb
theorem store_run {P : Program} {w : World} {t ty : TypeId} (g : Nat) (cells old : Array Value) {p v : Value} (hx : p = .pointer (some ⟨g, 0, none⟩)) (hy : v = .agg cells) (hg : w.heap[g]? = some (.cells old t (0, 0))) (hi : (P.info? ty).map (·.size) = some cells.size) (hold : old.size = cells.size) (h1 : cells.all (·.oneCell') = true) : (Instr.storeAt ty p v).run P w = .ok () (w.setRow g cells) := by
  subst hx hy
  simp only [Instr.storeAt, Instr.sureAddr, Sem.run_bind, Sem.run_pure, Result.andThen_ok, run_storeVar_row w g t ty old cells hg hi hold h1]
/-- A question of the program's, as a value: its lists are rows of the call's own from block B on. -/
def QV (B : Nat) (w : World) (q : Qry) (v5 v7 : Value) : Prop := Sr B w v5 q.cols ∧ Tr B w v7 q.wh
def qval (q : Qry) (v5 v7 : Value) : Value := .agg #[v5, .string (strB q.tab), v7, .string (strB q.ord), .bool q.down, .int .i64 q.lim]
/-- What 'Parse' leaves. -/
def ParP (w : World) (r : Qry × Nat × Int) (e : Ending) (w' : World) : Prop :=
  ∃ v5 v7, e = .returned (.tuple #[qval r.1 v5 v7, .int .i64 (r.2.1 : Int), .int .i64 r.2.2]) ∧ QV w.heap.size w' r.1 v5 v7 ∧ Below w.heap.size w w'
theorem Rd.cells {w0 w : World} {g : Nat} {s : List UInt8} {L : List Tk} {v5 : Value} {tab : List UInt8} {v7 : Value} {ord : List UInt8} {down : Bool} {lim : Int} (h : Rd w0 w g s L v5 tab v7 ord down lim) : w.cell? ⟨g, 5, none⟩ = some v5 ∧ w.cell? ⟨g, 6, none⟩ = some (.string (strB tab)) ∧ w.cell? ⟨g, 7, none⟩ = some v7 ∧ w.cell? ⟨g, 8, none⟩ = some (.string (strB ord)) ∧ w.cell? ⟨g, 9, none⟩ = some (.bool down) ∧ w.cell? ⟨g, 10, none⟩ = some (.int .i64 lim) := by
  obtain ⟨p, hp, hL, hb, hg⟩ := h
  exact ⟨(blk_cell hb 5).trans rfl, (blk_cell hb 6).trans rfl, (blk_cell hb 7).trans rfl, (blk_cell hb 8).trans rfl, (blk_cell hb 9).trans rfl, (blk_cell hb 10).trans rfl⟩
theorem no_QV (B : Nat) (w : World) : QV B w ⟨[], [], [], [], false, 0⟩ (.slice none 0 0) (.slice none 0 0) := ⟨World.ownsRow_nil _ _ _ _, World.ownsRow_nil _ _ _ _⟩
set_option maxRecDepth 100000 in
set_option maxHeartbeats 3200000 in
theorem parse_calls (s : List UInt8) (w : World) (hG : Glob w) (hs : s.length ≤ 1000000000000) :
    Calls Tryz.prog 7 #[.string (strB s)] w (ParP w (parseQ s)) := by
  have hsz := strB_size s
  by_cases hl : s.length ≤ 1024
  · have hd : decide ((1024 : Int) < (s.length : Int)) = false := decide_eq_false (by omega)
    have hd2 : ¬ ((1024 : Int) < (s.length : Int)) := by omega
    go_enter Tryz.func7, Tryz.ntmps7
    go_upto_region 4 with fail
    obtain ⟨wa, hwa⟩ : ∃ W, W = w.alloc (.cells #[.slice none 0 0, .string ⟨#[]⟩, .slice none 0 0, .string ⟨#[]⟩, .bool false, .int .i64 0] 25) := ⟨_, rfl⟩
    have hza : wa.heap.size = w.heap.size + 1 := by rw [hwa]; simp
    have hZa : wa.heap[w.heap.size]? = some (.cells #[.slice none 0 0, .string ⟨#[]⟩, .slice none 0 0, .string ⟨#[]⟩, .bool false, .int .i64 0] 25 (0, 0)) := by rw [hwa]; exact heap_alloc_new _ _
    have hBa : Below w.heap.size w wa := by rw [hwa]; exact (Below.refl _ _).alloc (Nat.le_refl _) _
    have hR0 : R0 wa (wa.alloc (.cells #[.string (strB s), .int .i64 0, .int .i64 0, .string ⟨#[]⟩, .int .i64 0, .slice none 0 0, .string ⟨#[]⟩, .slice none 0 0, .string ⟨#[]⟩, .bool false, .int .i64 0] 60)) (w.heap.size + 1) s := ⟨by rw [← hza]; exact heap_alloc_new _ _, by omega⟩
    have hBb : Below wa.heap.size wa (wa.alloc (.cells #[.string (strB s), .int .i64 0, .int .i64 0, .string ⟨#[]⟩, .int .i64 0, .slice none 0 0, .string ⟨#[]⟩, .slice none 0 0, .string ⟨#[]⟩, .bool false, .int .i64 0] 60)) := (Below.refl _ _).alloc (Nat.le_refl _) _
    rw [← hwa]
    generalize (wa.alloc (.cells #[.string (strB s), .int .i64 0, .int .i64 0, .string ⟨#[]⟩, .int .i64 0, .slice none 0 0, .string ⟨#[]⟩, .slice none 0 0, .string ⟨#[]⟩, .bool false, .int .i64 0] 60)) = wb at hR0 hBb ⊢
    have hq := question_rd wa wb (w.heap.size + 1) s hs hR0 hBb
    obtain ⟨g, hg⟩ : ∃ n, n = w.heap.size + 1 := ⟨_, rfl⟩
    rw [← hg] at hq ⊢
    obtain ⟨rb, hrb⟩ : ∃ n, n = w.heap.size := ⟨_, rfl⟩
    rw [← hrb] at hZa ⊢
    have HZA := Aside0.mk hZa
    have HBA := Aside0.mk hBa
    have HRB := Aside0.mk hrb
    have HGE := Aside0.mk hg
    have HZS := Aside0.mk hza
    have HWB := Aside0.mk hBb
    clear hwa hza hZa hBa hR0 hBb hg hrb
    rcases hpq : parseL (toks s 0) with ⟨o, L'⟩
    rw [hpq] at hq
    have HPQ := Aside0.mk hpq
    clear hpq
    cases o with
    | none =>
      have e0 : parseQ s = (⟨[], [], [], [], false, 0⟩, (hdT L').place, 320) := by unfold parseQ; rw [if_pos hl, HPQ.out]
      have HE0 := Aside0.mk e0
      clear e0
      go_upto_region 5 with (go_at_call 18; (with_reducible refine hq.mono ?_); rintro e w2 ⟨rfl, hB2, hK2, v5, tb, v7, od, dn, lm, hR2, _⟩; have hZ2 : w2.heap[rb]? = some (.cells #[.slice none 0 0, .string ⟨#[]⟩, .slice none 0 0, .string ⟨#[]⟩, .bool false, .int .i64 0] 25 (0, 0)) := (hB2.block rb (by have := HZS.out; have := HRB.out; omega)).trans HZA.out; have HZ2 := Aside0.mk hZ2; have HB2 := Aside0.mk hB2; have HK4 := Aside0.mk hR2.c23.2.2; clear hB2 hK2 hR2 hZ2)
      refine exk_tail (fun W => Ext w2.drew W) (fun _ => Ext) 9 [(0, 18), (1, 19), (2, 20), (3, 21), (4, 22), (5, 23), (7, 3)] [0, 1, 2, 3, 4, 5, 6, 7] (fun i w v => match i with | 0 => v = .agg #[.slice none 0 0, .string ⟨#[]⟩, .slice none 0 0, .string ⟨#[]⟩, .bool false, .int .i64 0] | 1 => v = .pointer (some ⟨g, 0, none⟩) | 2 => v = .pointer (some ⟨g, 0, none⟩) | 3 => v = .pointer (some ⟨g, 2, none⟩) | 4 => v = .pointer (some ⟨g, 4, none⟩) | 5 => v = .int .i64 ((hdT L').place : Int) | 7 => v = .int .i64 ((hdT L').place : Int) | _ => True) (by kernel_rfl) (by kernel_rfl) (by rfl) rfl ?j0 ?rj ?r0 ?mono5 ?steps5 ?fin5
      case j0 => exact Ext.refl _
      case rj => exact fun i W W' h hR => h.trans hR
      case r0 => exact fun i W => Ext.refl W
      case mono5 =>
        intro i j w w' v hne h hR
        match j with
        | 0 => exact h
        | 1 => exact h
        | 2 => exact h
        | 3 => exact h
        | 4 => exact h
        | 5 => exact h
        | 6 => exact h
        | 7 => exact h
        | 8 => exact h
        | _ + 9 => trivial
      case steps5 =>
        refine stepK_cons ⟨_, rfl, fun a w hE hH => ?_⟩ ?_
        ·
          exact Or.inl ⟨(rfl), goodK_of rfl (goodE_val (.agg #[.slice none 0 0, .string ⟨#[]⟩, .slice none 0 0, .string ⟨#[]⟩, .bool false, .int .i64 0]) (by simp [execOp, Act.eval, go_sem]) rfl)⟩
        refine stepK_cons ⟨_, rfl, fun a w hE hH => ?_⟩ ?_
        ·
          have e5 : a.tmps[5]? = some (.pointer (some ⟨g, 0, none⟩)) := hH.old 5 rfl
          exact Or.inl ⟨rfl, goodK_of rfl (goodE_move _ rfl (eval_of e5) rfl)⟩
        refine stepK_cons ⟨_, rfl, fun a w hE hH => ?_⟩ ?_
        ·
          obtain ⟨v19, e19, g19⟩ := hH.dep 1 19 rfl (by kernel_rfl)
          have q19 : v19 = .pointer (some ⟨g, 0, none⟩) := g19
          subst q19
          exact Or.inl ⟨rfl, goodK_of rfl (goodE_val (.pointer (some ⟨g, 0, none⟩)) (by simp [execOp, Act.eval, e19, go_sem]) rfl)⟩
        refine stepK_cons ⟨_, rfl, fun a w hE hH => ?_⟩ ?_
        ·
          obtain ⟨v20, e20, g20⟩ := hH.dep 2 20 rfl (by kernel_rfl)
          have q20 : v20 = .pointer (some ⟨g, 0, none⟩) := g20
          subst q20
          exact Or.inl ⟨rfl, goodK_of rfl (goodE_val (.pointer (some ⟨g, 2, none⟩)) (by simp [execOp, Act.eval, e20, go_sem]) rfl)⟩
        refine stepK_cons ⟨_, rfl, fun a w hE hH => ?_⟩ ?_
        ·
          obtain ⟨v21, e21, g21⟩ := hH.dep 3 21 rfl (by kernel_rfl)
          have q21 : v21 = .pointer (some ⟨g, 2, none⟩) := g21
          subst q21
          exact Or.inl ⟨rfl, goodK_of rfl (goodE_val (.pointer (some ⟨g, 4, none⟩)) (by simp [execOp, Act.eval, e21, go_sem]) rfl)⟩
        refine stepK_cons ⟨_, rfl, fun a w hE hH => ?_⟩ ?_
        ·
          obtain ⟨v22, e22, g22⟩ := hH.dep 4 22 rfl (by kernel_rfl)
          have q22 : v22 = .pointer (some ⟨g, 4, none⟩) := g22
          subst q22
          have hc := cell_ext ((Ext.to_drew _).trans hE) HK4.out
          exact Or.inl ⟨(rfl), goodK_of rfl (goodE_val (.int .i64 ((hdT L').place : Int)) (by simp [execOp, Act.eval, e22, hc, go_sem]) rfl)⟩
        refine stepK_cons ⟨_, rfl, fun a w hE hH => ?_⟩ ?_
        ·
          have e2 : a.tmps[2]? = some (.pointer (some ⟨rb, 0, none⟩)) := hH.old 2 rfl
          obtain ⟨v18, e18, g18⟩ := hH.dep 0 18 rfl (by kernel_rfl)
          have q18 : v18 = .agg #[.slice none 0 0, .string ⟨#[]⟩, .slice none 0 0, .string ⟨#[]⟩, .bool false, .int .i64 0] := g18
          subst q18
          have hz := heap_below HZ2.out ((Ext.to_drew _).trans hE)
          exact Or.inl ⟨(rfl), goodK_skip (w.setRow rb #[.slice none 0 0, .string ⟨#[]⟩, .slice none 0 0, .string ⟨#[]⟩, .bool false, .int .i64 0]) (exec_store rfl (store_run rb #[.slice none 0 0, .string ⟨#[]⟩, .slice none 0 0, .string ⟨#[]⟩, .bool false, .int .i64 0] #[.slice none 0 0, .string ⟨#[]⟩, .slice none 0 0, .string ⟨#[]⟩, .bool false, .int .i64 0] (by simp [Act.eval, e2]) (by simp [Act.eval, e18]) hz (by kernel_rfl) rfl (by simp [Value.oneCell']))) (setRow_same hz) trivial⟩
        refine stepK_cons ⟨_, rfl, fun a w hE hH => ?_⟩ ?_
        ·
          obtain ⟨v23, e23, g23⟩ := hH.dep 5 23 rfl (by kernel_rfl)
          exact Or.inl ⟨rfl, goodK_of rfl (goodE_assign v23 rfl (eval_of e23) g23)⟩
        exact stepK_nil
      refine ⟨⟨(some 4), .assign (.const (.int .i64 320)), _, _, _, none⟩, rfl, ?_⟩
      rintro vals wz hE hV
      have k3 : vals 7 = .int .i64 ((hdT L').place : Int) := hV 7 (by simp) rfl
      refine ⟨rfl, ?_⟩
      intro KK hKK
      simp only [List.map_cons, List.map_nil, putAll, Act.put, List.setIfInBounds_toArray, List.set_cons_zero, List.set_cons_succ, k3]
      refine finE_val (w1 := wz) (v := .int .i64 320) (by simp [execOp, Act.eval, Act.put]) (hKK _ _ ?_)
      have hF := heap_below HZ2.out ((Ext.to_drew _).trans hE)
      have hBF : Below w.heap.size w wz := Below.trans HBA.out (Below.mono (below_step HB2.out ((Ext.to_drew _).trans hE)) (by have := HZS.out; omega))
      generalize wz = wf at hF hBF ⊢
      have HFF := Aside0.mk hF
      have HBF := Aside0.mk hBF
      have z0 := blk_cell hF 0
      have z1 := blk_cell hF 1
      have z2 := blk_cell hF 2
      have z3 := blk_cell hF 3
      have z4 := blk_cell hF 4
      have z5 := blk_cell hF 5
      clear hE hV k3 hKK hF hBF
      go_wp2_with fail
      refine bodyPost_ret (v := .tuple #[.agg #[.slice none 0 0, .string ⟨#[]⟩, .slice none 0 0, .string ⟨#[]⟩, .bool false, .int .i64 0], .int .i64 ((hdT L').place : Int), .int .i64 320]) (by simp [results, Tryz.results7, go_sem, z0, z1, z2, z3, z4, z5]) rfl ⟨.slice none 0 0, .slice none 0 0, by rw [HE0.out]; rfl, by rw [HE0.out]; exact no_QV _ _, HBF.out⟩
    | some q =>
      have hpb := parse_ok s HPQ.out
      have hokq := hpb.okQ (by omega)
      have hpf := print_f q hokq (q.cols.length + q.wh.length + 51) (by omega)
      have HOK := Aside0.mk hpb
      have HPF := Aside0.mk hpf
      clear hpf hokq hpb
      go_upto_region 6 with (go_at_call 18; (with_reducible refine hq.mono ?_); rintro e w2 ⟨rfl, hB2, hK2, v5, tb, v7, od, dn, lm, hR2, hx⟩; obtain ⟨hS2, hT2, rfl, rfl, rfl, rfl⟩ := hx q rfl; have hZ2 : w2.heap[rb]? = some (.cells #[.slice none 0 0, .string ⟨#[]⟩, .slice none 0 0, .string ⟨#[]⟩, .bool false, .int .i64 0] 25 (0, 0)) := (hB2.block rb (by have := HZS.out; have := HRB.out; omega)).trans HZA.out; have HZ2 := Aside0.mk hZ2; have HB2 := Aside0.mk hB2; have HS2 := Aside0.mk hS2; have HT2 := Aside0.mk hT2; have HR2 := Aside0.mk hR2; clear hB2 hK2 hR2 hZ2 hS2 hT2 hx)
      obtain ⟨A5, p5, rfl, hp5, hC5⟩ := sr_C HS2.out (by have := HOK.out.ncols; omega)
      obtain ⟨A7, p7, rfl, hp7, hC7⟩ := tr_C HT2.out (by have := HOK.out.nwh; omega)
      obtain ⟨q5, q6, q7, q8, q9, q10⟩ := HR2.out.cells
      have hG2 : Glob w2 := Glob.of_below hG (Below.trans HBA.out (Below.mono HB2.out (by have := HZS.out; omega)))
      have hpr := query_Print.calls (q.cols.length + q.wh.length + 51) A5 p5 (q.cols.map strB) (strB q.tab) A7 p7 (q.wh.map t37) (strB q.ord) q.down q.lim (strB (printQ q).1) (printQ q).2 w2 (by rw [List.length_map]; exact hC5) (by rw [List.length_map]; exact hp5) (by rw [List.length_map]; exact hC7) (by rw [List.length_map]; exact hp7) hG2 HPF.out
      rw [List.length_map, List.length_map] at hpr
      clear hC5 hC7 hG2
      by_cases h0 : (printQ q).2 = 0
      · have e0 : parseQ s = (q, 0, 0) := by unfold parseQ; rw [if_pos hl, HPQ.out]; simp only; rw [if_pos h0]
        have HE0 := Aside0.mk e0
        rw [h0] at hpr
        clear e0 h0
        go_upto_region 9 with (go_at_call 13; (with_reducible refine hpr.mono ?_); rintro e w3 ⟨rfl, hb3⟩; have HS3 := Aside0.mk (HS2.out.ext hb3); have HT3 := Aside0.mk (HT2.out.ext hb3); have hZ3 := heap_below HZ2.out hb3; have HB3 := Aside0.mk (Below.trans HBA.out (Below.mono (below_step HB2.out hb3) (by have := HZS.out; omega))); have HZ3 := Aside0.mk hZ3; have hR3 := HR2.out.move (hb3.block _ HR2.out.lt); obtain ⟨r5, r6, r7, r8, r9, r10⟩ := hR3.cells; have z0 := blk_cell hZ3 0; have z1 := blk_cell hZ3 1; have z2 := blk_cell hZ3 2; have z3 := blk_cell hZ3 3; have z4 := blk_cell hZ3 4; have z5 := blk_cell hZ3 5; have f0 := blk_frozen hZ3 0; have f1 := blk_frozen hZ3 1; have f2 := blk_frozen hZ3 2; have f3 := blk_frozen hZ3 3; have f4 := blk_frozen hZ3 4; have f5 := blk_frozen hZ3 5; clear hb3 hZ3 hR3 q5 q6 q7 q8 q9 q10)
        go_wp2_with fail
        have hF : ((((((w3.setCell ⟨rb, 0, none⟩ (.slice A5 q.cols.length p5)).setCell ⟨rb, 1, none⟩ (.string (strB q.tab))).setCell ⟨rb, 2, none⟩ (.slice A7 q.wh.length p7)).setCell ⟨rb, 3, none⟩ (.string (strB q.ord))).setCell ⟨rb, 4, none⟩ (.bool q.down)).setCell ⟨rb, 5, none⟩ (.int .i64 q.lim)).heap[rb]? = some (.cells #[.slice A5 q.cols.length p5, .string (strB q.tab), .slice A7 q.wh.length p7, .string (strB q.ord), .bool q.down, .int .i64 q.lim] 25 (0, 0)) := by
          have h := (blk_set (blk_set (blk_set (blk_set (blk_set (blk_set HZ3.out 0 (.slice A5 q.cols.length p5)) 1 (.string (strB q.tab))) 2 (.slice A7 q.wh.length p7)) 3 (.string (strB q.ord))) 4 (.bool q.down)) 5 (.int .i64 q.lim))
          simpa using h
        have hK : KeepBut w3 ((((((w3.setCell ⟨rb, 0, none⟩ (.slice A5 q.cols.length p5)).setCell ⟨rb, 1, none⟩ (.string (strB q.tab))).setCell ⟨rb, 2, none⟩ (.slice A7 q.wh.length p7)).setCell ⟨rb, 3, none⟩ (.string (strB q.ord))).setCell ⟨rb, 4, none⟩ (.bool q.down)).setCell ⟨rb, 5, none⟩ (.int .i64 q.lim)) rb none := ((((((KeepBut.of_below (Ext.refl w3) rb none).set_ 0 (.slice A5 q.cols.length p5)).set_ 1 (.string (strB q.tab))).set_ 2 (.slice A7 q.wh.length p7)).set_ 3 (.string (strB q.ord))).set_ 4 (.bool q.down)).set_ 5 (.int .i64 q.lim)
        have hBF : Below w.heap.size w ((((((w3.setCell ⟨rb, 0, none⟩ (.slice A5 q.cols.length p5)).setCell ⟨rb, 1, none⟩ (.string (strB q.tab))).setCell ⟨rb, 2, none⟩ (.slice A7 q.wh.length p7)).setCell ⟨rb, 3, none⟩ (.string (strB q.ord))).setCell ⟨rb, 4, none⟩ (.bool q.down)).setCell ⟨rb, 5, none⟩ (.int .i64 q.lim)) := ((((((HB3.out.setCell (show w.heap.size ≤ rb by rw [HRB.out]; exact Nat.le_refl _) _).setCell (show w.heap.size ≤ rb by rw [HRB.out]; exact Nat.le_refl _) _).setCell (show w.heap.size ≤ rb by rw [HRB.out]; exact Nat.le_refl _) _).setCell (show w.heap.size ≤ rb by rw [HRB.out]; exact Nat.le_refl _) _).setCell (show w.heap.size ≤ rb by rw [HRB.out]; exact Nat.le_refl _) _).setCell (show w.heap.size ≤ rb by rw [HRB.out]; exact Nat.le_refl _) _)
        generalize ((((((w3.setCell ⟨rb, 0, none⟩ (.slice A5 q.cols.length p5)).setCell ⟨rb, 1, none⟩ (.string (strB q.tab))).setCell ⟨rb, 2, none⟩ (.slice A7 q.wh.length p7)).setCell ⟨rb, 3, none⟩ (.string (strB q.ord))).setCell ⟨rb, 4, none⟩ (.bool q.down)).setCell ⟨rb, 5, none⟩ (.int .i64 q.lim)) = wf at hF hK hBF ⊢
        have hlb : rb < wb.heap.size := by have := HWB.out.size; have := HZS.out; have := HRB.out; omega
        have hSf := own_less (HS3.out.keep hK hlb) (show w.heap.size ≤ wb.heap.size by have := HRB.out; omega)
        have hTf := own_less (HT3.out.keep hK hlb) (show w.heap.size ≤ wb.heap.size by have := HRB.out; omega)
        have y0 := blk_cell hF 0
        have y1 := blk_cell hF 1
        have y2 := blk_cell hF 2
        have y3 := blk_cell hF 3
        have y4 := blk_cell hF 4
        have y5 := blk_cell hF 5
        refine bodyPost_ret (v := .tuple #[.agg #[.slice A5 q.cols.length p5, .string (strB q.tab), .slice A7 q.wh.length p7, .string (strB q.ord), .bool q.down, .int .i64 q.lim], .int .i64 0, .int .i64 0]) (by simp [results, Tryz.results7, go_sem, y0, y1, y2, y3, y4, y5]) rfl ⟨_, _, by rw [HE0.out]; rfl, by rw [HE0.out]; exact ⟨hSf, hTf⟩, hBF⟩
      · have e0 : parseQ s = (⟨[], [], [], [], false, 0⟩, 0, 2) := by unfold parseQ; rw [if_pos hl, HPQ.out]; simp only; rw [if_neg h0]
        have HE0 := Aside0.mk e0
        have h1 : (printQ q).2 = 320 := by
          unfold printQ at h0 ⊢
          split at h0
          · split at h0
            · exact absurd rfl h0
            · rename_i h2 h3; rw [if_pos h2, if_neg h3]
          · rename_i h2; rw [if_neg h2]
        rw [h1] at hpr
        clear e0 h0 h1
        go_upto_region 8 with (go_at_call 13; (with_reducible refine hpr.mono ?_); rintro e w3 ⟨rfl, hb3⟩; have hZ3 := heap_below HZ2.out hb3; have HB3 := Aside0.mk (Below.trans HBA.out (Below.mono (below_step HB2.out hb3) (by have := HZS.out; omega))); have HZ3 := Aside0.mk hZ3; have z0 := blk_cell hZ3 0; have z1 := blk_cell hZ3 1; have z2 := blk_cell hZ3 2; have z3 := blk_cell hZ3 3; have z4 := blk_cell hZ3 4; have z5 := blk_cell hZ3 5; have f0 := blk_frozen hZ3 0; have f1 := blk_frozen hZ3 1; have f2 := blk_frozen hZ3 2; have f3 := blk_frozen hZ3 3; have f4 := blk_frozen hZ3 4; have f5 := blk_frozen hZ3 5; clear hb3 hZ3 q5 q6 q7 q8 q9 q10)
        go_wp2_with fail
        have hF : ((((((w3.setCell ⟨rb, 0, none⟩ (.slice none 0 0)).setCell ⟨rb, 1, none⟩ (.string ⟨#[]⟩)).setCell ⟨rb, 2, none⟩ (.slice none 0 0)).setCell ⟨rb, 3, none⟩ (.string ⟨#[]⟩)).setCell ⟨rb, 4, none⟩ (.bool false)).setCell ⟨rb, 5, none⟩ (.int .i64 0)).heap[rb]? = some (.cells #[.slice none 0 0, .string ⟨#[]⟩, .slice none 0 0, .string ⟨#[]⟩, .bool false, .int .i64 0] 25 (0, 0)) := by
          have h := (blk_set (blk_set (blk_set (blk_set (blk_set (blk_set HZ3.out 0 (.slice none 0 0)) 1 (.string ⟨#[]⟩)) 2 (.slice none 0 0)) 3 (.string ⟨#[]⟩)) 4 (.bool false)) 5 (.int .i64 0))
          simpa using h
        have hBF : Below w.heap.size w ((((((w3.setCell ⟨rb, 0, none⟩ (.slice none 0 0)).setCell ⟨rb, 1, none⟩ (.string ⟨#[]⟩)).setCell ⟨rb, 2, none⟩ (.slice none 0 0)).setCell ⟨rb, 3, none⟩ (.string ⟨#[]⟩)).setCell ⟨rb, 4, none⟩ (.bool false)).setCell ⟨rb, 5, none⟩ (.int .i64 0)) := ((((((HB3.out.setCell (show w.heap.size ≤ rb by rw [HRB.out]; exact Nat.le_refl _) _).setCell (show w.heap.size ≤ rb by rw [HRB.out]; exact Nat.le_refl _) _).setCell (show w.heap.size ≤ rb by rw [HRB.out]; exact Nat.le_refl _) _).setCell (show w.heap.size ≤ rb by rw [HRB.out]; exact Nat.le_refl _) _).setCell (show w.heap.size ≤ rb by rw [HRB.out]; exact Nat.le_refl _) _).setCell (show w.heap.size ≤ rb by rw [HRB.out]; exact Nat.le_refl _) _)
        generalize ((((((w3.setCell ⟨rb, 0, none⟩ (.slice none 0 0)).setCell ⟨rb, 1, none⟩ (.string ⟨#[]⟩)).setCell ⟨rb, 2, none⟩ (.slice none 0 0)).setCell ⟨rb, 3, none⟩ (.string ⟨#[]⟩)).setCell ⟨rb, 4, none⟩ (.bool false)).setCell ⟨rb, 5, none⟩ (.int .i64 0)) = wf at hF hBF ⊢
        have y0 := blk_cell hF 0
        have y1 := blk_cell hF 1
        have y2 := blk_cell hF 2
        have y3 := blk_cell hF 3
        have y4 := blk_cell hF 4
        have y5 := blk_cell hF 5
        refine bodyPost_ret (v := .tuple #[.agg #[.slice none 0 0, .string ⟨#[]⟩, .slice none 0 0, .string ⟨#[]⟩, .bool false, .int .i64 0], .int .i64 0, .int .i64 2]) (by simp [results, Tryz.results7, go_sem, y0, y1, y2, y3, y4, y5]) rfl ⟨.slice none 0 0, .slice none 0 0, by rw [HE0.out]; rfl, by rw [HE0.out]; exact no_QV _ _, hBF⟩
  · have e0 : parseQ s = (⟨[], [], [], [], false, 0⟩, 0, 2) := by unfold parseQ; rw [if_neg hl]
    rw [e0]
    have hd : (1024 : Int) < (s.length : Int) := by omega
    clear e0
    go_enter Tryz.func7, Tryz.ntmps7
    go_wp2_with fail
    refine bodyPost_ret (v := .tuple #[.agg #[.slice none 0 0, .string ⟨#[]⟩, .slice none 0 0, .string ⟨#[]⟩, .bool false, .int .i64 0], .int .i64 0, .int .i64 2]) (by simp [results, Tryz.results7, go_sem]) rfl ⟨.slice none 0 0, .slice none 0 0, rfl, no_QV _ _, ?_⟩
    first | exact (Below.refl _ _).alloc (Nat.le_refl _) _ | skip
end Go.Proofs.YthhemephaabblaaGreatDoor.Hq
namespace Go.Proofs.YthhemephaabblaaGreatDoor.Hq
open Go.RowKit Go.Proofs.YthhemephaabblaaGreatDoorW.PrintWords Go.Proofs.YthhemephaabblaaGreatDoorW.PrintLast Go.Proofs.YthhemephaabblaaGreatDoorW.PrintMore Go.Proofs.YthhemephaabblaaGreatDoor Go.Proofs.YthhemephaabblaaGreatDoor.Q Go.Proofs.YthhemephaabblaaGreatDoor.R
set_option linter.unusedVariables false
set_option linter.unusedSimpArgs false

/-- v is a slice (not in block g) of the document's tokens. -/
def LR (B : Nat) (w : World) (g : Nat) (v : Value) (L : List Tk) : Prop := ∃ tb o c, v = .slice (some ⟨tb, o, none⟩) L.length c ∧ L.length ≤ c ∧ tb < B ∧ B ≤ w.heap.size ∧ tb ≠ g ∧ (∃ cs, w.heap[tb]? = some (.cells cs 74 (0, 0))) ∧
  ∀ ix x, L[ix]? = some x → w.cell? ⟨tb, o + 3 * ix, none⟩ = some (.int .i64 (rk x.kind)) ∧ w.cell? ⟨tb, o + 3 * ix + 1, none⟩ = some (.int .i64 (x.place : Int)) ∧ w.cell? ⟨tb, o + 3 * ix + 2, none⟩ = some (.string (strB x.says))
/-- The document's reader stands at these tokens. -/
def RD (B : Nat) (w : World) (g : Nat) (s : List UInt8) (L : List Tk) (bad : Bool) : Prop := ∃ p v, p ≤ s.length ∧ toks s p = L ∧ g < B ∧ LR B w g v L ∧ w.heap[g]? = some (.cells #[v, .bool bad] 65 (0, 0))
/-- All blocks but g are as they were; nothing is said abroad. -/
def KB (w w' : World) (g : Nat) : Prop := w.heap.size ≤ w'.heap.size ∧ (∀ i, i < w.heap.size → i ≠ g → some i ≠ (none : Option Nat) → w'.heap[i]? = w.heap[i]?) ∧ w'.os = w.os ∧ w'.tape = w.tape ∧ w'.output = w.output
theorem KB.keep {w w' : World} {g : Nat} (h : KB w w' g) : KeepBut w w' g none := ⟨h.1, h.2.1⟩
theorem KB.below {w w' : World} (h : KB w w' w.heap.size) : Below w.heap.size w w' := ⟨h.2.2.1, h.2.2.2.1, h.2.2.2.2, h.1, fun k hk => h.2.1 k hk (by omega) (by simp)⟩
theorem LR.keep0 {B : Nat} {w w' : World} {g : Nat} {v : Value} {L : List Tk} (h : LR B w g v L) (hK : KeepBut w w' g none) : LR B w' g v L := by
  obtain ⟨tb, o, c, rfl, hc, ht, hBw, hg, hty, hx⟩ := h
  have hb := hK.2 tb (by omega) hg (by simp)
  refine ⟨tb, o, c, rfl, hc, ht, by have := hK.1; omega, hg, (by rw [hb]; exact hty), fun ix x hix => ?_⟩
  have e : ∀ k, w'.cell? ⟨tb, k, none⟩ = w.cell? ⟨tb, k, none⟩ := fun k => by simp only [World.cell?, hb]
  rw [e, e, e]
  exact hx ix x hix
theorem LR.keep {B : Nat} {w w' : World} {g : Nat} {v : Value} {L : List Tk} (h : LR B w g v L) (hK : KB w w' g) : LR B w' g v L := h.keep0 hK.keep
theorem toks_hd (s : List UInt8) (p : Nat) (hp : p ≤ s.length) : ∃ x l, toks s p = x :: l := ⟨_, _, toks_eq s p hp⟩
theorem set_keep {w : World} {g k : Nat} {v : Value} : KB w (w.setCell ⟨g, k, none⟩ v) g := ⟨by simp, fun i hi hne _ => Below.heap_setCell _ _ _ _ (by simpa using hne), rfl, rfl, rfl⟩
theorem LR.tail {B : Nat} {w : World} {g tb o c n : Nat} {x : Tk} {l : List Tk} (h : LR B w g (.slice (some ⟨tb, o, none⟩) n c) (x :: l)) : LR B w g (.slice (some ⟨tb, o + 3, none⟩) l.length (c - 1)) l := by
  obtain ⟨tb', o', c', e, hc, ht, hBw, hg, hty, hx⟩ := h
  injection e with e1 e2 e3
  injection e1 with e1
  injection e1 with e4 e5 e6
  subst e4 e5 e3
  refine ⟨tb, o + 3, c - 1, rfl, by rw [List.length_cons] at hc; omega, ht, hBw, hg, hty, fun ix y hy => ?_⟩
  have := hx (ix + 1) y (by simpa using hy)
  rw [show o + 3 * (ix + 1) = o + 3 + 3 * ix by omega] at this
  exact this
theorem tok_kind (s : List UInt8) (p : Nat) (hp : p ≤ s.length) {x : Tk} {l : List Tk} (h : toks s p = x :: l) : x.kind ≤ 5 ∧ (2 ≤ x.kind → ∃ q, q ≤ s.length ∧ toks s q = l ∧ ∃ y l', l = y :: l') := by
  have e := toks_eq s p hp
  rw [h] at e
  injection e with e1 e2
  refine ⟨by rw [e1, tokAt_tk]; exact tk_kind s _, fun hk => ?_⟩
  rw [e1] at hk
  rw [if_neg (by omega)] at e2
  have hq := tok_end s p hp
  obtain ⟨y, l', hy⟩ := toks_hd s _ hq
  exact ⟨_, hq, e2.symm, y, l', e2.trans hy⟩
/-- The token that stands first, as the walks read it. -/
theorem RD.open {B : Nat} {w : World} {g : Nat} {s : List UInt8} {L : List Tk} {bad : Bool} (h : RD B w g s L bad) : ∃ p x l tb o c, p ≤ s.length ∧ toks s p = L ∧ g < B ∧ L = x :: l ∧ LR B w g (.slice (some ⟨tb, o, none⟩) (l.length + 1) c) (x :: l) ∧ w.heap[g]? = some (.cells #[.slice (some ⟨tb, o, none⟩) (l.length + 1) c, .bool bad] 65 (0, 0)) ∧ x.kind ≤ 5 ∧
    (w.cell? ⟨tb, o, none⟩ = some (.int .i64 (rk x.kind)) ∧ w.cell? ⟨tb, o + 1, none⟩ = some (.int .i64 (x.place : Int)) ∧ w.cell? ⟨tb, o + 2, none⟩ = some (.string (strB x.says))) ∧
    (w.cell? ⟨g, 0, none⟩ = some (.slice (some ⟨tb, o, none⟩) (l.length + 1) c) ∧ w.cell? ⟨g, 1, none⟩ = some (.bool bad) ∧ w.frozen? ⟨g, 0, none⟩ = false ∧ w.frozen? ⟨g, 1, none⟩ = false) ∧
    (2 ≤ x.kind → ∃ q m, q ≤ s.length ∧ toks s q = l ∧ c = m + 2 ∧ (∃ y l', l = y :: l')) := by
  obtain ⟨p, v, hp, hL, hgB, hR, hg⟩ := h
  obtain ⟨x, l, hxl⟩ := toks_hd s p hp
  have hxl2 := hxl
  rw [hL] at hxl2
  subst hxl2
  have hR2 := hR
  obtain ⟨tb, o, c, rfl, hc, ht, hBw, hne, hty, hx⟩ := hR
  have hx0 := hx 0 x rfl
  rw [Nat.mul_zero, Nat.add_zero] at hx0
  obtain ⟨hk5, hk2⟩ := tok_kind s p hp hxl
  rw [List.length_cons] at hR2 hg hc
  refine ⟨p, x, l, tb, o, c, hp, hL, hgB, rfl, hR2, hg, hk5, hx0, ⟨blk_cell hg 0, blk_cell hg 1, blk_frozen hg 0, blk_frozen hg 1⟩, fun h2 => ?_⟩
  obtain ⟨q, hq, hql, y, l', rfl⟩ := hk2 h2
  rw [List.length_cons] at hc
  exact ⟨q, c - 2, hq, hql, by omega, y, l', rfl⟩
end Go.Proofs.YthhemephaabblaaGreatDoor.Hq
namespace Go.Proofs.YthhemephaabblaaGreatDoor.Hq
open Go.RowKit Go.Proofs.YthhemephaabblaaGreatDoorW.PrintWords Go.Proofs.YthhemephaabblaaGreatDoorW.PrintLast Go.Proofs.YthhemephaabblaaGreatDoorW.PrintMore Go.Proofs.YthhemephaabblaaGreatDoor Go.Proofs.YthhemephaabblaaGreatDoor.Q Go.Proofs.YthhemephaabblaaGreatDoor.R
set_option linter.unusedVariables false
set_option linter.unusedSimpArgs false

theorem RD.says {s : List UInt8} {x : Tk} {l : List Tk} {p : Nat} (h : toks s p = x :: l) : x.says.length ≤ s.length := toksF_says s _ p x (by have e : toksF _ s p = x :: l := h; rw [e]; simp)
theorem RD.set1 {B : Nat} {w : World} {g : Nat} {s : List UInt8} {L : List Tk} {bad : Bool} (h : RD B w g s L bad) (b : Bool) : RD B (w.setCell ⟨g, 1, none⟩ (.bool b)) g s L b := by
  obtain ⟨p, v, hp, hL, hgB, hR, hg⟩ := h
  exact ⟨p, v, hp, hL, hgB, hR.keep set_keep, blk_set hg 1 _⟩
end Go.Proofs.YthhemephaabblaaGreatDoor.Hq
namespace Go.Proofs.YthhemephaabblaaGreatDoor.Hq
open Go.RowKit Go.Proofs.YthhemephaabblaaGreatDoorW.PrintWords Go.Proofs.YthhemephaabblaaGreatDoorW.PrintLast Go.Proofs.YthhemephaabblaaGreatDoorW.PrintMore Go.Proofs.YthhemephaabblaaGreatDoor Go.Proofs.YthhemephaabblaaGreatDoor.Q Go.Proofs.YthhemephaabblaaGreatDoor.R
set_option linter.unusedVariables false
set_option linter.unusedSimpArgs false

theorem RD.below {B : Nat} {w w' : World} {g : Nat} {s : List UInt8} {L : List Tk} {bad : Bool} (h : RD B w g s L bad) (hb : Below B w w') : RD B w' g s L bad := by
  obtain ⟨p, v, hp, hL, hgB, ⟨tb, o, c, e, hc, ht, hBw, hne, hty, hx⟩, hg⟩ := h
  have ht' := hb.block tb ht
  refine ⟨p, v, hp, hL, hgB, ⟨tb, o, c, e, hc, ht, Nat.le_trans hBw hb.size, hne, (by rw [ht']; exact hty), fun ix x hix => ?_⟩, by rw [hb.block g hgB]; exact hg⟩
  have e : ∀ k, w'.cell? ⟨tb, k, none⟩ = w.cell? ⟨tb, k, none⟩ := fun k => by simp only [World.cell?, ht']
  rw [e, e, e]
  exact hx ix x hix
end Go.Proofs.YthhemephaabblaaGreatDoor.Hq
namespace Go.Proofs.YthhemephaabblaaGreatDoor.Hq
open Go.RowKit Go.Proofs.YthhemephaabblaaGreatDoorW.PrintWords Go.Proofs.YthhemephaabblaaGreatDoorW.PrintLast Go.Proofs.YthhemephaabblaaGreatDoorW.PrintMore Go.Proofs.YthhemephaabblaaGreatDoor Go.Proofs.YthhemephaabblaaGreatDoor.Q Go.Proofs.YthhemephaabblaaGreatDoor.R
set_option linter.unusedVariables false
set_option linter.unusedSimpArgs false

theorem LR.below {B : Nat} {w : World} {g b k : Nat} {v u : Value} {L : List Tk} (h : LR B w g v L) (hb : B ≤ b) : LR B (w.setCell ⟨b, k, none⟩ u) g v L := by
  obtain ⟨tb, o, c, rfl, hc, ht, hBw, hg, hty, hx⟩ := h
  have ht' : (w.setCell ⟨b, k, none⟩ u).heap[tb]? = w.heap[tb]? := Below.heap_setCell _ _ _ _ (show tb ≠ b by omega)
  refine ⟨tb, o, c, rfl, hc, ht, by simpa using hBw, hg, (by rw [ht']; exact hty), fun ix x hix => ?_⟩
  have e : ∀ j, (w.setCell ⟨b, k, none⟩ u).cell? ⟨tb, j, none⟩ = w.cell? ⟨tb, j, none⟩ := fun j => by simp only [World.cell?, ht']
  rw [e, e, e]
  exact hx ix x hix
end Go.Proofs.YthhemephaabblaaGreatDoor.Hq
namespace Go.Proofs
open Go.Shelf Go.RowKit
end Go.Proofs
namespace Go.Proofs.YthhemephaabblaaGreatDoor.Hq
open Go.RowKit Go.Proofs.YthhemephaabblaaGreatDoorW.PrintWords Go.Proofs.YthhemephaabblaaGreatDoorW.PrintLast Go.Proofs.YthhemephaabblaaGreatDoorW.PrintMore Go.Proofs.YthhemephaabblaaGreatDoor Go.Proofs.YthhemephaabblaaGreatDoor.Q Go.Proofs.YthhemephaabblaaGreatDoor.R
set_option linter.unusedVariables false
set_option linter.unusedSimpArgs false

/-- The variables that strconv reads. -/
structure Glob2 (w : World) : Prop where
  tab : Glob w
  syn : ∃ tp p, w.var? Tryz.prog "strconv.ErrSyntax" = some #[.iface tp p]
end Go.Proofs.YthhemephaabblaaGreatDoor.Hq
namespace Go.Proofs.YthhemephaabblaaGreatDoor.Hq
open Go.RowKit Go.Lib
set_option linter.unusedVariables false
set_option linter.unusedSimpArgs false

theorem var_iface {H : Type} {enc : TypeId × Value → H} {P : Program} {w : World} {base : Nat} {sp : Nat → Bool} {held : Bool} {fuel : Nat} {ti : TypeId} {ms : Array (String × TypeId)} {cs : List Value} {n : String} {d : DataW H} {p : List MemPlace}
    (hi : P.underlying ti = some (.interface ms)) (h : DataW.trod enc P w base sp held fuel ti cs = some (.iface n d, p)) : ∃ tp v, cs = [.iface tp v] := by
  cases fuel with
  | zero => simp [DataW.trod] at h
  | succ m =>
    unfold DataW.trod at h
    rw [hi] at h
    split at h <;> simp_all
def laidL : List (String × DataW Unit) := [("math/bits.deBruijn32tab", Rows.laid_math_bits_deBruijn32tab), ("math/bits.deBruijn64tab", Rows.laid_math_bits_deBruijn64tab), ("internal/strconv.uint64pow10", Rows.laid_internal_strconv_uint64pow10), ("strconv.ErrRange", Rows.laid_strconv_ErrRange), ("strconv.ErrSyntax", Rows.laid_strconv_ErrSyntax)]
theorem syn_at {P : Program} {n nm : String} {d : DataW Unit} {r : List (String × DataW Unit)} {W : World} {g : Nat} {ti : TypeId} {ms : Array (String × TypeId)} (h : laidMet P ((n, .iface nm d) :: r) W) (hg : P.globalNamed n = some g) (ht : (P.globals[g]?).map (·.type) = some ti) (hi : P.underlying ti = some (.interface ms)) : ∃ tp p, W.var? P n = some #[.iface tp p] := by
  obtain ⟨ps, ⟨g0, t0, cs0, f0, p0, q0, hg0, ht0, hv0, hd0, _, e0⟩, _, hrows⟩ := h
  obtain rfl := Option.some.inj (hg.symm.trans hg0)
  obtain rfl := Option.some.inj (ht.symm.trans ht0)
  obtain ⟨l0⟩ := cs0
  obtain ⟨tp, v, rfl⟩ := var_iface hi hd0
  exact ⟨tp, v, hv0⟩
theorem glob_of_laid {W : World} (h : laidMet Tryz.prog laidL W) : Glob2 W := by
  have hp : laidMet Tryz.prog (("internal/strconv.uint64pow10", Lib.tabData .u64 Lib.pow10Tab) :: [("strconv.ErrRange", Rows.laid_strconv_ErrRange), ("strconv.ErrSyntax", Rows.laid_strconv_ErrSyntax)]) W := h.tail.tail
  refine ⟨⟨Lib.tabIs_of_head (g := 3) (t := 183) (e := 156) (n := 20) (by kernel_rfl) (by kernel_rfl) Tryz.underlying183 Tryz.underlying156 (by kernel_rfl) (by kernel_rfl) hp⟩, ?_⟩
  have hs : laidMet Tryz.prog (("strconv.ErrSyntax", Rows.laid_strconv_ErrSyntax) :: []) W := hp.tail.tail
  exact syn_at (g := 0) hs (by kernel_rfl) (by kernel_rfl) Tryz.underlying91
/-! ### a world in which the variables are laid -/
noncomputable def put (h : Array Obj) (g : Nat) (cs : Array Value) : Array Obj := h.modify g fun
  | .cells _ t frozen => .cells cs t frozen
  | o => o
def b32 : List Int := [0, 1, 28, 2, 29, 14, 24, 3, 30, 22, 20, 15, 25, 17, 4, 8, 31, 27, 13, 23, 21, 19, 16, 7, 26, 12, 18, 6, 11, 5, 10, 9]
def b64 : List Int := [0, 1, 56, 2, 57, 49, 28, 3, 61, 58, 42, 50, 38, 29, 17, 4, 62, 47, 59, 36, 45, 43, 51, 22, 53, 39, 33, 30, 24, 18, 12, 5, 63, 55, 48, 27, 60, 41, 37, 16, 46, 35, 44, 21, 52, 32, 23, 11, 54, 26, 40, 15, 34, 20, 31, 10, 25, 14, 19, 9, 13, 8, 7, 6]
noncomputable def laidWorld (os : Os) : World :=
  let N := (World.settled Tryz.prog os).heap.size
  let w0 := World.holding Tryz.prog os ⟨#[.cells #[.string ⟨#[105, 110, 118, 97, 108, 105, 100, 32, 115, 121, 110, 116, 97, 120]⟩] 190, .cells #[.string ⟨#[118, 97, 108, 117, 101, 32, 111, 117, 116, 32, 111, 102, 32, 114, 97, 110, 103, 101]⟩] 190], #[], []⟩
  let h0 := put (put w0.heap 0 #[.iface 188 (.pointer (some ⟨N, 0, none⟩))]) 1 #[.iface 188 (.pointer (some ⟨N + 1, 0, none⟩))]
  let h1 := put (put (put h0 3 (Lib.pow10Tab.map (Value.int .u64)).toArray) 4 (b32.map (Value.int .u8)).toArray) 5 (b64.map (Value.int .u8)).toArray
  { w0 with heap := h1 }
theorem laid_met (os : Os) (args : Array Value) : laidMet Tryz.prog laidL ((laidWorld os).forCall (fun _ _ => 0) ⟨#[], args, []⟩).memory :=
  laidMet_of_run' 8 (by kernel_rfl) (by kernel_rfl)
end Go.Proofs.YthhemephaabblaaGreatDoor.Hq
namespace Go.Proofs.YthhemephaabblaaGreatDoor.Hq
open Go.RowKit Go.Proofs.YthhemephaabblaaGreatDoorW.PrintWords Go.Proofs.YthhemephaabblaaGreatDoorW.PrintLast Go.Proofs.YthhemephaabblaaGreatDoorW.PrintMore Go.Proofs.YthhemephaabblaaGreatDoor Go.Proofs.YthhemephaabblaaGreatDoor.Q Go.Proofs.YthhemephaabblaaGreatDoor.R
set_option linter.unusedVariables false
set_option linter.unusedSimpArgs false

/-- v is a row of the call's own (from block B on) that holds these tests of the document's. -/
def Te (B : Nat) (w : World) (v : Value) (ts : List Tst) : Prop := w.ownsRow B 70 3 v ts.length (ts.flatMap tcells)
theorem te_C {B : Nat} {w : World} {v : Value} {ts : List Tst} (h : Te B w v ts) (hl : ts.length ≤ 1000000000) : ∃ A c, v = .slice A ts.length c ∧ ts.length ≤ c ∧ Kd.C k70 w A ts.length (ts.map t70) := by
  obtain ⟨A, c, rfl, hc⟩ := own_form h
  refine ⟨A, c, rfl, hc, by rw [List.length_map], by omega, fun hp => ?_⟩
  rcases h.2 with ⟨he, h0⟩ | ⟨g, cap, cur, he, _⟩
  · omega
  · injection he with hA _ _
    subst hA
    refine ⟨_, rfl, fun j p hj => ⟨[.string p.f0, .int .i64 p.f1, .string p.f2], rfl, k70_mk w p, fun i u hu => ?_⟩⟩
    have hi : i < 3 := (List.getElem?_eq_some_iff.1 hu).1
    have e : k70.sz = 3 := rfl
    rw [e]
    refine World.ownsRow.cells h (g := g) rfl _ _ ?_
    rw [List.getElem?_map] at hj
    cases hx : ts[j]? with
    | none => rw [hx] at hj; cases hj
    | some y =>
      rw [hx] at hj
      obtain rfl := Option.some.inj hj
      rw [flat_get ts j i y hx hi]
      exact hu
end Go.Proofs.YthhemephaabblaaGreatDoor.Hq
namespace Go.Proofs.YthhemephaabblaaGreatDoor.Hq
open Go.RowKit Go.ChangeShapes Go.WideShapes Go.ChangeAt Go.Proofs.YthhemephaabblaaGreatDoorW.PrintWords Go.Proofs.YthhemephaabblaaGreatDoorW.PrintLast Go.Proofs.YthhemephaabblaaGreatDoorW.PrintMore Go.Proofs.YthhemephaabblaaGreatDoor Go.Proofs.YthhemephaabblaaGreatDoor.Q Go.Proofs.YthhemephaabblaaGreatDoor.R
set_option linter.unusedVariables false
set_option linter.unusedSimpArgs false

theorem bulk_one_le {H : Type} (d : DataW H) : 1 ≤ Rows.uptoBulk d := by
  cases d with
  | lit l => cases l <;> simp [Rows.uptoBulk]
  | nil => simp [Rows.uptoBulk]
  | ptr d => simp [Rows.uptoBulk]
  | slice elems spare => simp [Rows.uptoBulk]
  | agg parts => simp [Rows.uptoBulk]
  | iface t d => simp [Rows.uptoBulk]
  | map entries => simp [Rows.uptoBulk]
  | held h => simp [Rows.uptoBulk]
theorem bulk_length {H : Type} (l : List (DataW H)) : l.length ≤ Rows.uptoBulkAll l := by
  induction l with
  | nil => simp [Rows.uptoBulkAll]
  | cons x r ih => have := bulk_one_le x; simp only [Rows.uptoBulkAll, List.length_cons]; omega
theorem bulk_mem {H : Type} : ∀ (l : List (DataW H)) (d : DataW H), d ∈ l → Rows.uptoBulk d ≤ Rows.uptoBulkAll l
  | x :: l, d, h => by
    simp only [Rows.uptoBulkAll]
    rcases List.mem_cons.1 h with rfl | h
    · omega
    · have := bulk_mem l d h; omega
section
variable {H : Type} {enc : TypeId × Value → H} {w : World} {fuel : Nat} {v : Value}
theorem cells9 : Tryz.prog.cellsOf 9 = 1 := by kernel_rfl
theorem cells22 : Tryz.prog.cellsOf 22 = 1 := by kernel_rfl
theorem cells29 : Tryz.prog.cellsOf 29 = 1 := by kernel_rfl
theorem cells70 : Tryz.prog.cellsOf 70 = 3 := by kernel_rfl
theorem cells4 : Tryz.prog.cellsOf 4 = 1 := by kernel_rfl
theorem cells3 : Tryz.prog.cellsOf 3 = 1 := by kernel_rfl
theorem open_strs {y : DataW H × List MemPlace} {cs : List Value} (h : DataW.trod enc Tryz.prog w 0 (fun _ => true) true fuel 22 cs = some y) :
    ∃ (A : Option Addr) (c : Nat) (xs : List (List UInt8)), cs = [.slice A xs.length c] ∧ xs.length ≤ c ∧ Kd.C Kd.string w A xs.length (xs.map strB) ∧ xs.length + 1 ≤ Rows.uptoBulk y.1 ∧ ∀ x ∈ xs, x.length + 1 ≤ Rows.uptoBulk y.1 := by
  rcases open_strings Tryz.underlying22 Tryz.underlying9 cells9 h with ⟨rfl, hy⟩ | ⟨a, len, cap, ss, rfl, _, hl, hm, hss, hy, hcell, hsz⟩
  · exact ⟨none, 0, [], rfl, Nat.le_refl _, ⟨rfl, by simp, fun hp => by simp at hp⟩, by rw [hy]; simp [Rows.uptoBulk], fun x hx => by cases hx⟩
  · have hss' : ss.length = cap := by simpa using hss
    have e1 : ((ss.take len).map fun b => b.data.toList).length = len := by simp; omega
    have e2 : ((ss.take len).map fun b => b.data.toList).map strB = ss.take len := by
      rw [List.map_map]; exact (List.map_congr_left (fun b _ => strB_data b)).trans (List.map_id _)
    refine ⟨some a, cap, (ss.take len).map fun b => b.data.toList, by rw [e1], by rw [e1]; exact hl, ?_, ?_, ?_⟩
    · rw [e1, e2]
      refine ⟨by simp; omega, by unfold maxLen at hm; omega, fun hp => ⟨a, rfl, fun j p hj => ?_⟩⟩
      have hjl : j < len := by have := (List.getElem?_eq_some_iff.1 hj).1; simp at this; omega
      rw [List.getElem?_take_of_lt hjl] at hj
      refine ⟨[.string p], rfl, rfl, fun i u hu => ?_⟩
      have hi : i = 0 := by have := (List.getElem?_eq_some_iff.1 hu).1; simpa using this
      subst hi
      simp only [List.getElem?_cons_zero, Option.some.injEq] at hu
      subst hu
      have e : Kd.string.sz = 1 := rfl
      rw [e, Nat.mul_one, Nat.add_zero]
      have := hcell j (by omega)
      rw [List.getD_eq_getElem?_getD, hj] at this
      exact this
    · rw [e1, hy]
      simp only [Rows.uptoBulk]
      have h1 := bulk_length (strs (H := H) (ss.take len))
      have h2 : (strs (H := H) (ss.take len)).length = len := by simp [strs]; omega
      omega
    · intro x hx
      obtain ⟨b, hb, rfl⟩ := List.mem_map.1 hx
      rw [hy]
      simp only [Rows.uptoBulk]
      have h1 := bulk_mem (strs (H := H) (ss.take len)) (.lit (.string b.data.toList)) (by unfold strs; exact List.mem_map.2 ⟨b, hb, rfl⟩)
      simp only [Rows.uptoBulk] at h1
      omega
set_option maxRecDepth 100000 in
theorem open_test {y : DataW H × List MemPlace} {cs : List Value} (h : DataW.trod enc Tryz.prog w 0 (fun _ => true) true fuel 70 cs = some y) :
    ∃ t : Tst, cs = [.string (strB t.col), .int .i64 t.op, .string (strB t.val)] ∧ t.col.length + 1 ≤ Rows.uptoBulk y.1 ∧ t.val.length + 1 ≤ Rows.uptoBulk y.1 := by
  obtain ⟨xs, n, rfl, hy, hcl, hxl, hf⟩ := DataW.trod_struct Tryz.underlying70 h
  have f0 : DataW.trod enc Tryz.prog w 0 (fun _ => true) true n 9 ((cs.drop 0).take (Tryz.prog.cellsOf 9)) = xs[0]? := hf 0 _ rfl
  have f1 : DataW.trod enc Tryz.prog w 0 (fun _ => true) true n 3 ((cs.drop 1).take (Tryz.prog.cellsOf 3)) = xs[1]? := hf 1 _ rfl
  have f2 : DataW.trod enc Tryz.prog w 0 (fun _ => true) true n 9 ((cs.drop 2).take (Tryz.prog.cellsOf 9)) = xs[2]? := hf 2 _ rfl
  rw [cells70] at hcl
  simp only [cells9, cells3] at f0 f1 f2
  match xs, hxl, cs, hcl with
  | [x0, x1, x2], _, [v0, v1, v2], _ =>
    simp only [List.drop_zero, List.drop_succ_cons, List.take_succ_cons, List.take_zero, List.getElem?_cons_zero, List.getElem?_cons_succ] at f0 f1 f2
    obtain ⟨s0, e0, rfl, h0⟩ := DataW.trod_string Tryz.underlying9 f0
    obtain ⟨n1, e1, rfl, h1⟩ := DataW.trod_int Tryz.underlying3 f1
    obtain ⟨s2, e2, rfl, h2⟩ := DataW.trod_string Tryz.underlying9 f2
    simp only [List.cons.injEq, and_true] at e0 e1 e2
    subst e0 e1 e2
    refine ⟨⟨s0.data.toList, n1, s2.data.toList⟩, by simp only [strB_data], ?_, ?_⟩
    · rw [hy]; simp only [List.map_cons, List.map_nil, Rows.uptoBulk, Rows.uptoBulkAll]; omega
    · rw [hy]; simp only [List.map_cons, List.map_nil, Rows.uptoBulk, Rows.uptoBulkAll]; omega
theorem open_tests {y : DataW H × List MemPlace} {cs : List Value} (h : DataW.trod enc Tryz.prog w 0 (fun _ => true) true fuel 29 cs = some y) :
    ∃ (A : Option Addr) (c : Nat) (ts : List Tst), cs = [.slice A ts.length c] ∧ ts.length ≤ c ∧ Kd.C k70 w A ts.length (ts.map t70) ∧ ts.length + 1 ≤ Rows.uptoBulk y.1 ∧ ∀ t ∈ ts, t.col.length + 1 ≤ Rows.uptoBulk y.1 ∧ t.val.length + 1 ≤ Rows.uptoBulk y.1 := by
  rcases DataW.trod_slice Tryz.underlying29 h with ⟨rfl, hy⟩ | ⟨a', len, cap, elems, rest, m, _, rfl, hx, hb, hl, hm, hlen, hel, hsp, hns⟩
  · exact ⟨none, 0, [], rfl, Nat.le_refl _, ⟨rfl, by simp, fun hp => by simp at hp⟩, by rw [hy]; simp [Rows.uptoBulk], fun x hx => by cases hx⟩
  · have key : ∀ i, ∃ t : Tst, ∀ y, elems[i]? = some y → (∀ j u, (tcells t)[j]? = some u → w.cell? (a'.add (i * 3 + j)) = some u) ∧ t.col.length + 1 ≤ Rows.uptoBulk y.1 ∧ t.val.length + 1 ≤ Rows.uptoBulk y.1 := by
      intro i
      by_cases hi : i < elems.length
      · have h1 := hel i (by omega)
        rw [List.getElem?_eq_getElem hi, cells70, Option.bind_eq_some_iff] at h1
        obtain ⟨cs', hcs', hy⟩ := h1
        obtain ⟨t, rfl, h2, h3⟩ := open_test hy
        refine ⟨t, fun y hy' => ?_⟩
        rw [List.getElem?_eq_getElem hi] at hy'
        cases hy'
        refine ⟨fun j u hu => ?_, h2, h3⟩
        have hj : j < 3 := (List.getElem?_eq_some_iff.1 hu).1
        obtain ⟨_, hlen', hcell⟩ := World.cells?_some hcs'
        have h4 := hcell j hj
        have h5 : (a'.add (i * 3)).add j = a'.add (i * 3 + j) := Go.Proofs.YthhemephaabblaaGreatDoorW.PrintWords.add_add _ _ _
        rw [h5] at h4
        rw [h4]
        have hj3 : j = 0 ∨ j = 1 ∨ j = 2 := by omega
        rcases hj3 with rfl | rfl | rfl
        · simpa [tcells] using hu
        · simpa [tcells] using hu
        · simpa [tcells] using hu
      · exact ⟨⟨[], 0, []⟩, fun y hy => by rw [List.getElem?_eq_none (by omega)] at hy; cases hy⟩
    obtain ⟨f, hfq⟩ := Classical.axiomOfChoice key
    have hel' : ∀ i, i < elems.length → elems[i]? = some (elems[i]?.getD (.nil, [])) := fun i hi => by rw [List.getElem?_eq_getElem hi]; rfl
    have hd : y.1 = .slice (elems.map (·.1)) (rest.map (·.1)) := congrArg Prod.fst hx
    have hbl : ∀ i, i < elems.length → (f i).col.length + 1 ≤ Rows.uptoBulk y.1 ∧ (f i).val.length + 1 ≤ Rows.uptoBulk y.1 := by
      intro i hi
      obtain ⟨_, h2, h3⟩ := hfq i _ (hel' i hi)
      have h4 := bulk_mem (elems.map (·.1)) (elems[i]?.getD (.nil, [])).1 (List.mem_map.2 ⟨_, List.mem_of_getElem? (hel' i hi), rfl⟩)
      rw [hd]
      simp only [Rows.uptoBulk]
      omega
    refine ⟨some a', cap, (List.range len).map f, by simp, by simpa using hl, ⟨by simp, by simp; unfold maxLen at hm; omega, fun hp => ⟨a', rfl, fun j p hj => ?_⟩⟩, ?_, ?_⟩
    · have hjl : j < len := by have := (List.getElem?_eq_some_iff.1 hj).1; simpa using this
      have hp' : p = t70 (f j) := by
        rw [List.getElem?_map, List.getElem?_map, List.getElem?_range hjl] at hj
        exact (Option.some.inj hj).symm
      subst hp'
      obtain ⟨h1, _⟩ := hfq j _ (hel' j (by omega))
      exact ⟨[.string (strB (f j).col), .int .i64 (f j).op, .string (strB (f j).val)], rfl, k70_mk w (t70 (f j)), fun i u hu => h1 i u hu⟩
    · rw [hd]
      simp only [Rows.uptoBulk, List.length_map, List.length_range]
      have h1 := bulk_length (elems.map (·.1))
      rw [List.length_map, hlen] at h1
      omega
    · intro t ht
      obtain ⟨i, hi, rfl⟩ := List.mem_map.1 ht
      exact hbl i (by have := List.mem_range.1 hi; omega)
set_option maxRecDepth 100000 in
/-- an argument of the document's Query -/
theorem open_arg_q {r : Reach} {b0 : Nat} {d : DataW H} {p : List MemPlace} (hv : Value.okWide Tryz.prog w r b0 31 v) (h : DataW.Trod enc Tryz.prog w 0 (fun _ => true) true 31 v d p) :
    ∃ (q : Qry) (A5 : Option Addr) (c5 : Nat) (A7 : Option Addr) (c7 : Nat), v = .agg #[.slice A5 q.cols.length c5, .string (strB q.tab), .slice A7 q.wh.length c7, .string (strB q.ord), .bool q.down, .int .i64 q.lim] ∧ q.cols.length ≤ c5 ∧ q.wh.length ≤ c7 ∧ Kd.C Kd.string w A5 q.cols.length (q.cols.map strB) ∧ Kd.C k70 w A7 q.wh.length (q.wh.map t70) ∧
      q.cols.length ≤ Rows.uptoBulk d ∧ q.wh.length ≤ Rows.uptoBulk d ∧ (Rows.uptoBulk d ≤ 1000000000 → okQ q) := by
  obtain ⟨cs, rfl, hsz⟩ := okWide_struct Tryz.underlying31 hv
  obtain ⟨fuel, hf⟩ := h
  obtain ⟨xs, n, rfl, hy, hcl, hxl, hfl⟩ := DataW.trod_struct Tryz.underlying31 hf
  have f0 : DataW.trod enc Tryz.prog w 0 (fun _ => true) true n 22 ((cs.toList.drop 0).take (Tryz.prog.cellsOf 22)) = xs[0]? := hfl 0 _ rfl
  have f1 : DataW.trod enc Tryz.prog w 0 (fun _ => true) true n 9 ((cs.toList.drop 1).take (Tryz.prog.cellsOf 9)) = xs[1]? := hfl 1 _ rfl
  have f2 : DataW.trod enc Tryz.prog w 0 (fun _ => true) true n 29 ((cs.toList.drop 2).take (Tryz.prog.cellsOf 29)) = xs[2]? := hfl 2 _ rfl
  have f3 : DataW.trod enc Tryz.prog w 0 (fun _ => true) true n 9 ((cs.toList.drop 3).take (Tryz.prog.cellsOf 9)) = xs[3]? := hfl 3 _ rfl
  have f4 : DataW.trod enc Tryz.prog w 0 (fun _ => true) true n 4 ((cs.toList.drop 4).take (Tryz.prog.cellsOf 4)) = xs[4]? := hfl 4 _ rfl
  have f5 : DataW.trod enc Tryz.prog w 0 (fun _ => true) true n 3 ((cs.toList.drop 5).take (Tryz.prog.cellsOf 3)) = xs[5]? := hfl 5 _ rfl
  simp only [cells9, cells3, cells4, cells22, cells29] at f0 f1 f2 f3 f4 f5
  have hcl' : cs.toList.length = 6 := by
    have : Tryz.prog.cellsOf 31 = 6 := by kernel_rfl
    simpa [this, Value.cells] using hsz
  obtain ⟨l, hl⟩ : ∃ l, cs = l.toArray := ⟨cs.toList, by simp⟩
  subst hl
  simp only [List.toList_toArray] at f0 f1 f2 f3 f4 f5 hcl'
  match xs, hxl, l, hcl' with
  | [x0, x1, x2, x3, x4, x5], _, [v0, v1, v2, v3, v4, v5], _ =>
    simp only [List.drop_zero, List.drop_succ_cons, List.take_succ_cons, List.take_zero, List.getElem?_cons_zero, List.getElem?_cons_succ] at f0 f1 f2 f3 f4 f5
    obtain ⟨A5, c5, cols, e0, hc5, hC5, hb5, hx5⟩ := open_strs f0
    obtain ⟨s1, e1, rfl, h1⟩ := DataW.trod_string Tryz.underlying9 f1
    obtain ⟨A7, c7, wh, e2, hc7, hC7, hb7, hx7⟩ := open_tests f2
    obtain ⟨s3, e3, rfl, h3⟩ := DataW.trod_string Tryz.underlying9 f3
    obtain ⟨b4, e4, rfl⟩ := DataW.trod_bool Tryz.underlying4 f4
    obtain ⟨n5, e5, rfl, h5⟩ := DataW.trod_int Tryz.underlying3 f5
    simp only [List.cons.injEq, and_true] at e0 e1 e2 e3 e4 e5
    subst e0 e1 e2 e3 e4 e5
    have hd : Rows.uptoBulk d = Rows.uptoBulk x0.1 + (s1.data.toList.length + 1) + Rows.uptoBulk x2.1 + (s3.data.toList.length + 1) + 1 + 1 + 1 := by
      have h0 : d = _ := congrArg Prod.fst hy
      rw [h0]
      simp only [List.map_cons, List.map_nil, Rows.uptoBulk, Rows.uptoBulkAll]
      omega
    refine ⟨⟨cols, s1.data.toList, wh, s3.data.toList, b4, n5⟩, A5, c5, A7, c7, by simp only [strB_data], hc5, hc7, hC5, hC7, ?_, ?_, fun hB => ?_⟩
    · show cols.length ≤ _; omega
    · show wh.length ≤ _; omega
    · refine ⟨fun c hc => ?_, ?_, fun t ht => ?_, ?_, ?_, ?_⟩
      · have := hx5 c hc; omega
      · show s1.data.toList.length ≤ _; omega
      · have := hx7 t ht; omega
      · show s3.data.toList.length ≤ _; omega
      · show cols.length ≤ _; omega
      · show wh.length ≤ _; omega
end
end Go.Proofs.YthhemephaabblaaGreatDoor.Hq
namespace Go.Proofs.YthhemephaabblaaGreatDoor.Hq
open Go.RowKit Go.Proofs.YthhemephaabblaaGreatDoorW.PrintWords Go.Proofs.YthhemephaabblaaGreatDoorW.PrintLast Go.Proofs.YthhemephaabblaaGreatDoorW.PrintMore Go.Proofs.YthhemephaabblaaGreatDoor Go.Proofs.YthhemephaabblaaGreatDoor.Q Go.Proofs.YthhemephaabblaaGreatDoor.R
set_option linter.unusedVariables false
set_option linter.unusedSimpArgs false

theorem own_app2 {P : Program} {base : Nat} {W : World} (t ty e : TypeId) (i : TypeInfo) (z : Value) (size bytes : Nat) (ht : P.underlying t = some (.slice e)) (hi : P.info? e = some i) (hz : i.zero = some z) (hsize : i.size = size) (hby : i.bytes = bytes) (hzs : z.cells.size = size) (hsz : 0 < size) (hb0 : 0 < bytes)
    {v : Value} {n : Nat} {L : List Value} (hown : W.ownsRow base e size v n L) (A : Option Addr) (m c : Nat) (news : List Value) (hl : news.length = m * size) (hnews : 0 < m → ∃ a, A = some a ∧ ∀ j u, news[j]? = some u → W.cell? (a.add j) = some u) (h1 : ∀ u ∈ news, u.oneCell' = true)
    (hbytes : (n + m) * bytes ≤ 140737488355328) (hbase : base ≤ W.heap.size) :
    ∃ v1 w1, (Builtin.append_ #[t, t] ty #[v, .slice A m c]).run P W = .ok v1 w1 ∧ w1.ownsRow base e size v1 (n + m) (L ++ news) ∧ W.grownBy w1 v.ownBlock ∧ ∀ u n' L', (n' ≤ n ∨ (n' ≤ n + m ∧ L' = (L ++ news).take (n' * size))) → W.ownsRow base e size u n' L' → w1.ownsRow base e size u n' L' := by
  have hlen : n + m ≤ 140737488355328 := Nat.le_trans (Nat.le_mul_of_pos_right _ hb0) hbytes
  rcases Nat.eq_zero_or_pos m with h0 | h0
  · subst h0
    have hn0 : news = [] := List.eq_nil_of_length_eq_zero (by omega)
    subst hn0
    refine ⟨v, W, ?_, by simpa using hown, ⟨rfl, rfl, rfl, Nat.le_refl _, fun _ _ _ => rfl⟩, fun u n' L' _ h => h⟩
    rcases hown.2 with ⟨rfl, hn⟩ | ⟨g, cap, cur, rfl, hb, hh, hnc, hcm, hcs, ht2⟩
    · cases A with
      | none => simp [Builtin.append_, run_underlying ht, sizeOf, typeInfo, hi, Builtin.lenOf, Builtin.firstCells, storeCells]
      | some a => simp [Builtin.append_, run_underlying ht, sizeOf, typeInfo, hi, Builtin.lenOf, Builtin.firstCells, storeCells, loadCells, loadCellsFrom]
    · cases A with
      | none => simp [Builtin.append_, run_underlying ht, sizeOf, typeInfo, hi, Builtin.lenOf, Builtin.firstCells, storeCells, hnc]
      | some a => simp [Builtin.append_, run_underlying ht, sizeOf, typeInfo, hi, Builtin.lenOf, Builtin.firstCells, storeCells, loadCells, loadCellsFrom, hnc]
  · obtain ⟨a, rfl, hnw⟩ := hnews h0
    obtain ⟨v1, w1, hr, hown1, hg, _, _⟩ := run_append_own_at (P := P) W base t ty e i z size bytes ht hi hz hsize hby hzs hsz v n L hown a m c news hl hnw h1 (by simp only [maxLen]; omega) hbytes hbase
    refine ⟨v1, w1, hr, hown1, hg, fun u n' L' hn' hu => ?_⟩
    by_cases hne : u.ownBlock = none ∨ v.ownBlock ≠ u.ownBlock
    · refine World.ownsRow.kept hu hg ?_
      rcases hne with h | h
      · exact .inl h
      · exact .inr (fun e => h e.symm)
    · have hub : u.ownBlock ≠ none := fun e => hne (.inl e)
      have hvu : v.ownBlock = u.ownBlock := by
        by_cases h : v.ownBlock = u.ownBlock
        · exact h
        · exact absurd (.inr h) hne
      rcases hu.2 with ⟨rfl, _⟩ | ⟨g, cap, cur, rfl, hb, hh, hnc, hcm, hcs, htk⟩
      · exact absurd rfl hub
      rcases hown.2 with ⟨rfl, _⟩ | ⟨g', cap', cur', rfl, hb', hh', hnc', hcm', hcs', htk'⟩
      · exact absurd hvu.symm hub
      have hgg : g' = g := by simpa [Value.ownBlock] using hvu
      subst hgg
      rw [hh] at hh'
      cases hh'
      have hcc : cap = cap' := Nat.eq_of_mul_eq_mul_right hsz (hcs.symm.trans hcs')
      subst hcc
      have hcl : cur.toList.length = cap * size := by simp [hcs]
      have hns : n * size ≤ cap * size := Nat.mul_le_mul_right _ hnc'
      by_cases hroom : n + m ≤ cap
      · have hmul : (n + m) * size ≤ cap * size := Nat.mul_le_mul_right _ hroom
        rw [Nat.add_mul] at hmul
        have hr2 := run_append_room (P := P) W t ty e i ht hi g' n cap cur hh a m c news (by rw [hl, hsize]) hnw h1 hroom (by rw [hsize, hl, hcs]; omega)
        rw [hr2] at hr
        injection hr with _ hw
        subst hw
        refine ⟨hu.1, .inr ⟨g', cap, _, rfl, hb, setRow_heap _ _ _ _ _ _ hh, hnc, hcm, ?_, ?_⟩⟩
        · rw [hsize, List.size_toArray, List.length_append, List.length_append, List.length_take, List.length_drop, hcl, hl]
          omega
        · rw [hsize]
          rcases hn' with hn' | ⟨hn', hL'⟩
          · have hns' : n' * size ≤ n * size := Nat.mul_le_mul_right _ hn'
            rw [List.append_assoc, List.take_append_of_le_length (by rw [List.length_take, hcl]; omega), List.take_take, Nat.min_eq_left hns']
            exact htk
          · have hns' : n' * size ≤ (n + m) * size := Nat.mul_le_mul_right _ hn'
            rw [Nat.add_mul] at hns'
            rw [htk', List.take_append_of_le_length (by rw [List.length_append, hown.1, hl]; exact hns')]
            exact hL'.symm
      · have hL : L.length = n * i.size := by rw [hsize]; exact hown.1
        have hr2 := run_append_grow (P := P) W t ty e i z ht hi hz ⟨g', 0, none⟩ n cap L hL (fun j u hu => hown.cells (g := g') rfl j u hu) a m c news (by rw [hl, hsize]) hnw (by omega) (by omega) (growslice_fits (by omega) (by rw [hby]; omega))
        rw [hr2] at hr
        injection hr with _ hw
        subst hw
        exact own_ext hu (((Ext.refl W).drew).alloc _)
def wMark : List UInt8 := [109, 97, 114, 107]
/-- Behind the append of the mark a row of strings that was readable still is. -/
def SpM (B : Nat) (X : List (List UInt8)) (W W' : World) : Prop := Below B W W' ∧ ∀ u xs, (xs.length ≤ X.length ∨ xs = [wMark] ∨ xs = X ++ [wMark]) → Sr B W u xs → Sr B W' u xs
theorem sr_mark {B : Nat} {W : World} (ty : TypeId) {v : Value} {xs : List (List UInt8)} (hO : Sr B W v xs) {y : Value} (hy : Sr B W y [wMark]) (hB : B ≤ W.heap.size) (hl : xs.length ≤ 100000000) :
    ∃ v1 w1, (Builtin.append_ #[22, 22] ty #[v, y]).run Tryz.prog W = .ok v1 w1 ∧ Sr B w1 v1 (xs ++ [wMark]) ∧ SpM B xs W w1 := by
  obtain ⟨i0, hi, hzz⟩ := Option.map_eq_some_iff.1 Hq.info9
  simp only [Prod.mk.injEq] at hzz
  obtain ⟨hz0, hz1, hz2⟩ := hzz
  obtain ⟨g, c, rfl, hc, hb, hlt, hcell⟩ := hy.shape (by decide)
  obtain ⟨v1, w1, hr, hown, hg, hold⟩ := own_app2 (P := Tryz.prog) 22 ty 9 i0 (.string ⟨#[]⟩) 1 16 Tryz.underlying22 hi hz0 hz1 hz2 rfl (by decide) (by decide) hO (some ⟨g, 0, none⟩) 1 c [sv wMark] rfl (fun _ => ⟨_, rfl, fun j u hu => by
    match j, hu with
    | 0, hu =>
      obtain rfl := Option.some.inj hu
      rw [addr_add]
      exact hcell 0 wMark rfl⟩) (by intro u hu; simp only [List.mem_cons, List.not_mem_nil, or_false] at hu; subst hu; rfl) (by omega) hB
  refine ⟨v1, w1, hr, ?_, (Below.refl B W).grown hg hB (own_base hO), fun u zs hz hu => ?_⟩
  · unfold Sr
    rw [List.length_append, List.map_append]
    exact hown
  · refine hold u zs.length _ ?_ hu
    rcases hz with hz | rfl | rfl
    · exact .inl hz
    · by_cases h1 : 1 ≤ xs.length
      · exact .inl h1
      · obtain rfl : xs = [] := List.eq_nil_of_length_eq_zero (by omega)
        exact .inr ⟨by simp, rfl⟩
    · exact .inr ⟨by simp, by rw [List.take_of_length_le (by simp)]; simp⟩
def tMark : Tst := ⟨[], 77, []⟩
theorem Sr.grown_tr {B B' : Nat} {W W1 : World} {v u : Value} {xs : List (List UInt8)} {ts : List Tst} (h : Sr B W v xs) (ht : Tr B' W u ts) (hG : W.grownBy W1 u.ownBlock) : Sr B W1 v xs := by
  refine World.ownsRow.kept h hG ?_
  rcases h.2 with ⟨rfl, _⟩ | ⟨g, cap, cur, rfl, hb, hh, _⟩
  · exact .inl rfl
  · refine .inr (fun e => ?_)
    rcases ht.2 with ⟨rfl, _⟩ | ⟨g2, cap2, cur2, rfl, hb2, hh2, _⟩
    · cases e
    · have e2 : g = g2 := Option.some.inj e
      subst e2
      rw [hh] at hh2
      cases hh2
/-- Behind the append of the mark a row of tests that was readable still is; rows of strings too. -/
def SpT (B : Nat) (X : List Tst) (W W' : World) : Prop := Below B W W' ∧ (∀ u xs, (xs.length ≤ X.length ∨ xs = [tMark] ∨ xs = X ++ [tMark]) → Tr B W u xs → Tr B W' u xs) ∧ ∀ u xs, Sr B W u xs → Sr B W' u xs
theorem tcells_len (l : List Tst) : (l.flatMap tcells).length = l.length * 3 := by
  induction l with
  | nil => rfl
  | cons t l ih => rw [List.flatMap_cons, List.length_append, ih, List.length_cons]; simp [tcells]; omega
theorem Tr.form {B : Nat} {W : World} {v : Value} {ts : List Tst} (h : Tr B W v ts) (hp : 0 < ts.length) : ∃ g c, v = .slice (some ⟨g, 0, none⟩) ts.length c ∧ ts.length ≤ c := by
  rcases h.2 with ⟨_, h0⟩ | ⟨g, cap, cur, rfl, hb, hh, hc, _⟩
  · omega
  · exact ⟨g, cap, rfl, hc⟩
theorem tr_mark {B : Nat} {W : World} (ty : TypeId) {v : Value} {ts : List Tst} (hO : Tr B W v ts) {y : Value} (hy : Tr B W y [tMark]) (hB : B ≤ W.heap.size) (hl : ts.length ≤ 100000000) :
    ∃ v1 w1, (Builtin.append_ #[23, 23] ty #[v, y]).run Tryz.prog W = .ok v1 w1 ∧ Tr B w1 v1 (ts ++ [tMark]) ∧ SpT B ts W w1 := by
  obtain ⟨i0, hi, hzz⟩ := Option.map_eq_some_iff.1 info37
  simp only [Prod.mk.injEq] at hzz
  obtain ⟨hz0, hz1, hz2⟩ := hzz
  obtain ⟨g, c, rfl, hc⟩ := hy.form (by decide)
  obtain ⟨v1, w1, hr, hown, hg, hold⟩ := own_app2 (P := Tryz.prog) 23 ty 37 i0 _ 3 40 Tryz.underlying23 hi hz0 hz1 hz2 rfl (by decide) (by decide) hO (some ⟨g, 0, none⟩) 1 c (tcells tMark) rfl (fun _ => ⟨_, rfl, fun j u hu => World.ownsRow.cells hy (g := g) rfl j u hu⟩) (by intro u hu; simp only [tcells, List.mem_cons, List.not_mem_nil, or_false] at hu; rcases hu with rfl | rfl | rfl <;> rfl) (by omega) hB
  refine ⟨v1, w1, hr, ?_, (Below.refl B W).grown hg hB (own_base hO), fun u zs hz hu => ?_, fun u xs hu => hu.grown_tr hO hg⟩
  · unfold Tr
    rw [List.length_append, List.flatMap_append]
    exact (by simpa using hown)
  · refine hold u zs.length _ ?_ hu
    rcases hz with hz | rfl | rfl
    · exact .inl hz
    · by_cases h1 : 1 ≤ ts.length
      · exact .inl h1
      · obtain rfl : ts = [] := List.eq_nil_of_length_eq_zero (by omega)
        exact .inr ⟨by simp, rfl⟩
    · exact .inr ⟨by simp, by
        have e : (ts ++ [tMark]).flatMap tcells = ts.flatMap tcells ++ tcells tMark := by simp
        rw [e, List.take_of_length_le]
        rw [List.length_append, tcells_len, List.length_append]
        simp [tcells]
        omega⟩
/-- A row of strings, copied behind an empty row: memory only grows. -/
theorem sr_copy {B b c0 : Nat} {W : World} (ty : TypeId) {ys : List (List UInt8)} (hO : Sr B W (.slice (some ⟨b, 0, none⟩) 0 0) []) {A : Option Addr} (hA : Kd.C Kd.string W A ys.length (ys.map strB)) (hB : B ≤ W.heap.size) (hl : ys.length ≤ 100000000) :
    ∃ v1 w1, (Builtin.append_ #[22, 22] ty #[.slice (some ⟨b, 0, none⟩) 0 0, .slice A ys.length c0]).run Tryz.prog W = .ok v1 w1 ∧ Sr B w1 v1 ys ∧ Ext W w1 := by
  obtain ⟨i0, hi, hzz⟩ := Option.map_eq_some_iff.1 Hq.info9
  simp only [Prod.mk.injEq] at hzz
  obtain ⟨hz0, hz1, hz2⟩ := hzz
  obtain ⟨v1, w1, hr, hown, hg, hold⟩ := own_app2 (P := Tryz.prog) 22 ty 9 i0 (.string ⟨#[]⟩) 1 16 Tryz.underlying22 hi hz0 hz1 hz2 rfl (by decide) (by decide) hO A ys.length c0 (ys.map sv) (by simp) (fun hp => by
    obtain ⟨hn, bk, o, rfl, hbk, hcell⟩ := strC_cells hA (by simpa using hp)
    refine ⟨_, rfl, fun j u hu => ?_⟩
    rw [List.getElem?_map] at hu
    cases hx : ys[j]? with
    | none => rw [hx] at hu; cases hu
    | some x =>
      rw [hx] at hu
      obtain rfl := Option.some.inj hu
      rw [addr_add]
      exact hcell j x hx) (sv_one ys) (by simp; omega) hB
  have h0 := hold (.slice (some ⟨b, 0, none⟩) 0 0) 0 [] (.inl (Nat.zero_le _)) hO
  refine ⟨v1, w1, hr, ?_, ⟨hg.os, hg.tape, hg.output, hg.size, fun k hk => ?_⟩⟩
  · unfold Sr
    simpa using hown
  · by_cases hkb : k = b
    · subst hkb
      rcases hO.2 with ⟨h, _⟩ | ⟨g1, cap1, cur1, e1, _, hh1, _, _, hs1, _⟩
      · cases h
      rcases h0.2 with ⟨h, _⟩ | ⟨g2, cap2, cur2, e2, _, hh2, _, _, hs2, _⟩
      · cases h
      simp only [Value.slice.injEq, Option.some.injEq, Addr.mk.injEq, and_true, true_and] at e1 e2
      obtain ⟨rfl, _, rfl⟩ := e1
      obtain ⟨rfl, _, rfl⟩ := e2
      have n1 : cur1 = #[] := Array.eq_empty_of_size_eq_zero (by simpa using hs1)
      have n2 : cur2 = #[] := Array.eq_empty_of_size_eq_zero (by simpa using hs2)
      rw [hh1, hh2, n1, n2]
    · exact hg.block k hk (fun e => hkb (Option.some.inj e))
theorem sr_cut {W : World} (A : Option Addr) (n c : Nat) (j : Nat) (hm : j ≤ c) : (Instr.slice 22 (.slice A n c) none (some (.int .i64 (j : Int))) none).run Tryz.prog W = .ok (.slice A j c) W := by
  obtain ⟨i0, hi, hzz⟩ := Option.map_eq_some_iff.1 Hq.info9
  have := cut_cap 22 9 .i64 Tryz.underlying22 hi A n c (j : Int) (by omega) (by omega) W
  simpa using this
theorem tr_cut {W : World} (A : Option Addr) (n c : Nat) (j : Nat) (hm : j ≤ c) : (Instr.slice 23 (.slice A n c) none (some (.int .i64 (j : Int))) none).run Tryz.prog W = .ok (.slice A j c) W := by
  obtain ⟨i0, hi, hzz⟩ := Option.map_eq_some_iff.1 info37
  have := cut_cap 23 37 .i64 Tryz.underlying23 hi A n c (j : Int) (by omega) (by omega) W
  simpa using this
theorem elem22 : Tryz.prog.underlying 22 = some (.slice (Tryz.prog.elem 22)) := by kernel_rfl
theorem elem23 : Tryz.prog.underlying 23 = some (.slice (Tryz.prog.elem 23)) := by kernel_rfl
theorem exec_sliceT {t : TypeId} (ht : Tryz.prog.underlying t = some (.slice (Tryz.prog.elem t))) {w : World} {ρ : Operand → Value} {o : Oper} {x : Operand} {lo hi mx : Option Operand} (ho : o.op = .slice t x lo hi mx) {v : Value} {w1 : World}
    (h : (Instr.slice t (ρ x) (lo.map ρ) (hi.map ρ) (mx.map ρ)).run Tryz.prog w = .ok v w1) : (execOp ρ o).run Tryz.prog w = .ok (.value v) w1 := by
  unfold execOp
  rw [ho]
  simp only [Sem.run_bind, Sem.run_pure, Result.andThen_ok, run_sliceAt_slice _ _ _ _ _ _ ht, h]
/-- append a test that was just laid, in a region of fixed order. -/
theorem tr_app {ops : Array Oper} {rest : List Oper} {o : Oper} {a : Act} {Q : Exit → Act → World → Prop} {W Wg : World} (B : Nat) (hgd : o.guard = none) (s x : Operand)
    (ho : o.op = .call { callee := .builtin .append, args := #[s, x], argTypes := #[23, 23] })
    (v : Value) (ts : List Tst) (t : Tst) (hs : a.eval s = v) (hx : a.eval x = .slice (some ⟨W.heap.size, 0, none⟩) 1 1) (hWg : Wg = W.alloc (.cells #[.string (strB t.col), .int .i64 t.op, .string (strB t.val)] 37))
    (HO : Tr B W v ts) (hbase : B ≤ W.heap.size) (hl : ts.length ≤ 100000000)
    (h : ∀ v1 w1, Tr B w1 v1 (ts ++ [t]) → Below B W w1 → W.grownBy w1 v.ownBlock → wpList Tryz.prog ops Q rest (a.put o.dst v1) w1) :
    wpList Tryz.prog ops Q (o :: rest) a Wg := by
  refine own_app_lit B hgd s x 23 37 (.agg #[.string ⟨#[]⟩, .int .i64 0, .string ⟨#[]⟩]) 3 40 ho Tryz.underlying23 info37 rfl (by decide) (by decide) v ts.length 1 (ts.flatMap tcells) #[.string (strB t.col), .int .i64 t.op, .string (strB t.val)] hs hx hWg rfl (by intro u hu; simp only [List.mem_cons, List.not_mem_nil, or_false] at hu; rcases hu with rfl | rfl | rfl <;> rfl) HO hbase (by omega) ?_
  intro v1 w1 hO hB hG
  refine h v1 w1 ?_ hB hG
  unfold Tr
  rw [List.length_append, List.flatMap_append]
  exact (by simpa [tcells] using hO)
end Go.Proofs.YthhemephaabblaaGreatDoor.Hq
namespace Go.Proofs.YthhemephaabblaaGreatDoor.Hq
open Go.RowKit Go.Proofs.YthhemephaabblaaGreatDoorW.PrintWords Go.Proofs.YthhemephaabblaaGreatDoorW.PrintLast Go.Proofs.YthhemephaabblaaGreatDoorW.PrintMore Go.Proofs.YthhemephaabblaaGreatDoor Go.Proofs.YthhemephaabblaaGreatDoor.Q Go.Proofs.YthhemephaabblaaGreatDoor.R
set_option linter.unusedVariables false
set_option linter.unusedSimpArgs false

/-- What 'mine' makes: lists with a mark in the room behind them. -/
def MinV (B : Nat) (w : World) (q : Qry) (v5 v7 : Value) : Prop :=
  (∃ b c, v5 = .slice (some ⟨b, 0, none⟩) q.cols.length c ∧ Sr B w (.slice (some ⟨b, 0, none⟩) (q.cols.length + 1) c) (q.cols ++ [wMark])) ∧
  (∃ b c, v7 = .slice (some ⟨b, 0, none⟩) q.wh.length c ∧ Tr B w (.slice (some ⟨b, 0, none⟩) (q.wh.length + 1) c) (q.wh ++ [tMark]))
/-- How a step of the columns' region turns the world. -/
def MR (B : Nat) (X : List (List UInt8)) (i : Nat) (W W' : World) : Prop := if i = 5 then SpM B X W W' else Ext W W'
theorem MR.ne {B i : Nat} {X : List (List UInt8)} {W W' : World} (h : i ≠ 5) (hR : MR B X i W W') : Ext W W' := by unfold MR at hR; rw [if_neg h] at hR; exact hR
theorem MR.of {B : Nat} {X : List (List UInt8)} {W W' : World} (h : SpM B X W W') : MR B X 5 W W' := by unfold MR; rw [if_pos rfl]; exact h
theorem MR.ext {B i : Nat} {X : List (List UInt8)} {W W' : World} (h : i ≠ 5) (hE : Ext W W') : MR B X i W W' := by unfold MR; rw [if_neg h]; exact hE
theorem MR.sr {B i : Nat} {X : List (List UInt8)} {W W' : World} (hR : MR B X i W W') {u : Value} {xs : List (List UInt8)} (hx : xs.length ≤ X.length ∨ xs = [wMark] ∨ xs = X ++ [wMark]) (h : Sr B W u xs) : Sr B W' u xs := by
  by_cases hi : i = 5
  · unfold MR at hR; rw [if_pos hi] at hR; exact hR.2 u xs hx h
  · exact h.ext (hR.ne hi)
theorem MR.below {B i : Nat} {X : List (List UInt8)} {w W W' : World} (hB : Below B w W) (hs : B ≤ W.heap.size) (hR : MR B X i W W') : Below B w W' := by
  by_cases hi : i = 5
  · unfold MR at hR; rw [if_pos hi] at hR; exact hB.trans hR.1
  · exact hB.trans ((hR.ne hi).mono hs)
theorem MR.refl {B : Nat} {X : List (List UInt8)} (i : Nat) (W : World) : MR B X i W W := by
  unfold MR
  split
  · exact ⟨Below.refl _ _, fun _ _ _ h => h⟩
  · exact Ext.refl W
/-- How a step of the tests' last region turns the world. -/
def MT (B : Nat) (X : List Tst) (i : Nat) (W W' : World) : Prop := if i = 4 then SpT B X W W' else Ext W W'
theorem MT.ne {B i : Nat} {X : List Tst} {W W' : World} (h : i ≠ 4) (hR : MT B X i W W') : Ext W W' := by unfold MT at hR; rw [if_neg h] at hR; exact hR
theorem MT.of {B : Nat} {X : List Tst} {W W' : World} (h : SpT B X W W') : MT B X 4 W W' := by unfold MT; rw [if_pos rfl]; exact h
theorem MT.ext {B i : Nat} {X : List Tst} {W W' : World} (h : i ≠ 4) (hE : Ext W W') : MT B X i W W' := by unfold MT; rw [if_neg h]; exact hE
theorem MT.tr {B i : Nat} {X : List Tst} {W W' : World} (hR : MT B X i W W') {u : Value} {xs : List Tst} (hx : xs.length ≤ X.length ∨ xs = [tMark] ∨ xs = X ++ [tMark]) (h : Tr B W u xs) : Tr B W' u xs := by
  by_cases hi : i = 4
  · unfold MT at hR; rw [if_pos hi] at hR; exact hR.2.1 u xs hx h
  · exact h.ext (hR.ne hi)
theorem MT.sr {B i : Nat} {X : List Tst} {W W' : World} (hR : MT B X i W W') {u : Value} {xs : List (List UInt8)} (h : Sr B W u xs) : Sr B W' u xs := by
  by_cases hi : i = 4
  · unfold MT at hR; rw [if_pos hi] at hR; exact hR.2.2 u xs h
  · exact h.ext (hR.ne hi)
theorem MT.below {B i : Nat} {X : List Tst} {w W W' : World} (hB : Below B w W) (hs : B ≤ W.heap.size) (hR : MT B X i W W') : Below B w W' := by
  by_cases hi : i = 4
  · unfold MT at hR; rw [if_pos hi] at hR; exact hB.trans hR.1
  · exact hB.trans ((hR.ne hi).mono hs)
theorem MT.refl {B : Nat} {X : List Tst} (i : Nat) (W : World) : MT B X i W W := by
  unfold MT
  split
  · exact ⟨Below.refl _ _, fun _ _ _ h => h, fun _ _ h => h⟩
  · exact Ext.refl W
/-- What stands in the loop: the argument's block, the result's, the question's. -/
structure MS (w : World) (q : Qry) (A5 : Option Addr) (c5 : Nat) (A7 : Option Addr) (c7 : Nat) (V5 V7 : Value) (ts : List Tst) (W : World) : Prop where
  za : W.heap[w.heap.size]? = some (.cells #[.slice A5 q.cols.length c5, .string (strB q.tab), .slice A7 q.wh.length c7, .string (strB q.ord), .bool q.down, .int .i64 q.lim] 31 (0, 0))
  zr : W.heap[w.heap.size + 1]? = some (.cells #[.slice none 0 0, .string ⟨#[]⟩, .slice none 0 0, .string ⟨#[]⟩, .bool false, .int .i64 0] 25 (0, 0))
  zp : W.heap[w.heap.size + 1 + 1]? = some (.cells #[V5, .string (strB q.tab), V7, .string (strB q.ord), .bool q.down, .int .i64 q.lim] 25 (0, 0))
  s5 : ∃ b c, V5 = .slice (some ⟨b, 0, none⟩) q.cols.length c ∧ Sr (w.heap.size + 3) W (.slice (some ⟨b, 0, none⟩) (q.cols.length + 1) c) (q.cols ++ [wMark])
  s7 : Tr (w.heap.size + 3) W V7 ts
  bl : Below w.heap.size w W
  sz : w.heap.size + 3 ≤ W.heap.size
set_option maxRecDepth 100000 in
set_option maxHeartbeats 3200000 in
theorem mine_calls (q : Qry) (A5 : Option Addr) (c5 : Nat) (A7 : Option Addr) (c7 : Nat) (w : World) (h5 : Kd.C Kd.string w A5 q.cols.length (q.cols.map strB)) (hc5 : q.cols.length ≤ c5) (h7 : Kd.C k70 w A7 q.wh.length (q.wh.map t70)) (hc7 : q.wh.length ≤ c7) (hl5 : q.cols.length ≤ 2000000) (hl7 : q.wh.length ≤ 2000000) :
    Calls Tryz.prog 12 #[.agg #[.slice A5 q.cols.length c5, .string (strB q.tab), .slice A7 q.wh.length c7, .string (strB q.ord), .bool q.down, .int .i64 q.lim]] w fun e w' => ∃ v5 v7, e = .returned (qval q v5 v7) ∧ MinV w.heap.size w' q v5 v7 ∧ Below w.heap.size w w' := by
  go_enter Tryz.func12, Tryz.ntmps12
  go_upto_region 2 with fail
  obtain ⟨w2, hw2⟩ : ∃ W, W = (((w.alloc (.cells #[.slice A5 q.cols.length c5, .string (strB q.tab), .slice A7 q.wh.length c7, .string (strB q.ord), .bool q.down, .int .i64 q.lim] 31)).alloc (.cells #[.slice none 0 0, .string ⟨#[]⟩, .slice none 0 0, .string ⟨#[]⟩, .bool false, .int .i64 0] 25)).alloc (.cells #[.slice none 0 0, .string (strB q.tab), .slice none 0 0, .string (strB q.ord), .bool q.down, .int .i64 q.lim] 25)) := ⟨_, rfl⟩
  have hza : w2.heap[w.heap.size]? = some (.cells #[.slice A5 q.cols.length c5, .string (strB q.tab), .slice A7 q.wh.length c7, .string (strB q.ord), .bool q.down, .int .i64 q.lim] 31 (0, 0)) := by rw [hw2]; exact heap_alloc3_old _ _ _ _
  have hzr : w2.heap[w.heap.size + 1]? = some (.cells #[.slice none 0 0, .string ⟨#[]⟩, .slice none 0 0, .string ⟨#[]⟩, .bool false, .int .i64 0] 25 (0, 0)) := by rw [hw2]; exact heap_alloc3_mid _ _ _ _
  have hzp : w2.heap[w.heap.size + 1 + 1]? = some (.cells #[.slice none 0 0, .string (strB q.tab), .slice none 0 0, .string (strB q.ord), .bool q.down, .int .i64 q.lim] 25 (0, 0)) := by rw [hw2]; exact heap_alloc3_new _ _ _ _
  have hz2 : w2.heap.size = w.heap.size + 3 := by rw [hw2]; simp
  have hE2 : Ext w w2 := by rw [hw2]; exact (((Ext.refl w).alloc _).alloc _).alloc _
  rw [← hw2]
  clear hw2
  obtain ⟨B5, hB5⟩ : ∃ n, n = w2.heap.size := ⟨_, rfl⟩
  obtain ⟨ab, hab⟩ : ∃ n, n = w.heap.size := ⟨_, rfl⟩
  obtain ⟨rb, hrb⟩ : ∃ n, n = w.heap.size + 1 := ⟨_, rfl⟩
  obtain ⟨pb, hpb⟩ : ∃ n, n = w.heap.size + 1 + 1 := ⟨_, rfl⟩
  have hza' := hza
  rw [← hpb, ← hrb, ← hab]
  rw [← hab] at hza
  rw [← hrb] at hzr
  rw [← hpb] at hzp
  have hk : ∀ W, Below B5 w2 W → ∀ b o, b < B5 → w2.heap[b]? = some o → W.heap[b]? = some o := fun W hW b o hb ho => (hW.block b hb).trans ho
  have HZA : Aside0 (∀ W, Below B5 w2 W → W.heap[ab]? = some (.cells #[.slice A5 q.cols.length c5, .string (strB q.tab), .slice A7 q.wh.length c7, .string (strB q.ord), .bool q.down, .int .i64 q.lim] 31 (0, 0))) := ⟨fun W hW => hk W hW ab _ (by omega) hza⟩
  have HK5 : Aside0 (∀ W, Below B5 w2 W → Kd.C Kd.string W A5 q.cols.length (q.cols.map strB)) := ⟨fun W hW => Kd.C_below h5 (Below.trans hE2 (hW.mono (by omega)))⟩
  have HJ2 : Aside0 (Below B5 w2 w2.drew) := ⟨(Below.refl _ _).drew⟩
  have HK := Aside0.mk hk
  have HSZ : Aside0 (∀ W, Below B5 w2 W → B5 ≤ W.heap.size) := ⟨fun W hW => by have := hW.size; omega⟩
  have HZ := Aside0.mk (And.intro hza (And.intro hzr hzp))
  have HN := Aside0.mk (And.intro hB5 (And.intro hab (And.intro hrb (And.intro hpb hz2))))
  have HE2 := Aside0.mk hE2
  have H7 := Aside0.mk h7
  have H5 := Aside0.mk h5
  clear hk hza hzr hzp hz2 hE2 hB5 hab hrb hpb h7 h5 hza'
  refine exj_tail (Below B5 w2) (MR B5 q.cols) 12 [(0, 15), (1, 16), (2, 17), (3, 18), (4, 19), (5, 20), (6, 21), (7, 22), (8, 23), (9, 24), (10, 25)] [0, 1, 2, 3, 4, 5, 6, 7, 8, 9, 10] (fun i w v => match i with | 0 => ∃ b, v = .slice (some ⟨b, 0, none⟩) 0 0 ∧ Sr B5 w v [] | 1 => v = .pointer (some ⟨ab, 0, none⟩) | 2 => v = .slice A5 q.cols.length c5 | 3 => Sr B5 w v q.cols | 4 => Sr B5 w v [wMark] | 5 => Sr B5 w v (q.cols ++ [wMark]) | 6 => v = .pointer (some ⟨ab, 0, none⟩) | 7 => v = .slice A5 q.cols.length c5 | 8 => v = .int .i64 (q.cols.length : Nat) | 9 => ∃ b cp, v = .slice (some ⟨b, 0, none⟩) q.cols.length cp ∧ Sr B5 w (.slice (some ⟨b, 0, none⟩) (q.cols.length + 1) cp) (q.cols ++ [wMark]) | 10 => v = .pointer (some ⟨pb, 0, none⟩) | _ => True) (by kernel_rfl) (by kernel_rfl) (by rfl) rfl ?j2 ?rj2 ?r2 ?mono2 ?steps2 ?fin2
  case j2 => exact HJ2.out
  case rj2 =>
    intro i W W' hJ hR
    exact MR.below hJ (HSZ.out W hJ) hR
  case r2 => exact fun i W => MR.refl i W
  case mono2 =>
    intro i j w w' v hne h hR
    match j with
    | 0 => exact (by obtain ⟨b, h1, h2⟩ := h; exact ⟨b, h1, hR.sr (.inl (Nat.zero_le _)) h2⟩)
    | 1 => exact h
    | 2 => exact h
    | 3 => exact hR.sr (.inl (Nat.le_refl _)) h
    | 4 => exact hR.sr (.inr (.inl rfl)) h
    | 5 => exact Sr.ext h (hR.ne hne.symm)
    | 6 => exact h
    | 7 => exact h
    | 8 => exact h
    | 9 => exact (by obtain ⟨b, cp, h1, h2⟩ := h; exact ⟨b, cp, h1, by have := hR.sr (.inr (.inr rfl)) (show Sr B5 w (.slice (some ⟨b, 0, none⟩) (q.cols.length + 1) cp) (q.cols ++ [wMark]) from h2); exact this⟩)
    | 10 => exact h
    | _ + 11 => trivial
  case steps2 =>
    refine stepJ_cons ⟨_, rfl, fun a w hE hH => ?_⟩ ?_
    ·
      exact Or.inl ⟨(rfl), goodJ_new (.slice (some ⟨w.heap.size, 0, none⟩) 0 0) (w.alloc (.cells #[] 9)) (by simp [execOp, Act.eval, go_sem]) (MR.ext (by decide) ((Ext.refl w).alloc _)) ⟨_, rfl, Sr.lit (cs := #[]) (xs := []) (HSZ.out w hE) rfl (by simp)⟩⟩
    refine stepJ_cons ⟨_, rfl, fun a w hE hH => ?_⟩ ?_
    ·
      have e1 : a.tmps[1]? = some (.pointer (some ⟨ab, 0, none⟩)) := hH.old 1 rfl
      exact Or.inl ⟨rfl, goodJ_of (by funext W W'; simp [MR]) (goodE_val (.pointer (some ⟨ab, 0, none⟩)) (by simp [execOp, Act.eval, e1, go_sem]) rfl)⟩
    refine stepJ_cons ⟨_, rfl, fun a w hE hH => ?_⟩ ?_
    ·
      obtain ⟨v16, e16, g16⟩ := hH.dep 1 16 rfl (by kernel_rfl)
      have q16 : v16 = .pointer (some ⟨ab, 0, none⟩) := g16
      subst q16
      have hc : w.cell? ⟨ab, 0, none⟩ = some (.slice A5 q.cols.length c5) := blk_cell (HZA.out w hE) 0
      exact Or.inl ⟨(rfl), goodJ_of (by funext W W'; simp [MR]) (goodE_val (.slice A5 q.cols.length c5) (by simp [execOp, Act.eval, e16, hc, go_sem]) rfl)⟩
    refine stepJ_cons ⟨_, rfl, fun a w hE hH => ?_⟩ ?_
    ·
      obtain ⟨v15, e15, g15⟩ := hH.dep 0 15 rfl (by kernel_rfl)
      obtain ⟨v17, e17, g17⟩ := hH.dep 2 17 rfl (by kernel_rfl)
      have q17 : v17 = .slice A5 q.cols.length c5 := g17
      subst q17
      obtain ⟨b, rfl, hSr⟩ := g15
      obtain ⟨v1, w1, hr, hS1, hE1⟩ := sr_copy (c0 := c5) 22 hSr (HK5.out w hE) (HSZ.out w hE) (by omega)
      exact Or.inl ⟨(rfl), goodJ_new v1 w1 (exec_append (s := .tmp 15) (x := .tmp 17) rfl (by simpa [Act.eval, e15, e17] using hr)) (MR.ext (by decide) hE1) hS1⟩
    refine stepJ_cons ⟨_, rfl, fun a w hE hH => ?_⟩ ?_
    ·
      exact Or.inl ⟨(rfl), goodJ_new (.slice (some ⟨w.heap.size, 0, none⟩) 1 1) (w.alloc (.cells #[.string ⟨#[109, 97, 114, 107]⟩] 9)) (by simp [execOp, Act.eval, go_sem]) (MR.ext (by decide) ((Ext.refl w).alloc _)) (Sr.lit (cs := #[.string ⟨#[109, 97, 114, 107]⟩]) (xs := [wMark]) (HSZ.out w hE) rfl (by simp))⟩
    refine stepJ_cons ⟨_, rfl, fun a w hE hH => ?_⟩ ?_
    ·
      obtain ⟨v18, e18, g18⟩ := hH.dep 3 18 rfl (by kernel_rfl)
      obtain ⟨v19, e19, g19⟩ := hH.dep 4 19 rfl (by kernel_rfl)
      obtain ⟨v1, w1, hr, hS1, hM1⟩ := sr_mark 22 g18 g19 (HSZ.out w hE) (by omega)
      exact Or.inl ⟨(rfl), goodJ_new v1 w1 (exec_append (s := .tmp 18) (x := .tmp 19) rfl (by simpa [Act.eval, e18, e19] using hr)) (MR.of hM1) hS1⟩
    refine stepJ_cons ⟨_, rfl, fun a w hE hH => ?_⟩ ?_
    ·
      have e1 : a.tmps[1]? = some (.pointer (some ⟨ab, 0, none⟩)) := hH.old 1 rfl
      exact Or.inl ⟨rfl, goodJ_of (by funext W W'; simp [MR]) (goodE_val (.pointer (some ⟨ab, 0, none⟩)) (by simp [execOp, Act.eval, e1, go_sem]) rfl)⟩
    refine stepJ_cons ⟨_, rfl, fun a w hE hH => ?_⟩ ?_
    ·
      obtain ⟨v21, e21, g21⟩ := hH.dep 6 21 rfl (by kernel_rfl)
      have q21 : v21 = .pointer (some ⟨ab, 0, none⟩) := g21
      subst q21
      have hc : w.cell? ⟨ab, 0, none⟩ = some (.slice A5 q.cols.length c5) := blk_cell (HZA.out w hE) 0
      exact Or.inl ⟨(rfl), goodJ_of (by funext W W'; simp [MR]) (goodE_val (.slice A5 q.cols.length c5) (by simp [execOp, Act.eval, e21, hc, go_sem]) rfl)⟩
    refine stepJ_cons ⟨_, rfl, fun a w hE hH => ?_⟩ ?_
    ·
      obtain ⟨v22, e22, g22⟩ := hH.dep 7 22 rfl (by kernel_rfl)
      have q22 : v22 = .slice A5 q.cols.length c5 := g22
      subst q22
      exact Or.inl ⟨rfl, goodJ_of (by funext W W'; simp [MR]) (goodE_val (.int .i64 (q.cols.length : Nat)) (by simp [execOp, Act.eval, e22, go_sem]) rfl)⟩
    refine stepJ_cons ⟨_, rfl, fun a w hE hH => ?_⟩ ?_
    ·
      obtain ⟨v20, e20, g20⟩ := hH.dep 5 20 rfl (by kernel_rfl)
      obtain ⟨v23, e23, g23⟩ := hH.dep 8 23 rfl (by kernel_rfl)
      have q23 : v23 = .int .i64 (q.cols.length : Nat) := g23
      subst q23
      obtain ⟨b, cp, rfl, hcp, _⟩ := Sr.shape g20 (by simp)
      rw [show (q.cols ++ [wMark]).length = q.cols.length + 1 by simp] at g20 e20 hcp
      exact Or.inl ⟨(rfl), goodJ_new (.slice (some ⟨b, 0, none⟩) q.cols.length cp) w (exec_sliceT elem22 rfl (by simpa [Act.eval, e20, e23] using sr_cut (W := w) (some ⟨b, 0, none⟩) (q.cols.length + 1) cp q.cols.length (by omega))) (MR.refl _ _) ⟨b, cp, rfl, g20⟩⟩
    refine stepJ_cons ⟨_, rfl, fun a w hE hH => ?_⟩ ?_
    ·
      have e3 : a.tmps[3]? = some (.pointer (some ⟨pb, 0, none⟩)) := hH.old 3 rfl
      exact Or.inl ⟨rfl, goodJ_of (by funext W W'; simp [MR]) (goodE_val (.pointer (some ⟨pb, 0, none⟩)) (by simp [execOp, Act.eval, e3, go_sem]) rfl)⟩
    exact stepJ_nil
  refine ⟨⟨none, .store 22 (.tmp 25) (.tmp 24), _, _, _, none⟩, rfl, ?_⟩
  rintro vals wz hE hV
  have k24 : ∃ b cp, (vals 9) = .slice (some ⟨b, 0, none⟩) q.cols.length cp ∧ Sr B5 wz (.slice (some ⟨b, 0, none⟩) (q.cols.length + 1) cp) (q.cols ++ [wMark]) := hV 9 (by simp) rfl
  have k25 : vals 10 = .pointer (some ⟨pb, 0, none⟩) := hV 10 (by simp) rfl
  refine ⟨rfl, ?_⟩
  intro KK hKK
  simp only [List.map_cons, List.map_nil, putAll, Act.put, List.setIfInBounds_toArray, List.set_cons_zero, List.set_cons_succ, k25]
  obtain ⟨b5, cp5, hv9, hS5⟩ := k24
  obtain ⟨hB5, hab, hrb, hpb, hz2⟩ := HN.out
  have hza := HK.out wz hE ab _ (by omega) HZ.out.1
  have hzr := HK.out wz hE rb _ (by omega) HZ.out.2.1
  have hzp := HK.out wz hE pb _ (by omega) HZ.out.2.2
  have hbl : Below w.heap.size w wz := Below.trans HE2.out (hE.mono (by omega))
  have hc0 := blk_cell hzp 0
  have hf0 := blk_frozen hzp 0
  rw [hv9]
  refine finE_skip (w1 := wz.setCell ⟨pb, 0, none⟩ (.slice (some ⟨b5, 0, none⟩) q.cols.length cp5)) (by simp [execOp, Act.eval, hc0, hf0, go_sem]) (hKK _ _ ?_)
  have hS : MS w q A5 c5 A7 c7 (.slice (some ⟨b5, 0, none⟩) q.cols.length cp5) (.slice none 0 0) [] (wz.setCell ⟨pb, 0, none⟩ (.slice (some ⟨b5, 0, none⟩) q.cols.length cp5)) := by
    refine ⟨?_, ?_, ?_, ⟨b5, cp5, rfl, ?_⟩, World.ownsRow_nil _ _ _ _, hbl.setCell (by show w.heap.size ≤ pb; omega) _, by simp; have := hE.size; omega⟩
    · rw [← hab]; exact blk_far hza (by show ab ≠ pb; omega) _
    · rw [← hrb]; exact blk_far hzr (by show rb ≠ pb; omega) _
    · have e1 : w.heap.size + 1 + 1 = pb := by omega
      rw [e1]
      have := blk_set hzp 0 (.slice (some ⟨b5, 0, none⟩) q.cols.length cp5)
      simpa using this
    · have e2 : w.heap.size + 3 = B5 := by omega
      rw [e2]
      exact Sr.far hS5 (by omega)
  generalize (wz.setCell ⟨pb, 0, none⟩ (.slice (some ⟨b5, 0, none⟩) q.cols.length cp5)) = w4 at hS ⊢
  obtain ⟨V5, hV5⟩ : ∃ v, v = Value.slice (some ⟨b5, 0, none⟩) q.cols.length cp5 := ⟨_, rfl⟩
  rw [← hV5] at hS
  have hq7 := blk_cell hS.za 2
  have HS := Aside0.mk hS
  have HPB := Aside0.mk hpb
  have HAB := Aside0.mk hab
  have HRB := Aside0.mk hrb
  clear hKK hv9 hS5 hza hzr hzp hbl hc0 hf0 hE hV k25 hS hB5 hab hrb hpb hz2 hV5 HZA HK5 HJ2 HK HSZ HZ HN
  have hb0 : ab = w.heap.size := HAB.out
  subst hb0
  have hb1 : rb = w.heap.size + 1 := HRB.out
  subst hb1
  have hb2 : pb = w.heap.size + 1 + 1 := HPB.out
  subst hb2
  clear HAB HRB HPB
  go_wp2_with fail
  go_loopw [29] (fun s29 W => ∃ (j : Nat) (V7 : Value), j ≤ q.wh.length ∧ s29 = .int .i64 j ∧ MS w q A5 c5 A7 c7 V5 V7 (q.wh.take j) W) (fun v _ => q.wh.length - (intOf v).toNat)
  case atStart => exact ⟨0, .slice none 0 0, by omega, rfl, HS.out⟩
  case round =>
  clear HS hq7
  obtain ⟨wo, hwo⟩ : ∃ wo : World, wo = wr := ⟨_, rfl⟩
  subst hwo
  obtain ⟨j, V7, hj, rfl, hS⟩ := hrel
  have HS := Aside0.mk hS
  by_cases hlt : j < q.wh.length
  · have hb : (j : Int) < q.wh.length := by omega
    obtain ⟨t, ht⟩ : ∃ t, t = q.wh[j] := ⟨_, rfl⟩
    obtain ⟨ad, hA, d1, d2, d3⟩ := at_T70 H7.out (j : Int) (by omega) hb
    rw [rd70 _ _ hlt, ← ht] at d1 d2 d3
    simp only [t70, Int.toNat_natCast] at d1 d2 d3
    have hblk := World.block_lt_of_cell? w _ d1
    have hcell : ∀ p : Addr, p.block < w.heap.size → wo.cell? p = w.cell? p := fun p hp => hS.bl.cell hp
    have f1 := (hcell _ hblk).trans d1
    have f2 := (hcell ⟨_, _, none⟩ hblk).trans d2
    have f3 := (hcell ⟨_, _, none⟩ hblk).trans d3
    have hp2 := blk_cell hS.zp 2
    have hf2 := blk_frozen hS.zp 2
    have hsz := hS.sz
    have HT := Aside0.mk ht
    clear hS d1 d2 d3 ht hcell
    subst hA
    have htl : (q.wh.take j).length = j := by rw [List.length_take]; omega
    have HTL := Aside0.mk htl
    clear htl
    go_upto_region 6 with fail
    obtain ⟨wt, hwt⟩ : ∃ W, W = wo.alloc (.cells #[.string (strB t.col), .int .i64 t.op, .string (strB t.val)] 70) := ⟨_, rfl⟩
    have hE1 : Ext wo wt := by rw [hwt]; exact (Ext.refl _).alloc _
    have hzt : wt.heap[wo.heap.size]? = some (.cells #[.string (strB t.col), .int .i64 t.op, .string (strB t.val)] 70 (0, 0)) := by rw [hwt]; exact heap_alloc_new _ _
    obtain ⟨tb, htb⟩ : ∃ n, n = wo.heap.size := ⟨_, rfl⟩
    rw [← htb] at hzt
    rw [← hwt, ← htb]
    have hzp1 := heap_below HS.out.zp hE1
    have x0 := blk_cell hzt 0
    have x1 := blk_cell hzt 1
    have x2 := blk_cell hzt 2
    have p2 := blk_cell hzp1 2
    have HE1 := Aside0.mk hE1
    have HZP := Aside0.mk hzp1
    clear hwt hE1 hzt htb hzp1 hp2 hf2 f1 f2 f3 hblk hb
    go_wp2_with (at_builtin; go_loud (refine tr_app (W := wt) (w.heap.size + 3) rfl _ _ rfl V7 (q.wh.take j) t ?sy ?sx rfl ?s1 ?s2 ?s3 ?_); (case sy => simp [Act.eval]); (case sx => simp [Act.eval]); (case s1 => exact HS.out.s7.ext HE1.out); (case s2 => have := HE1.out.size; omega); (case s3 => rw [HTL.out]; omega); intro v1 w1 hT1 hB1 hG1; obtain ⟨A1, cp1, ev1, hcp1⟩ := own_form hT1; rw [show (q.wh.take j ++ [t]).length = j + 1 by rw [List.length_append, HTL.out]; rfl] at ev1; subst ev1; have hzp1 := (hB1.block (w.heap.size + 1 + 1) (by omega)).trans HZP.out; have hc1 := blk_cell hzp1 2; have hf1 := blk_frozen hzp1 2; have HT1 := Aside0.mk hT1; have HB1 := Aside0.mk hB1; have HG1 := Aside0.mk hG1; have HP1 := Aside0.mk hzp1; clear hT1 hB1 hG1 hzp1)
    have hE1 := HE1.out
    go_roundw
    case rel =>
      refine ⟨j + 1, .slice A1 (j + 1) cp1, by omega, by go_num, ?_⟩
      have hS := HS.out
      obtain ⟨b0, cc0, hv5, hs5⟩ := hS.s5
      refine ⟨blk_far ((HB1.out.block _ (by omega)).trans (heap_below hS.za hE1)) (by show w.heap.size ≠ w.heap.size + 1 + 1; omega) _, blk_far ((HB1.out.block _ (by omega)).trans (heap_below hS.zr hE1)) (by show w.heap.size + 1 ≠ w.heap.size + 1 + 1; omega) _, ?_, ⟨b0, cc0, hv5, Sr.far ((hs5.ext hE1).grown_tr (hS.s7.ext hE1) HG1.out) (by omega)⟩, ?_, ?_, ?_⟩
      · have := blk_set HP1.out 2 (.slice A1 (j + 1) cp1)
        simpa using this
      · have h1 : q.wh.take (j + 1) = q.wh.take j ++ [t] := by rw [HT.out, List.take_succ_eq_append_getElem hlt]
        rw [h1]
        exact Tr.far HT1.out (by omega)
      · exact (Below.trans (Below.trans hS.bl (Below.mono hE1 hS.bl.size)) (HB1.out.mono (by omega))).setCell (by show w.heap.size ≤ w.heap.size + 1 + 1; omega) _
      · have h1 := HB1.out.size
        have h2 := hE1.size
        simp
        omega
    case measure => simp [intOf]; omega
  · obtain rfl : j = q.wh.length := by omega
    have hb : ¬ ((q.wh.length : Int) < q.wh.length) := by omega
    rw [List.take_length] at HS
    have hS := HS.out
    obtain ⟨b0, cc0, hv5, hs5⟩ := hS.s5
    obtain ⟨w0, hw0⟩ : ∃ W, W = w := ⟨_, rfl⟩
    obtain ⟨B5, hB5⟩ : ∃ n, n = w.heap.size + 3 := ⟨_, rfl⟩
    rw [← hB5] at hs5
    have HSZ : Aside0 (∀ W, Below B5 wo W → B5 ≤ W.heap.size) := ⟨fun W hW => by have := hW.size; have := HS.out.sz; omega⟩
    have HZA : Aside0 (∀ W, Below B5 wo W → W.heap[w0.heap.size]? = some (.cells #[.slice A5 q.cols.length c5, .string (strB q.tab), .slice A7 q.wh.length c7, .string (strB q.ord), .bool q.down, .int .i64 q.lim] 31 (0, 0))) := ⟨fun W hW => by rw [hw0]; exact (hW.block _ (by omega)).trans HS.out.za⟩
    have HZP : Aside0 (∀ W, Below B5 wo W → W.heap[w0.heap.size + 1 + 1]? = some (.cells #[V5, .string (strB q.tab), V7, .string (strB q.ord), .bool q.down, .int .i64 q.lim] 25 (0, 0))) := ⟨fun W hW => by rw [hw0]; exact (hW.block _ (by omega)).trans HS.out.zp⟩
    have HZR : Aside0 (∀ W, Below B5 wo W → W.heap[w0.heap.size + 1]? = some (.cells #[.slice none 0 0, .string ⟨#[]⟩, .slice none 0 0, .string ⟨#[]⟩, .bool false, .int .i64 0] 25 (0, 0))) := ⟨fun W hW => by rw [hw0]; exact (hW.block _ (by omega)).trans HS.out.zr⟩
    have HJ8 : Aside0 (Below B5 wo wo.drew ∧ Tr B5 wo.drew V7 q.wh ∧ Sr B5 wo.drew (.slice (some ⟨b0, 0, none⟩) (q.cols.length + 1) cc0) (q.cols ++ [wMark])) := ⟨⟨(Below.refl _ _).drew, by rw [hB5]; exact hS.s7.ext (Ext.to_drew _), hs5.ext (Ext.to_drew _)⟩⟩
    have HV5 := Aside0.mk hv5
    have HB5 := Aside0.mk hB5
    have HW0 := Aside0.mk hw0
    clear hs5 hv5 hS
    go_upto_region 8 with fail
    rw [← hw0]
    clear hw0 hB5 hb
    refine exj_tail (fun W => Below B5 wo W ∧ Tr B5 W V7 q.wh ∧ Sr B5 W (.slice (some ⟨b0, 0, none⟩) (q.cols.length + 1) cc0) (q.cols ++ [wMark])) (MT B5 q.wh) 11 [(0, 46), (1, 47), (2, 48), (3, 49), (4, 50), (5, 51), (6, 52), (7, 53), (8, 54), (9, 55)] [0, 1, 2, 3, 4, 5, 6, 7, 8, 9] (fun i w v => match i with | 0 => v = .pointer (some ⟨w0.heap.size + 1 + 1, 2, none⟩) | 1 => v = V7 | 2 => v = .agg #[.string ⟨#[]⟩, .int .i64 77, .string ⟨#[]⟩] | 3 => Tr B5 w v [tMark] | 4 => Tr B5 w v (q.wh ++ [tMark]) | 5 => v = .pointer (some ⟨w0.heap.size, 2, none⟩) | 6 => v = .slice A7 q.wh.length c7 | 7 => v = .int .i64 (q.wh.length : Nat) | 8 => ∃ b cp, v = .slice (some ⟨b, 0, none⟩) q.wh.length cp ∧ Tr B5 w (.slice (some ⟨b, 0, none⟩) (q.wh.length + 1) cp) (q.wh ++ [tMark]) | 9 => v = .pointer (some ⟨w0.heap.size + 1 + 1, 2, none⟩) | _ => True) (by kernel_rfl) (by kernel_rfl) (by rfl) rfl ?j8 ?rj8 ?r8 ?mono8 ?steps8 ?fin8
    case j8 => exact HJ8.out
    case rj8 =>
      intro i W W' hJ hR
      exact ⟨MT.below hJ.1 (HSZ.out W hJ.1) hR, hR.tr (.inl (Nat.le_refl _)) hJ.2.1, hR.sr hJ.2.2⟩
    case r8 => exact fun i W => MT.refl i W
    case mono8 =>
      intro i j w w' v hne h hR
      match j with
      | 0 => exact h
      | 1 => exact h
      | 2 => exact h
      | 3 => exact hR.tr (.inr (.inl rfl)) h
      | 4 => exact hR.tr (.inr (.inr rfl)) h
      | 5 => exact h
      | 6 => exact h
      | 7 => exact h
      | 8 => exact (by obtain ⟨b, cp, h1, h2⟩ := h; exact ⟨b, cp, h1, by have := hR.tr (.inr (.inr rfl)) (show Tr B5 w (.slice (some ⟨b, 0, none⟩) (q.wh.length + 1) cp) (q.wh ++ [tMark]) from h2); exact this⟩)
      | 9 => exact h
      | _ + 10 => trivial
    case steps8 =>
      refine stepJ_cons ⟨_, rfl, fun a w hE hH => ?_⟩ ?_
      ·
        have e3 : a.tmps[3]? = some (.pointer (some ⟨w0.heap.size + 1 + 1, 0, none⟩)) := hH.old 3 rfl
        exact Or.inl ⟨rfl, goodJ_of (by funext W W'; simp [MT]) (goodE_val (.pointer (some ⟨w0.heap.size + 1 + 1, 2, none⟩)) (by simp [execOp, Act.eval, e3, go_sem]) rfl)⟩
      refine stepJ_cons ⟨_, rfl, fun a w hE hH => ?_⟩ ?_
      ·
        obtain ⟨v46, e46, g46⟩ := hH.dep 0 46 rfl (by kernel_rfl)
        have q46 : v46 = .pointer (some ⟨w0.heap.size + 1 + 1, 2, none⟩) := g46
        subst q46
        have hc : w.cell? ⟨w0.heap.size + 1 + 1, 2, none⟩ = some V7 := blk_cell (HZP.out w hE.1) 2
        exact Or.inl ⟨(rfl), goodJ_of (by funext W W'; simp [MT]) (goodE_val V7 (by simp [execOp, Act.eval, e46, hc, go_sem]) rfl)⟩
      refine stepJ_cons ⟨_, rfl, fun a w hE hH => ?_⟩ ?_
      ·
        exact Or.inl ⟨(rfl), goodJ_of (by funext W W'; simp [MT]) (goodE_val (.agg #[.string ⟨#[]⟩, .int .i64 77, .string ⟨#[]⟩]) (by simp [execOp, Act.eval, go_sem]) rfl)⟩
      refine stepJ_cons ⟨_, rfl, fun a w hE hH => ?_⟩ ?_
      ·
        obtain ⟨v48, e48, g48⟩ := hH.dep 2 48 rfl (by kernel_rfl)
        have q48 : v48 = .agg #[.string ⟨#[]⟩, .int .i64 77, .string ⟨#[]⟩] := g48
        subst q48
        exact Or.inl ⟨(rfl), goodJ_new (.slice (some ⟨w.heap.size, 0, none⟩) 1 1) (w.alloc (.cells #[.string ⟨#[]⟩, .int .i64 77, .string ⟨#[]⟩] 37)) (by simp [execOp, Act.eval, e48, go_sem]) (MT.ext (by decide) ((Ext.refl w).alloc _)) (World.ownsRow_lit (base := B5) (e := 37) (size := 3) w #[.string ⟨#[]⟩, .int .i64 77, .string ⟨#[]⟩] 1 (HSZ.out w hE.1) (by simp [maxLen]) rfl)⟩
      refine stepJ_cons ⟨_, rfl, fun a w hE hH => ?_⟩ ?_
      ·
        obtain ⟨v47, e47, g47⟩ := hH.dep 1 47 rfl (by kernel_rfl)
        have q47 : v47 = V7 := g47
        subst q47
        obtain ⟨v49, e49, g49⟩ := hH.dep 3 49 rfl (by kernel_rfl)
        obtain ⟨v1, w1, hr, hS1, hM1⟩ := tr_mark 23 (hE.2.1) g49 (HSZ.out w hE.1) (by omega)
        exact Or.inl ⟨(rfl), goodJ_new v1 w1 (exec_append (s := .tmp 47) (x := .tmp 49) rfl (by simpa [Act.eval, e47, e49] using hr)) (MT.of hM1) hS1⟩
      refine stepJ_cons ⟨_, rfl, fun a w hE hH => ?_⟩ ?_
      ·
        have e1 : a.tmps[1]? = some (.pointer (some ⟨w0.heap.size, 0, none⟩)) := hH.old 1 rfl
        exact Or.inl ⟨rfl, goodJ_of (by funext W W'; simp [MT]) (goodE_val (.pointer (some ⟨w0.heap.size, 2, none⟩)) (by simp [execOp, Act.eval, e1, go_sem]) rfl)⟩
      refine stepJ_cons ⟨_, rfl, fun a w hE hH => ?_⟩ ?_
      ·
        obtain ⟨v51, e51, g51⟩ := hH.dep 5 51 rfl (by kernel_rfl)
        have q51 : v51 = .pointer (some ⟨w0.heap.size, 2, none⟩) := g51
        subst q51
        have hc : w.cell? ⟨w0.heap.size, 2, none⟩ = some (.slice A7 q.wh.length c7) := blk_cell (HZA.out w hE.1) 2
        exact Or.inl ⟨(rfl), goodJ_of (by funext W W'; simp [MT]) (goodE_val (.slice A7 q.wh.length c7) (by simp [execOp, Act.eval, e51, hc, go_sem]) rfl)⟩
      refine stepJ_cons ⟨_, rfl, fun a w hE hH => ?_⟩ ?_
      ·
        obtain ⟨v52, e52, g52⟩ := hH.dep 6 52 rfl (by kernel_rfl)
        have q52 : v52 = .slice A7 q.wh.length c7 := g52
        subst q52
        exact Or.inl ⟨rfl, goodJ_of (by funext W W'; simp [MT]) (goodE_val (.int .i64 (q.wh.length : Nat)) (by simp [execOp, Act.eval, e52, go_sem]) rfl)⟩
      refine stepJ_cons ⟨_, rfl, fun a w hE hH => ?_⟩ ?_
      ·
        obtain ⟨v50, e50, g50⟩ := hH.dep 4 50 rfl (by kernel_rfl)
        obtain ⟨v53, e53, g53⟩ := hH.dep 7 53 rfl (by kernel_rfl)
        have q53 : v53 = .int .i64 (q.wh.length : Nat) := g53
        subst q53
        obtain ⟨b, cp, rfl, hcp⟩ := Tr.form g50 (by simp)
        rw [show (q.wh ++ [tMark]).length = q.wh.length + 1 by simp] at g50 e50 hcp
        exact Or.inl ⟨(rfl), goodJ_new (.slice (some ⟨b, 0, none⟩) q.wh.length cp) w (exec_sliceT elem23 rfl (by simpa [Act.eval, e50, e53] using tr_cut (W := w) (some ⟨b, 0, none⟩) (q.wh.length + 1) cp q.wh.length (by omega))) (MT.refl _ _) ⟨b, cp, rfl, g50⟩⟩
      refine stepJ_cons ⟨_, rfl, fun a w hE hH => ?_⟩ ?_
      ·
        have e3 : a.tmps[3]? = some (.pointer (some ⟨w0.heap.size + 1 + 1, 0, none⟩)) := hH.old 3 rfl
        exact Or.inl ⟨rfl, goodJ_of (by funext W W'; simp [MT]) (goodE_val (.pointer (some ⟨w0.heap.size + 1 + 1, 2, none⟩)) (by simp [execOp, Act.eval, e3, go_sem]) rfl)⟩
      exact stepJ_nil
    refine ⟨⟨none, .store 23 (.tmp 55) (.tmp 54), _, _, _, none⟩, rfl, ?_⟩
    rintro vals wz hE hV
    have k54 : ∃ b cp, (vals 8) = .slice (some ⟨b, 0, none⟩) q.wh.length cp ∧ Tr B5 wz (.slice (some ⟨b, 0, none⟩) (q.wh.length + 1) cp) (q.wh ++ [tMark]) := hV 8 (by simp) rfl
    have k55 : vals 9 = .pointer (some ⟨w0.heap.size + 1 + 1, 2, none⟩) := hV 9 (by simp) rfl
    refine ⟨rfl, ?_⟩
    intro KK hKK
    simp only [List.map_cons, List.map_nil, putAll, Act.put, List.setIfInBounds_toArray, List.set_cons_zero, List.set_cons_succ, k55]
    obtain ⟨b7, cp7, hv8, hS7⟩ := k54
    have hzp := HZP.out wz hE.1
    have hzr := HZR.out wz hE.1
    have hw := HW0.out
    have hB := HB5.out
    have hwz : w0.heap.size + 3 ≤ wz.heap.size := by have := HSZ.out wz hE.1; rw [hw]; omega
    have hc0 := blk_cell hzp 2
    have hf0 := blk_frozen hzp 2
    rw [hv8]
    refine finE_skip (w1 := wz.setCell ⟨w0.heap.size + 1 + 1, 2, none⟩ (.slice (some ⟨b7, 0, none⟩) q.wh.length cp7)) (by simp [execOp, Act.eval, hc0, hf0, go_sem]) (hKK _ _ ?_)
    have z1 : (wz.setCell ⟨w0.heap.size + 1 + 1, 2, none⟩ (.slice (some ⟨b7, 0, none⟩) q.wh.length cp7)).heap[w0.heap.size + 1 + 1]? = some (.cells #[.slice (some ⟨b0, 0, none⟩) q.cols.length cc0, .string (strB q.tab), .slice (some ⟨b7, 0, none⟩) q.wh.length cp7, .string (strB q.ord), .bool q.down, .int .i64 q.lim] 25 (0, 0)) := by
      have := blk_set hzp 2 (.slice (some ⟨b7, 0, none⟩) q.wh.length cp7)
      rw [HV5.out] at this
      simpa using this
    have z2 := blk_far hzr (p := ⟨w0.heap.size + 1 + 1, 2, none⟩) (by show w0.heap.size + 1 ≠ w0.heap.size + 1 + 1; omega) (.slice (some ⟨b7, 0, none⟩) q.wh.length cp7)
    have z5 := Sr.far (k := 2) (u := .slice (some ⟨b7, 0, none⟩) q.wh.length cp7) hE.2.2 (show w0.heap.size + 1 + 1 < B5 by rw [hw]; omega)
    have z7 := Tr.far (k := 2) (u := .slice (some ⟨b7, 0, none⟩) q.wh.length cp7) hS7 (show w0.heap.size + 1 + 1 < B5 by rw [hw]; omega)
    have zb : Below w.heap.size w (wz.setCell ⟨w0.heap.size + 1 + 1, 2, none⟩ (.slice (some ⟨b7, 0, none⟩) q.wh.length cp7)) := (Below.trans HS.out.bl (hE.1.mono (by omega))).setCell (by show w.heap.size ≤ w0.heap.size + 1 + 1; rw [hw]; omega) _
    generalize (wz.setCell ⟨w0.heap.size + 1 + 1, 2, none⟩ (.slice (some ⟨b7, 0, none⟩) q.wh.length cp7)) = w9 at z1 z2 z5 z7 zb ⊢
    have x0 := blk_cell z1 0
    have x1 := blk_cell z1 1
    have x2 := blk_cell z1 2
    have x3 := blk_cell z1 3
    have x4 := blk_cell z1 4
    have x5 := blk_cell z1 5
    have y0 := blk_cell z2 0
    have y1 := blk_cell z2 1
    have y2 := blk_cell z2 2
    have y3 := blk_cell z2 3
    have y4 := blk_cell z2 4
    have y5 := blk_cell z2 5
    have g0 := blk_frozen z2
    have Z5 := Aside0.mk z5
    have Z7 := Aside0.mk z7
    have ZB := Aside0.mk zb
    have ZR := Aside0.mk z2
    have HW := Aside0.mk hw
    clear hKK hv8 hS7 hzp hzr hwz hc0 hf0 hE hV k55 z5 z7 zb hw hB z1 z2
    go_wp2_with fail
    obtain ⟨rb, hrb⟩ : ∃ n, n = w0.heap.size + 1 := ⟨_, rfl⟩
    have hrB : rb < B5 := by have h1 := HW.out; have h2 := HB5.out; rw [hrb, h1]; omega
    have hrw : w.heap.size ≤ rb := by have h1 := HW.out; rw [hrb, h1]; omega
    have hF := blk_set (blk_set (blk_set (blk_set (blk_set (blk_set ZR.out 0 (.slice (some ⟨b0, 0, none⟩) q.cols.length cc0)) 1 (.string (strB q.tab))) 2 (.slice (some ⟨b7, 0, none⟩) q.wh.length cp7)) 3 (.string (strB q.ord))) 4 (.bool q.down)) 5 (.int .i64 q.lim)
    have hS5 := Sr.far (k := 5) (u := .int .i64 q.lim) (Sr.far (k := 4) (u := .bool q.down) (Sr.far (k := 3) (u := .string (strB q.ord)) (Sr.far (k := 2) (u := .slice (some ⟨b7, 0, none⟩) q.wh.length cp7) (Sr.far (k := 1) (u := .string (strB q.tab)) (Sr.far (k := 0) (u := .slice (some ⟨b0, 0, none⟩) q.cols.length cc0) Z5.out hrB) hrB) hrB) hrB) hrB) hrB
    have hT7 := Tr.far (k := 5) (u := .int .i64 q.lim) (Tr.far (k := 4) (u := .bool q.down) (Tr.far (k := 3) (u := .string (strB q.ord)) (Tr.far (k := 2) (u := .slice (some ⟨b7, 0, none⟩) q.wh.length cp7) (Tr.far (k := 1) (u := .string (strB q.tab)) (Tr.far (k := 0) (u := .slice (some ⟨b0, 0, none⟩) q.cols.length cc0) Z7.out hrB) hrB) hrB) hrB) hrB) hrB
    have hBF := (((((ZB.out.setCell (p := ⟨rb, 0, none⟩) hrw (.slice (some ⟨b0, 0, none⟩) q.cols.length cc0)).setCell (p := ⟨rb, 1, none⟩) hrw (.string (strB q.tab))).setCell (p := ⟨rb, 2, none⟩) hrw (.slice (some ⟨b7, 0, none⟩) q.wh.length cp7)).setCell (p := ⟨rb, 3, none⟩) hrw (.string (strB q.ord))).setCell (p := ⟨rb, 4, none⟩) hrw (.bool q.down)).setCell (p := ⟨rb, 5, none⟩) hrw (.int .i64 q.lim)
    rw [← hrb] at hF ⊢
    generalize (((((w9.setCell ⟨rb, 0, none⟩ (.slice (some ⟨b0, 0, none⟩) q.cols.length cc0)).setCell ⟨rb, 1, none⟩ (.string (strB q.tab))).setCell ⟨rb, 2, none⟩ (.slice (some ⟨b7, 0, none⟩) q.wh.length cp7)).setCell ⟨rb, 3, none⟩ (.string (strB q.ord))).setCell ⟨rb, 4, none⟩ (.bool q.down)).setCell ⟨rb, 5, none⟩ (.int .i64 q.lim) = wf at hF hS5 hT7 hBF ⊢
    have hF2 : wf.heap[rb]? = some (.cells #[.slice (some ⟨b0, 0, none⟩) q.cols.length cc0, .string (strB q.tab), .slice (some ⟨b7, 0, none⟩) q.wh.length cp7, .string (strB q.ord), .bool q.down, .int .i64 q.lim] 25 (0, 0)) := by simpa using hF
    have u0 := blk_cell hF2 0
    have u1 := blk_cell hF2 1
    have u2 := blk_cell hF2 2
    have u3 := blk_cell hF2 3
    have u4 := blk_cell hF2 4
    have u5 := blk_cell hF2 5
    have hw : B5 = w.heap.size + 3 := HB5.out
    refine bodyPost_ret (v := qval q (.slice (some ⟨b0, 0, none⟩) q.cols.length cc0) (.slice (some ⟨b7, 0, none⟩) q.wh.length cp7)) (by simp [results, Tryz.results12, go_sem, u0, u1, u2, u3, u4, u5, qval]) rfl ⟨_, _, rfl, ⟨⟨b0, cc0, rfl, own_less hS5 (by omega)⟩, ⟨b7, cp7, rfl, own_less hT7 (by omega)⟩⟩, hBF⟩
end Go.Proofs.YthhemephaabblaaGreatDoor.Hq
