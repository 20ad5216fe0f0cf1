
import Derived.Test.YthhemephaabblaaGreatDoorZDl
import Derived.Test.YthhemephaabblaaGreatDoorZDk
import Derived.Test.YthhemephaabblaaGreatDoorZDh
import Derived.Test.YthhemephaabblaaGreatDoorZDi
namespace Go.Proofs.YthhemephaabblaaGreatDoor.Hq
open Go.RowKit Go.Proofs.YthhemephaabblaaGreatDoorW.PrintWords Go.Proofs.YthhemephaabblaaGreatDoorW.PrintLast Go.Proofs.YthhemephaabblaaGreatDoorW.PrintMore Go.Proofs.YthhemephaabblaaGreatDoor Go.Proofs.YthhemephaabblaaGreatDoor.Q Go.Proofs.YthhemephaabblaaGreatDoor.R
set_option linter.unusedVariables false
set_option linter.unusedSimpArgs false
theorem C_pre {α : Type} {K : Kd α} {w : World} {A : Option Addr} {xs ys : List α} (h : Kd.C K w A (xs ++ ys).length (xs ++ ys)) : Kd.C K w A xs.length xs := by
 obtain ⟨h1, h2, h3⟩ := h
 refine ⟨rfl, by rw [List.length_append] at h2; omega, fun hp => ?_⟩
 obtain ⟨a, ha, hx⟩ := h3 (by rw [List.length_append]; omega)
 exact ⟨a, ha, fun j p hj => hx j p (by rw [List.getElem?_append_left (List.getElem?_eq_some_iff.1 hj).1]; exact hj)⟩
theorem sr_pre {B b c : Nat} {w : World} {xs : List (List UInt8)} (h : Sr B w (.slice (some ⟨b, 0, none⟩) (xs.length + 1) c) (xs ++ [wMark])) (hl : xs.length ≤ 100000000) : Kd.C Kd.string w (some ⟨b, 0, none⟩) xs.length (xs.map strB) ∧ xs.length + 1 ≤ c ∧ w.cell? ⟨b, xs.length, none⟩ = some (.string ⟨#[109, 97, 114, 107]⟩) := by
 have hl1 : (xs ++ [wMark]).length = xs.length + 1 := by simp
 obtain ⟨g, c1, e, hc, _, _, hcell⟩ := h.shape (by simp)
 obtain ⟨A, c2, e2, hc2, hC⟩ := sr_C h (by simp; omega)
 rw [hl1] at e e2 hc hC
 simp only [Value.slice.injEq, Option.some.injEq, Addr.mk.injEq, and_true, true_and] at e e2
 obtain ⟨rfl, rfl⟩ := e
 obtain ⟨rfl, rfl⟩ := e2
 have h1 := hcell xs.length wMark (by simp)
 rw [Nat.zero_add] at h1
 refine ⟨?_, hc, h1⟩
 have e3 : (xs ++ [wMark]).map strB = xs.map strB ++ [strB wMark] := by simp
 rw [e3] at hC
 have := C_pre (xs := xs.map strB) (ys := [strB wMark]) (by simpa using hC)
 simpa using this
theorem tr_pre {B b c : Nat} {w : World} {ts : List Tst} (h : Tr B w (.slice (some ⟨b, 0, none⟩) (ts.length + 1) c) (ts ++ [tMark])) (hl : ts.length ≤ 100000000) : Kd.C k37 w (some ⟨b, 0, none⟩) ts.length (ts.map t37) ∧ ts.length + 1 ≤ c ∧ w.cell? ⟨b, ts.length * 3 + 1, none⟩ = some (.int .i64 77) := by
 have hl1 : (ts ++ [tMark]).length = ts.length + 1 := by simp
 obtain ⟨A, c2, e2, hc2, hC⟩ := tr_C h (by simp; omega)
 rw [hl1] at e2 hc2 hC
 simp only [Value.slice.injEq, Option.some.injEq, Addr.mk.injEq, and_true, true_and] at e2
 obtain ⟨rfl, rfl⟩ := e2
 have h1 := World.ownsRow.cells h (g := b) rfl (ts.length * 3 + 1) (.int .i64 77) (by rw [flat_get (ts ++ [tMark]) ts.length 1 tMark (by simp) (by omega)]; rfl)
 rw [addr_add, Nat.zero_add] at h1
 refine ⟨?_, hc2, h1⟩
 have e3 : (ts ++ [tMark]).map t37 = ts.map t37 ++ [t37 tMark] := by simp
 rw [e3] at hC
 have := C_pre (xs := ts.map t37) (ys := [t37 tMark]) (by simpa using hC)
 simpa using this
set_option maxRecDepth 100000 in
set_option maxHeartbeats 3200000 in
theorem kept_calls (q : Qry) (A5 : Option Addr) (c5 : Nat) (A7 : Option Addr) (c7 : Nat) (b5 d5 b7 d7 : Nat) (B : Nat) (w : World) (h5 : Kd.C Kd.string w A5 q.cols.length (q.cols.map strB)) (hc5 : q.cols.length ≤ c5) (h7 : Kd.C k70 w A7 q.wh.length (q.wh.map t70)) (hc7 : q.wh.length ≤ c7) (hl5 : q.cols.length ≤ 2000000) (hl7 : q.wh.length ≤ 2000000)
  (s5 : Sr B w (.slice (some ⟨b5, 0, none⟩) (q.cols.length + 1) d5) (q.cols ++ [wMark])) (s7 : Tr B w (.slice (some ⟨b7, 0, none⟩) (q.wh.length + 1) d7) (q.wh ++ [tMark])) :
  Calls Tryz.prog 15 #[qval q (.slice (some ⟨b5, 0, none⟩) q.cols.length d5) (.slice (some ⟨b7, 0, none⟩) q.wh.length d7), qval q (.slice A5 q.cols.length c5) (.slice A7 q.wh.length c7)] w fun e w' => e = .returned (.bool true) ∧ Ext w w' := by
 obtain ⟨p5, pc5, px5⟩ := sr_pre s5 (by omega)
 obtain ⟨p7, pc7, px7⟩ := tr_pre s7 (by omega)
 unfold qval
 go_enter Tryz.func15, Tryz.ntmps15
 go_upto_region 1 with fail
 obtain ⟨w2, hw2⟩ : ∃ W, W = ((w.alloc (.cells #[.slice (some ⟨b5, 0, none⟩) q.cols.length d5, .string (strB q.tab), .slice (some ⟨b7, 0, none⟩) q.wh.length d7, .string (strB q.ord), .bool q.down, .int .i64 q.lim] 25)).alloc (.cells #[.slice A5 q.cols.length c5, .string (strB q.tab), .slice A7 q.wh.length c7, .string (strB q.ord), .bool q.down, .int .i64 q.lim] 31)) := ⟨_, rfl⟩
 have HZP : Aside0 (w2.heap[w.heap.size]? = some (.cells #[.slice (some ⟨b5, 0, none⟩) q.cols.length d5, .string (strB q.tab), .slice (some ⟨b7, 0, none⟩) q.wh.length d7, .string (strB q.ord), .bool q.down, .int .i64 q.lim] 25 (0, 0))) := ⟨by rw [hw2]; exact (Array.getElem?_push_lt (by simp)).trans (by simpa using heap_alloc_new w _)⟩
 have HZQ : Aside0 (w2.heap[w.heap.size + 1]? = some (.cells #[.slice A5 q.cols.length c5, .string (strB q.tab), .slice A7 q.wh.length c7, .string (strB q.ord), .bool q.down, .int .i64 q.lim] 31 (0, 0))) := ⟨by rw [hw2]; have := heap_alloc_new (w.alloc (.cells #[.slice (some ⟨b5, 0, none⟩) q.cols.length d5, .string (strB q.tab), .slice (some ⟨b7, 0, none⟩) q.wh.length d7, .string (strB q.ord), .bool q.down, .int .i64 q.lim] 25)) (.cells #[.slice A5 q.cols.length c5, .string (strB q.tab), .slice A7 q.wh.length c7, .string (strB q.ord), .bool q.down, .int .i64 q.lim] 31); simpa using this⟩
 have hE2 : Ext w w2 := by rw [hw2]; exact ((Ext.refl w).alloc _).alloc _
 rw [← hw2]
 obtain ⟨pb, hpb⟩ : ∃ n, n = w.heap.size := ⟨_, rfl⟩
 obtain ⟨qb, hqb⟩ : ∃ n, n = w.heap.size + 1 := ⟨_, rfl⟩
 rw [← hqb, ← hpb]
 rw [← hpb] at HZP
 rw [← hqb] at HZQ
 have HC5 := Aside0.mk (cell_ext hE2 px5)
 have HC7 := Aside0.mk (cell_ext hE2 px7)
 have HD := Aside0.mk (And.intro pc5 pc7)
 have HSM : Aside0 (∀ W, Ext w2.drew W → Calls Tryz.prog 10 #[.agg #[.slice (some ⟨b5, 0, none⟩) q.cols.length d5, .string (strB q.tab), .slice (some ⟨b7, 0, none⟩) q.wh.length d7, .string (strB q.ord), .bool q.down, .int .i64 q.lim], .agg #[.slice A5 q.cols.length c5, .string (strB q.tab), .slice A7 q.wh.length c7, .string (strB q.ord), .bool q.down, .int .i64 q.lim]] W fun e w' => e = .returned (.bool true) ∧ Ext W w') := ⟨fun W hW => by
  have hX := hE2.trans ((Ext.to_drew _).trans hW)
  exact same_calls q (some ⟨b5, 0, none⟩) d5 (some ⟨b7, 0, none⟩) d7 A5 c5 A7 c7 W (Kd.C_below p5 hX) (by omega) (Kd.C_below p7 hX) (by omega) (Kd.C_below h5 hX) hc5 (Kd.C_below h7 hX) hc7 (by omega) (by omega)⟩
 have HE2 := Aside0.mk hE2
 clear hw2 hE2 px5 px7 pc5 pc7 p5 p7 s5 s7 h5 h7 hpb hqb
 refine ext_tail 35 [(0, 5), (1, 6), (2, 7), (3, 8), (4, 9), (5, 10), (6, 11), (7, 12), (8, 13), (9, 14), (10, 15), (11, 16), (12, 17), (13, 18), (14, 19), (15, 20), (16, 21), (17, 22), (18, 23), (19, 24), (20, 25), (21, 26), (22, 27), (23, 28), (24, 29), (25, 30), (26, 31), (27, 32), (28, 33), (29, 34), (30, 35), (31, 36), (32, 37), (33, 38)] [0, 1, 2, 3, 4, 5, 6, 7, 8, 9, 10, 11, 12, 13, 14, 15, 16, 17, 18, 19, 20, 21, 22, 23, 24, 25, 26, 27, 28, 29, 30, 31, 32, 33] (fun i w v => match i with | 0 => v = .agg #[.slice (some ⟨b5, 0, none⟩) q.cols.length d5, .string (strB q.tab), .slice (some ⟨b7, 0, none⟩) q.wh.length d7, .string (strB q.ord), .bool q.down, .int .i64 q.lim] | 1 => v = .agg #[.slice A5 q.cols.length c5, .string (strB q.tab), .slice A7 q.wh.length c7, .string (strB q.ord), .bool q.down, .int .i64 q.lim] | 2 => v = .bool true | 3 => v = .bool true | 4 => v = .pointer (some ⟨pb, 0, none⟩) | 5 => v = .slice (some ⟨b5, 0, none⟩) q.cols.length d5 | 6 => v = .pointer (some ⟨qb, 0, none⟩) | 7 => v = .slice A5 q.cols.length c5 | 8 => v = .int .i64 (q.cols.length : Nat) | 9 => v = .int .i64 (q.cols.length + 1 : Nat) | 10 => v = .slice (some ⟨b5, 0, none⟩) (q.cols.length + 1) d5 | 11 => v = .pointer (some ⟨qb, 0, none⟩) | 12 => v = .slice A5 q.cols.length c5 | 13 => v = .int .i64 (q.cols.length : Nat) | 14 => v = .pointer (some ⟨b5, q.cols.length, none⟩) | 15 => v = .string ⟨#[109, 97, 114, 107]⟩ | 16 => v = .bool true | 17 => v = .bool true | 18 => v = .bool true | 19 => v = .pointer (some ⟨pb, 2, none⟩) | 20 => v = .slice (some ⟨b7, 0, none⟩) q.wh.length d7 | 21 => v = .pointer (some ⟨qb, 2, none⟩) | 22 => v = .slice A7 q.wh.length c7 | 23 => v = .int .i64 (q.wh.length : Nat) | 24 => v = .int .i64 (q.wh.length + 1 : Nat) | 25 => v = .slice (some ⟨b7, 0, none⟩) (q.wh.length + 1) d7 | 26 => v = .pointer (some ⟨qb, 2, none⟩) | 27 => v = .slice A7 q.wh.length c7 | 28 => v = .int .i64 (q.wh.length : Nat) | 29 => v = .pointer (some ⟨b7, q.wh.length * 3, none⟩) | 30 => v = .pointer (some ⟨b7, q.wh.length * 3 + 1, none⟩) | 31 => v = .int .i64 77 | 32 => v = .bool true | 33 => v = .bool true | _ => True) (by kernel_rfl) (by kernel_rfl) (by rfl) rfl ?mono1 ?steps1 ?fin1
 case mono1 =>
  intro i w w' v h hE
  match i with
  | 0 => exact h
  | 1 => exact h
  | 2 => exact h
  | 3 => exact h
  | 4 => exact h
  | 5 => exact h
  | 6 => exact h
  | 7 => exact h
  | 8 => exact h
  | 9 => exact h
  | 10 => exact h
  | 11 => exact h
  | 12 => exact h
  | 13 => exact h
  | 14 => exact h
  | 15 => exact h
  | 16 => exact h
  | 17 => exact h
  | 18 => exact h
  | 19 => exact h
  | 20 => exact h
  | 21 => exact h
  | 22 => exact h
  | 23 => exact h
  | 24 => exact h
  | 25 => exact h
  | 26 => exact h
  | 27 => exact h
  | 28 => exact h
  | 29 => exact h
  | 30 => exact h
  | 31 => exact h
  | 32 => exact h
  | 33 => exact h
  | _ + 34 => trivial
 case steps1 =>
  refine stepE_cons ⟨_, rfl, fun a w hE hH => ?_⟩ ?_
  ·
   have e2 : a.tmps[2]? = some (.pointer (some ⟨pb, 0, none⟩)) := hH.old 2 rfl
   have h0 := cell_ext ((Ext.to_drew _).trans hE) (blk_cell HZP.out 0)
   have h1 := cell_ext ((Ext.to_drew _).trans hE) (blk_cell HZP.out 1)
   have h2 := cell_ext ((Ext.to_drew _).trans hE) (blk_cell HZP.out 2)
   have h3 := cell_ext ((Ext.to_drew _).trans hE) (blk_cell HZP.out 3)
   have h4 := cell_ext ((Ext.to_drew _).trans hE) (blk_cell HZP.out 4)
   have h5 := cell_ext ((Ext.to_drew _).trans hE) (blk_cell HZP.out 5)
   exact Or.inl ⟨(rfl), goodE_val (.agg #[.slice (some ⟨b5, 0, none⟩) q.cols.length d5, .string (strB q.tab), .slice (some ⟨b7, 0, none⟩) q.wh.length d7, .string (strB q.ord), .bool q.down, .int .i64 q.lim]) (by simp [execOp, Act.eval, e2, h0, h1, h2, h3, h4, h5, go_sem]) rfl⟩
  refine stepE_cons ⟨_, rfl, fun a w hE hH => ?_⟩ ?_
  ·
   have e3 : a.tmps[3]? = some (.pointer (some ⟨qb, 0, none⟩)) := hH.old 3 rfl
   have h0 := cell_ext ((Ext.to_drew _).trans hE) (blk_cell HZQ.out 0)
   have h1 := cell_ext ((Ext.to_drew _).trans hE) (blk_cell HZQ.out 1)
   have h2 := cell_ext ((Ext.to_drew _).trans hE) (blk_cell HZQ.out 2)
   have h3 := cell_ext ((Ext.to_drew _).trans hE) (blk_cell HZQ.out 3)
   have h4 := cell_ext ((Ext.to_drew _).trans hE) (blk_cell HZQ.out 4)
   have h5 := cell_ext ((Ext.to_drew _).trans hE) (blk_cell HZQ.out 5)
   exact Or.inl ⟨(rfl), goodE_val (.agg #[.slice A5 q.cols.length c5, .string (strB q.tab), .slice A7 q.wh.length c7, .string (strB q.ord), .bool q.down, .int .i64 q.lim]) (by simp [execOp, Act.eval, e3, h0, h1, h2, h3, h4, h5, go_sem]) rfl⟩
  refine stepE_cons ⟨_, rfl, fun a w hE hH => ?_⟩ ?_
  ·
   obtain ⟨v5, e5, g5⟩ := hH.dep 0 5 rfl (by kernel_rfl)
   have q5 : v5 = .agg #[.slice (some ⟨b5, 0, none⟩) q.cols.length d5, .string (strB q.tab), .slice (some ⟨b7, 0, none⟩) q.wh.length d7, .string (strB q.ord), .bool q.down, .int .i64 q.lim] := g5
   subst q5
   obtain ⟨v6, e6, g6⟩ := hH.dep 1 6 rfl (by kernel_rfl)
   have q6 : v6 = .agg #[.slice A5 q.cols.length c5, .string (strB q.tab), .slice A7 q.wh.length c7, .string (strB q.ord), .bool q.down, .int .i64 q.lim] := g6
   subst q6
   exact Or.inl ⟨(rfl), goodE_call rfl #[.agg #[.slice (some ⟨b5, 0, none⟩) q.cols.length d5, .string (strB q.tab), .slice (some ⟨b7, 0, none⟩) q.wh.length d7, .string (strB q.ord), .bool q.down, .int .i64 q.lim], .agg #[.slice A5 q.cols.length c5, .string (strB q.tab), .slice A7 q.wh.length c7, .string (strB q.ord), .bool q.down, .int .i64 q.lim]] (by simp [Act.eval, e5, e6]) _ Tryz.func10 (by kernel_rfl) (by kernel_rfl) ((HSM.out w hE).mono (fun e w' h => ⟨_, h.1, h.2, rfl⟩))⟩
  refine stepE_cons ⟨_, rfl, fun a w hE hH => ?_⟩ ?_
  ·
   obtain ⟨v7, e7, g7⟩ := hH.dep 2 7 rfl (by kernel_rfl)
   exact Or.inl ⟨rfl, goodE_move v7 rfl (eval_of e7) g7⟩
  refine stepE_cons ⟨_, rfl, fun a w hE hH => ?_⟩ ?_
  ·
   have e2 : a.tmps[2]? = some (.pointer (some ⟨pb, 0, none⟩)) := hH.old 2 rfl
   obtain ⟨v8, e8, g8⟩ := hH.dep 3 8 rfl (by kernel_rfl)
   have q8 : v8 = .bool true := g8
   subst q8
   exact Or.inl ⟨wanted_on rfl rfl rfl e8, goodE_val (.pointer (some ⟨pb, 0, none⟩)) (by simp [execOp, Act.eval, e8, e2, go_sem]) rfl⟩
  refine stepE_cons ⟨_, rfl, fun a w hE hH => ?_⟩ ?_
  ·
   obtain ⟨v9, e9, g9⟩ := hH.dep 4 9 rfl (by kernel_rfl)
   have q9 : v9 = .pointer (some ⟨pb, 0, none⟩) := g9
   subst q9
   obtain ⟨v8, e8, g8⟩ := hH.dep 3 8 rfl (by kernel_rfl)
   have q8 : v8 = .bool true := g8
   subst q8
   have hc : w.cell? ⟨pb, 0, none⟩ = some (.slice (some ⟨b5, 0, none⟩) q.cols.length d5) := (cell_ext ((Ext.to_drew _).trans hE) (blk_cell HZP.out 0))
   exact Or.inl ⟨(wanted_on rfl rfl rfl e8), goodE_val (.slice (some ⟨b5, 0, none⟩) q.cols.length d5) (by simp [execOp, Act.eval, e9, hc, go_sem]) rfl⟩
  refine stepE_cons ⟨_, rfl, fun a w hE hH => ?_⟩ ?_
  ·
   have e3 : a.tmps[3]? = some (.pointer (some ⟨qb, 0, none⟩)) := hH.old 3 rfl
   obtain ⟨v8, e8, g8⟩ := hH.dep 3 8 rfl (by kernel_rfl)
   have q8 : v8 = .bool true := g8
   subst q8
   exact Or.inl ⟨wanted_on rfl rfl rfl e8, goodE_val (.pointer (some ⟨qb, 0, none⟩)) (by simp [execOp, Act.eval, e8, e3, go_sem]) rfl⟩
  refine stepE_cons ⟨_, rfl, fun a w hE hH => ?_⟩ ?_
  ·
   obtain ⟨v11, e11, g11⟩ := hH.dep 6 11 rfl (by kernel_rfl)
   have q11 : v11 = .pointer (some ⟨qb, 0, none⟩) := g11
   subst q11
   obtain ⟨v8, e8, g8⟩ := hH.dep 3 8 rfl (by kernel_rfl)
   have q8 : v8 = .bool true := g8
   subst q8
   have hc : w.cell? ⟨qb, 0, none⟩ = some (.slice A5 q.cols.length c5) := (cell_ext ((Ext.to_drew _).trans hE) (blk_cell HZQ.out 0))
   exact Or.inl ⟨(wanted_on rfl rfl rfl e8), goodE_val (.slice A5 q.cols.length c5) (by simp [execOp, Act.eval, e11, hc, go_sem]) rfl⟩
  refine stepE_cons ⟨_, rfl, fun a w hE hH => ?_⟩ ?_
  ·
   obtain ⟨v12, e12, g12⟩ := hH.dep 7 12 rfl (by kernel_rfl)
   have q12 : v12 = .slice A5 q.cols.length c5 := g12
   subst q12
   obtain ⟨v8, e8, g8⟩ := hH.dep 3 8 rfl (by kernel_rfl)
   have q8 : v8 = .bool true := g8
   subst q8
   exact Or.inl ⟨wanted_on rfl rfl rfl e8, goodE_val (.int .i64 (q.cols.length : Nat)) (by simp [execOp, Act.eval, e8, e12, go_sem]) rfl⟩
  refine stepE_cons ⟨_, rfl, fun a w hE hH => ?_⟩ ?_
  ·
   obtain ⟨v13, e13, g13⟩ := hH.dep 8 13 rfl (by kernel_rfl)
   have q13 : v13 = .int .i64 (q.cols.length : Nat) := g13
   subst q13
   obtain ⟨v8, e8, g8⟩ := hH.dep 3 8 rfl (by kernel_rfl)
   have q8 : v8 = .bool true := g8
   subst q8
   exact Or.inl ⟨(wanted_on rfl rfl rfl e8), goodE_val (.int .i64 (q.cols.length + 1 : Nat)) (by simp [execOp, Act.eval, e13, go_sem]; rw [IntKind.wrap_i64]; omega) rfl⟩
  refine stepE_cons ⟨_, rfl, fun a w hE hH => ?_⟩ ?_
  ·
   obtain ⟨v10, e10, g10⟩ := hH.dep 5 10 rfl (by kernel_rfl)
   have q10 : v10 = .slice (some ⟨b5, 0, none⟩) q.cols.length d5 := g10
   subst q10
   obtain ⟨v14, e14, g14⟩ := hH.dep 9 14 rfl (by kernel_rfl)
   have q14 : v14 = .int .i64 (q.cols.length + 1 : Nat) := g14
   subst q14
   obtain ⟨v8, e8, g8⟩ := hH.dep 3 8 rfl (by kernel_rfl)
   have q8 : v8 = .bool true := g8
   subst q8
   exact Or.inl ⟨(wanted_on rfl rfl rfl e8), goodE_new _ w (exec_sliceT elem22 rfl (by simpa [Act.eval, e10, e14] using sr_cut (W := w) (some ⟨b5, 0, none⟩) q.cols.length d5 (q.cols.length + 1) HD.out.1)) (Ext.refl w) rfl⟩
  refine stepE_cons ⟨_, rfl, fun a w hE hH => ?_⟩ ?_
  ·
   have e3 : a.tmps[3]? = some (.pointer (some ⟨qb, 0, none⟩)) := hH.old 3 rfl
   obtain ⟨v8, e8, g8⟩ := hH.dep 3 8 rfl (by kernel_rfl)
   have q8 : v8 = .bool true := g8
   subst q8
   exact Or.inl ⟨wanted_on rfl rfl rfl e8, goodE_val (.pointer (some ⟨qb, 0, none⟩)) (by simp [execOp, Act.eval, e8, e3, go_sem]) rfl⟩
  refine stepE_cons ⟨_, rfl, fun a w hE hH => ?_⟩ ?_
  ·
   obtain ⟨v16, e16, g16⟩ := hH.dep 11 16 rfl (by kernel_rfl)
   have q16 : v16 = .pointer (some ⟨qb, 0, none⟩) := g16
   subst q16
   obtain ⟨v8, e8, g8⟩ := hH.dep 3 8 rfl (by kernel_rfl)
   have q8 : v8 = .bool true := g8
   subst q8
   have hc : w.cell? ⟨qb, 0, none⟩ = some (.slice A5 q.cols.length c5) := (cell_ext ((Ext.to_drew _).trans hE) (blk_cell HZQ.out 0))
   exact Or.inl ⟨(wanted_on rfl rfl rfl e8), goodE_val (.slice A5 q.cols.length c5) (by simp [execOp, Act.eval, e16, hc, go_sem]) rfl⟩
  refine stepE_cons ⟨_, rfl, fun a w hE hH => ?_⟩ ?_
  ·
   obtain ⟨v17, e17, g17⟩ := hH.dep 12 17 rfl (by kernel_rfl)
   have q17 : v17 = .slice A5 q.cols.length c5 := g17
   subst q17
   obtain ⟨v8, e8, g8⟩ := hH.dep 3 8 rfl (by kernel_rfl)
   have q8 : v8 = .bool true := g8
   subst q8
   exact Or.inl ⟨wanted_on rfl rfl rfl e8, goodE_val (.int .i64 (q.cols.length : Nat)) (by simp [execOp, Act.eval, e8, e17, go_sem]) rfl⟩
  refine stepE_cons ⟨_, rfl, fun a w hE hH => ?_⟩ ?_
  ·
   obtain ⟨v15, e15, g15⟩ := hH.dep 10 15 rfl (by kernel_rfl)
   have q15 : v15 = .slice (some ⟨b5, 0, none⟩) (q.cols.length + 1) d5 := g15
   subst q15
   obtain ⟨v18, e18, g18⟩ := hH.dep 13 18 rfl (by kernel_rfl)
   have q18 : v18 = .int .i64 (q.cols.length : Nat) := g18
   subst q18
   obtain ⟨v8, e8, g8⟩ := hH.dep 3 8 rfl (by kernel_rfl)
   have q8 : v8 = .bool true := g8
   subst q8
   have hlt : (q.cols.length : Int) < (q.cols.length : Int) + 1 := by omega
   exact Or.inl ⟨(wanted_on rfl rfl rfl e8), goodE_val (.pointer (some ⟨b5, q.cols.length, none⟩)) (by simp [execOp, Act.eval, e15, e18, Addr.add, hlt, go_sem]; try (intro h0; first | (rw [h0]; rfl) | omega)) rfl⟩
  refine stepE_cons ⟨_, rfl, fun a w hE hH => ?_⟩ ?_
  ·
   obtain ⟨v19, e19, g19⟩ := hH.dep 14 19 rfl (by kernel_rfl)
   have q19 : v19 = .pointer (some ⟨b5, q.cols.length, none⟩) := g19
   subst q19
   obtain ⟨v8, e8, g8⟩ := hH.dep 3 8 rfl (by kernel_rfl)
   have q8 : v8 = .bool true := g8
   subst q8
   have hc := cell_ext ((Ext.to_drew _).trans hE) HC5.out
   exact Or.inl ⟨(wanted_on rfl rfl rfl e8), goodE_val (.string ⟨#[109, 97, 114, 107]⟩) (by simp [execOp, Act.eval, e19, hc, go_sem]) rfl⟩
  refine stepE_cons ⟨_, rfl, fun a w hE hH => ?_⟩ ?_
  ·
   obtain ⟨v20, e20, g20⟩ := hH.dep 15 20 rfl (by kernel_rfl)
   have q20 : v20 = .string ⟨#[109, 97, 114, 107]⟩ := g20
   subst q20
   obtain ⟨v8, e8, g8⟩ := hH.dep 3 8 rfl (by kernel_rfl)
   have q8 : v8 = .bool true := g8
   subst q8
   exact Or.inl ⟨wanted_on rfl rfl rfl e8, goodE_val (.bool true) (by simp [execOp, Act.eval, e8, e20, go_sem]) rfl⟩
  refine stepE_cons ⟨_, rfl, fun a w hE hH => ?_⟩ ?_
  ·
   obtain ⟨v8, e8, g8⟩ := hH.dep 3 8 rfl (by kernel_rfl)
   have q8 : v8 = .bool true := g8
   subst q8
   obtain ⟨v21, e21, g21⟩ := hH.dep 16 21 rfl (by kernel_rfl)
   have q21 : v21 = .bool true := g21
   subst q21
   exact Or.inl ⟨rfl, goodE_pick _ (.bool true) rfl (eval_of e8) (by simp [Act.eval, e8, e21]) rfl⟩
  refine stepE_cons ⟨_, rfl, fun a w hE hH => ?_⟩ ?_
  ·
   obtain ⟨v22, e22, g22⟩ := hH.dep 17 22 rfl (by kernel_rfl)
   exact Or.inl ⟨rfl, goodE_move v22 rfl (eval_of e22) g22⟩
  refine stepE_cons ⟨_, rfl, fun a w hE hH => ?_⟩ ?_
  ·
   have e2 : a.tmps[2]? = some (.pointer (some ⟨pb, 0, none⟩)) := hH.old 2 rfl
   obtain ⟨v23, e23, g23⟩ := hH.dep 18 23 rfl (by kernel_rfl)
   have q23 : v23 = .bool true := g23
   subst q23
   exact Or.inl ⟨wanted_on rfl rfl rfl e23, goodE_val (.pointer (some ⟨pb, 2, none⟩)) (by simp [execOp, Act.eval, e2, e23, go_sem]) rfl⟩
  refine stepE_cons ⟨_, rfl, fun a w hE hH => ?_⟩ ?_
  ·
   obtain ⟨v24, e24, g24⟩ := hH.dep 19 24 rfl (by kernel_rfl)
   have q24 : v24 = .pointer (some ⟨pb, 2, none⟩) := g24
   subst q24
   obtain ⟨v23, e23, g23⟩ := hH.dep 18 23 rfl (by kernel_rfl)
   have q23 : v23 = .bool true := g23
   subst q23
   have hc : w.cell? ⟨pb, 2, none⟩ = some (.slice (some ⟨b7, 0, none⟩) q.wh.length d7) := (cell_ext ((Ext.to_drew _).trans hE) (blk_cell HZP.out 2))
   exact Or.inl ⟨(wanted_on rfl rfl rfl e23), goodE_val (.slice (some ⟨b7, 0, none⟩) q.wh.length d7) (by simp [execOp, Act.eval, e24, hc, go_sem]) rfl⟩
  refine stepE_cons ⟨_, rfl, fun a w hE hH => ?_⟩ ?_
  ·
   have e3 : a.tmps[3]? = some (.pointer (some ⟨qb, 0, none⟩)) := hH.old 3 rfl
   obtain ⟨v23, e23, g23⟩ := hH.dep 18 23 rfl (by kernel_rfl)
   have q23 : v23 = .bool true := g23
   subst q23
   exact Or.inl ⟨wanted_on rfl rfl rfl e23, goodE_val (.pointer (some ⟨qb, 2, none⟩)) (by simp [execOp, Act.eval, e3, e23, go_sem]) rfl⟩
  refine stepE_cons ⟨_, rfl, fun a w hE hH => ?_⟩ ?_
  ·
   obtain ⟨v26, e26, g26⟩ := hH.dep 21 26 rfl (by kernel_rfl)
   have q26 : v26 = .pointer (some ⟨qb, 2, none⟩) := g26
   subst q26
   obtain ⟨v23, e23, g23⟩ := hH.dep 18 23 rfl (by kernel_rfl)
   have q23 : v23 = .bool true := g23
   subst q23
   have hc : w.cell? ⟨qb, 2, none⟩ = some (.slice A7 q.wh.length c7) := (cell_ext ((Ext.to_drew _).trans hE) (blk_cell HZQ.out 2))
   exact Or.inl ⟨(wanted_on rfl rfl rfl e23), goodE_val (.slice A7 q.wh.length c7) (by simp [execOp, Act.eval, e26, hc, go_sem]) rfl⟩
  refine stepE_cons ⟨_, rfl, fun a w hE hH => ?_⟩ ?_
  ·
   obtain ⟨v27, e27, g27⟩ := hH.dep 22 27 rfl (by kernel_rfl)
   have q27 : v27 = .slice A7 q.wh.length c7 := g27
   subst q27
   obtain ⟨v23, e23, g23⟩ := hH.dep 18 23 rfl (by kernel_rfl)
   have q23 : v23 = .bool true := g23
   subst q23
   exact Or.inl ⟨wanted_on rfl rfl rfl e23, goodE_val (.int .i64 (q.wh.length : Nat)) (by simp [execOp, Act.eval, e27, e23, go_sem]) rfl⟩
  refine stepE_cons ⟨_, rfl, fun a w hE hH => ?_⟩ ?_
  ·
   obtain ⟨v28, e28, g28⟩ := hH.dep 23 28 rfl (by kernel_rfl)
   have q28 : v28 = .int .i64 (q.wh.length : Nat) := g28
   subst q28
   obtain ⟨v23, e23, g23⟩ := hH.dep 18 23 rfl (by kernel_rfl)
   have q23 : v23 = .bool true := g23
   subst q23
   exact Or.inl ⟨(wanted_on rfl rfl rfl e23), goodE_val (.int .i64 (q.wh.length + 1 : Nat)) (by simp [execOp, Act.eval, e28, go_sem]; rw [IntKind.wrap_i64]; omega) rfl⟩
  refine stepE_cons ⟨_, rfl, fun a w hE hH => ?_⟩ ?_
  ·
   obtain ⟨v25, e25, g25⟩ := hH.dep 20 25 rfl (by kernel_rfl)
   have q25 : v25 = .slice (some ⟨b7, 0, none⟩) q.wh.length d7 := g25
   subst q25
   obtain ⟨v29, e29, g29⟩ := hH.dep 24 29 rfl (by kernel_rfl)
   have q29 : v29 = .int .i64 (q.wh.length + 1 : Nat) := g29
   subst q29
   obtain ⟨v23, e23, g23⟩ := hH.dep 18 23 rfl (by kernel_rfl)
   have q23 : v23 = .bool true := g23
   subst q23
   exact Or.inl ⟨(wanted_on rfl rfl rfl e23), goodE_new _ w (exec_sliceT elem23 rfl (by simpa [Act.eval, e25, e29] using tr_cut (W := w) (some ⟨b7, 0, none⟩) q.wh.length d7 (q.wh.length + 1) HD.out.2)) (Ext.refl w) rfl⟩
  refine stepE_cons ⟨_, rfl, fun a w hE hH => ?_⟩ ?_
  ·
   have e3 : a.tmps[3]? = some (.pointer (some ⟨qb, 0, none⟩)) := hH.old 3 rfl
   obtain ⟨v23, e23, g23⟩ := hH.dep 18 23 rfl (by kernel_rfl)
   have q23 : v23 = .bool true := g23
   subst q23
   exact Or.inl ⟨wanted_on rfl rfl rfl e23, goodE_val (.pointer (some ⟨qb, 2, none⟩)) (by simp [execOp, Act.eval, e3, e23, go_sem]) rfl⟩
  refine stepE_cons ⟨_, rfl, fun a w hE hH => ?_⟩ ?_
  ·
   obtain ⟨v31, e31, g31⟩ := hH.dep 26 31 rfl (by kernel_rfl)
   have q31 : v31 = .pointer (some ⟨qb, 2, none⟩) := g31
   subst q31
   obtain ⟨v23, e23, g23⟩ := hH.dep 18 23 rfl (by kernel_rfl)
   have q23 : v23 = .bool true := g23
   subst q23
   have hc : w.cell? ⟨qb, 2, none⟩ = some (.slice A7 q.wh.length c7) := (cell_ext ((Ext.to_drew _).trans hE) (blk_cell HZQ.out 2))
   exact Or.inl ⟨(wanted_on rfl rfl rfl e23), goodE_val (.slice A7 q.wh.length c7) (by simp [execOp, Act.eval, e31, hc, go_sem]) rfl⟩
  refine stepE_cons ⟨_, rfl, fun a w hE hH => ?_⟩ ?_
  ·
   obtain ⟨v32, e32, g32⟩ := hH.dep 27 32 rfl (by kernel_rfl)
   have q32 : v32 = .slice A7 q.wh.length c7 := g32
   subst q32
   obtain ⟨v23, e23, g23⟩ := hH.dep 18 23 rfl (by kernel_rfl)
   have q23 : v23 = .bool true := g23
   subst q23
   exact Or.inl ⟨wanted_on rfl rfl rfl e23, goodE_val (.int .i64 (q.wh.length : Nat)) (by simp [execOp, Act.eval, e32, e23, go_sem]) rfl⟩
  refine stepE_cons ⟨_, rfl, fun a w hE hH => ?_⟩ ?_
  ·
   obtain ⟨v30, e30, g30⟩ := hH.dep 25 30 rfl (by kernel_rfl)
   have q30 : v30 = .slice (some ⟨b7, 0, none⟩) (q.wh.length + 1) d7 := g30
   subst q30
   obtain ⟨v33, e33, g33⟩ := hH.dep 28 33 rfl (by kernel_rfl)
   have q33 : v33 = .int .i64 (q.wh.length : Nat) := g33
   subst q33
   obtain ⟨v23, e23, g23⟩ := hH.dep 18 23 rfl (by kernel_rfl)
   have q23 : v23 = .bool true := g23
   subst q23
   have hlt : (q.wh.length : Int) < (q.wh.length : Int) + 1 := by omega
   exact Or.inl ⟨(wanted_on rfl rfl rfl e23), goodE_val (.pointer (some ⟨b7, q.wh.length * 3, none⟩)) (by simp [execOp, Act.eval, e30, e33, Addr.add, hlt, go_sem]; try (intro h0; first | (rw [h0]; rfl) | omega)) rfl⟩
  refine stepE_cons ⟨_, rfl, fun a w hE hH => ?_⟩ ?_
  ·
   obtain ⟨v34, e34, g34⟩ := hH.dep 29 34 rfl (by kernel_rfl)
   have q34 : v34 = .pointer (some ⟨b7, q.wh.length * 3, none⟩) := g34
   subst q34
   obtain ⟨v23, e23, g23⟩ := hH.dep 18 23 rfl (by kernel_rfl)
   have q23 : v23 = .bool true := g23
   subst q23
   exact Or.inl ⟨wanted_on rfl rfl rfl e23, goodE_val (.pointer (some ⟨b7, q.wh.length * 3 + 1, none⟩)) (by simp [execOp, Act.eval, e34, e23, go_sem]) rfl⟩
  refine stepE_cons ⟨_, rfl, fun a w hE hH => ?_⟩ ?_
  ·
   obtain ⟨v35, e35, g35⟩ := hH.dep 30 35 rfl (by kernel_rfl)
   have q35 : v35 = .pointer (some ⟨b7, q.wh.length * 3 + 1, none⟩) := g35
   subst q35
   obtain ⟨v23, e23, g23⟩ := hH.dep 18 23 rfl (by kernel_rfl)
   have q23 : v23 = .bool true := g23
   subst q23
   have hc := cell_ext ((Ext.to_drew _).trans hE) HC7.out
   exact Or.inl ⟨(wanted_on rfl rfl rfl e23), goodE_val (.int .i64 77) (by simp [execOp, Act.eval, e35, hc, go_sem]) rfl⟩
  refine stepE_cons ⟨_, rfl, fun a w hE hH => ?_⟩ ?_
  ·
   obtain ⟨v36, e36, g36⟩ := hH.dep 31 36 rfl (by kernel_rfl)
   have q36 : v36 = .int .i64 77 := g36
   subst q36
   obtain ⟨v23, e23, g23⟩ := hH.dep 18 23 rfl (by kernel_rfl)
   have q23 : v23 = .bool true := g23
   subst q23
   exact Or.inl ⟨wanted_on rfl rfl rfl e23, goodE_val (.bool true) (by simp [execOp, Act.eval, e36, e23, go_sem]) rfl⟩
  refine stepE_cons ⟨_, rfl, fun a w hE hH => ?_⟩ ?_
  ·
   obtain ⟨v23, e23, g23⟩ := hH.dep 18 23 rfl (by kernel_rfl)
   have q23 : v23 = .bool true := g23
   subst q23
   obtain ⟨v37, e37, g37⟩ := hH.dep 32 37 rfl (by kernel_rfl)
   have q37 : v37 = .bool true := g37
   subst q37
   exact Or.inl ⟨rfl, goodE_pick _ (.bool true) rfl (eval_of e23) (by simp [Act.eval, e37, e23]) rfl⟩
  exact stepE_nil
 refine ⟨⟨(some 4), .assign (.tmp 38), _, _, _, none⟩, rfl, ?_⟩
 rintro vals wz hE hV
 have k38 : vals 33 = .bool true := hV 33 (by simp) rfl
 refine ⟨rfl, ?_⟩
 intro KK hKK
 simp only [List.map_cons, List.map_nil, putAll, Act.put, List.setIfInBounds_toArray, List.set_cons_zero, List.set_cons_succ, k38]
 have hfin : Ext w wz := HE2.out.trans ((Ext.to_drew _).trans hE)
 clear hE hV
 refine finE_val (v := .bool true) (w1 := wz) (by simp [execOp, Act.eval, go_sem]) (hKK _ _ ?_)
 go_wp2_with fail
 go_ret
 exact ⟨rfl, hfin⟩
end Go.Proofs.YthhemephaabblaaGreatDoor.Hq
namespace Go.Proofs.YthhemephaabblaaGreatDoor.Hq
open Go.RowKit Go.Proofs.YthhemephaabblaaGreatDoorW.PrintWords Go.Proofs.YthhemephaabblaaGreatDoorW.PrintLast Go.Proofs.YthhemephaabblaaGreatDoorW.PrintMore Go.Proofs.YthhemephaabblaaGreatDoor Go.Proofs.YthhemephaabblaaGreatDoor.Q
set_option linter.unusedVariables false
set_option linter.unusedSimpArgs false
def okF (r : List UInt8) : Prop := r = [] ∨ (∃ r', r = 32 :: r') ∨ (∃ r', r = 44 :: r')
def PK (L : List Tk) (K : List (Nat × List UInt8)) : Prop := L.map (fun t => (t.kind, t.says)) = K
def Seg (a : List UInt8) (K : List (Nat × List UInt8)) : Prop :=
 ∀ (s : List UInt8) (p : Nat) (r : List UInt8), p ≤ s.length → s.drop p = a ++ r → okF r → ∃ L1 p', toks s p = L1 ++ toks s p' ∧ PK L1 K ∧ p' ≤ s.length ∧ s.drop p' = r
theorem Seg.nil : Seg [] [] := fun s p r hp hd _ => ⟨[], p, rfl, rfl, hp, hd⟩
theorem Seg.app {a b : List UInt8} {Ka Kb : List (Nat × List UInt8)} (ha : Seg a Ka) (hb : Seg b Kb) (hf : ∀ r, okF r → okF (b ++ r)) : Seg (a ++ b) (Ka ++ Kb) := by
 intro s p r hp hd hr
 obtain ⟨L1, p1, e1, h1, hp1, hd1⟩ := ha s p (b ++ r) hp (by rw [hd, List.append_assoc]) (hf r hr)
 obtain ⟨L2, p2, e2, h2, hp2, hd2⟩ := hb s p1 r hp1 hd1 hr
 refine ⟨L1 ++ L2, p2, by rw [e1, e2, List.append_assoc], ?_, hp2, hd2⟩
 unfold PK at *
 rw [List.map_append, h1, h2]
theorem tw_all (f : UInt8 → Bool) (w r : List UInt8) (hw : ∀ x ∈ w, f x = true) (hr : ∀ c r', r = c :: r' → f c = false) : (w ++ r).takeWhile f = w := by
 rw [List.takeWhile_append_of_pos hw]
 cases r with
 | nil => simp
 | cons c r' => rw [List.takeWhile_cons_of_neg (by rw [hr c r' rfl]; decide), List.append_nil]
theorem drop_at {s w r : List UInt8} {p : Nat} (hd : s.drop p = w ++ r) : s.drop (p + w.length) = r := by
 rw [← List.drop_drop, hd, List.drop_left]
theorem drop_len {s w r : List UInt8} {p : Nat} (hp : p ≤ s.length) (hd : s.drop p = w ++ r) : p + w.length ≤ s.length := by
 have := congrArg List.length hd
 rw [List.length_drop, List.length_append] at this
 omega
theorem get_at {s u : List UInt8} {c : UInt8} {p : Nat} (hd : s.drop p = c :: u) : s[p]? = some c := by
 have : (s.drop p)[0]? = some c := by rw [hd]; rfl
 rwa [List.getElem?_drop, Nat.add_zero] at this
theorem seg_tok {b w u : List UInt8} {c : UInt8} {k : Nat} {y : List UInt8} (hb : ∀ x ∈ b, isSp x = true) (hw : w = c :: u) (hc : isSp c = false) (hk : 2 ≤ k)
  (ht : ∀ (s : List UInt8) (a : Nat) (r : List UInt8), s.drop a = w ++ r → okF r → tk s a = (⟨k, y, a⟩, a + w.length)) : Seg (b ++ w) [(k, y)] := by
 intro s p r hp hd hr
 rw [List.append_assoc] at hd
 have h1 : runEnd isSp s p = p + b.length := by
  unfold runEnd
  rw [hd, tw_all isSp b (w ++ r) hb (fun c' r' e => by
   rw [hw] at e
   obtain rfl := (List.cons.inj e).1
   exact hc)]
 have h2 := drop_at hd
 have h3 := drop_len hp hd
 have h4 := ht s _ r h2 hr
 refine ⟨[⟨k, y, p + b.length⟩], p + b.length + w.length, ?_, rfl, drop_len h3 h2, drop_at h2⟩
 rw [toks_eq s p hp, tokAt_tk, h1, h4]
 simp only
 rw [if_neg (by omega)]
 rfl
theorem okF_wd {r : List UInt8} (h : okF r) : ∀ c r', r = c :: r' → isWd c = false := by
 intro c r' e
 rcases h with rfl | ⟨r1, rfl⟩ | ⟨r1, rfl⟩
 ·
  cases e
 ·
  obtain rfl := (List.cons.inj e).1; decide
 ·
  obtain rfl := (List.cons.inj e).1; decide
theorem okF_dg {r : List UInt8} (h : okF r) : ∀ c r', r = c :: r' → isDg c = false := by
 intro c r' e
 rcases h with rfl | ⟨r1, rfl⟩ | ⟨r1, rfl⟩
 ·
  cases e
 ·
  obtain rfl := (List.cons.inj e).1; decide
 ·
  obtain rfl := (List.cons.inj e).1; decide
theorem okF_eq {r : List UInt8} (h : okF r) : r.head? ≠ some 61 := by
 rcases h with rfl | ⟨r1, rfl⟩ | ⟨r1, rfl⟩ <;> simp
theorem sm_sp {c : UInt8} (h : isSm c = true) : isSp c = false := by
 unfold isSm at h
 unfold isSp
 simp only [decide_eq_true_eq, UInt8.le_iff_toNat_le] at h
 simp only [decide_eq_false_iff_not, ← UInt8.toNat_inj]
 have h1 : (97 : UInt8).toNat = 97 := rfl
 have h2 : (32 : UInt8).toNat = 32 := rfl
 have h3 : (9 : UInt8).toNat = 9 := rfl
 have h4 : (10 : UInt8).toNat = 10 := rfl
 omega
theorem dg_sm {c : UInt8} (h : isDg c = true) : isSp c = false ∧ isSm c = false := by
 unfold isDg at h
 unfold isSp isSm
 simp only [decide_eq_true_eq, UInt8.le_iff_toNat_le] at h
 simp only [decide_eq_false_iff_not, ← UInt8.toNat_inj, UInt8.le_iff_toNat_le]
 have h0 : (48 : UInt8).toNat = 48 := rfl
 have h1 : (57 : UInt8).toNat = 57 := rfl
 have h2 : (32 : UInt8).toNat = 32 := rfl
 have h3 : (9 : UInt8).toNat = 9 := rfl
 have h4 : (10 : UInt8).toNat = 10 := rfl
 have h5 : (97 : UInt8).toNat = 97 := rfl
 exact ⟨by omega, by omega⟩
theorem seg_word {b w : List UInt8} (hb : ∀ x ∈ b, isSp x = true) (hw : nmB w = true) : Seg (b ++ w) [(2, w)] := by
 match w, hw with
 | c :: u, hw =>
  simp only [nmB, Bool.and_eq_true, decide_eq_true_eq, List.all_eq_true] at hw
  obtain ⟨⟨_, h1⟩, h2⟩ := hw
  refine seg_tok hb rfl (sm_sp h1) (by omega) (fun s a r hd hr => ?_)
  unfold tk
  rw [get_at hd]
  simp only
  have e : (s.drop a).takeWhile isWd = c :: u := by rw [hd]; exact tw_all isWd _ _ h2 (okF_wd hr)
  rw [if_pos h1, e]
  unfold runEnd
  rw [e]
theorem seg_num {b w u : List UInt8} {c : UInt8} (hb : ∀ x ∈ b, isSp x = true) (hw : w = c :: u) (hd : ∀ x ∈ w, isDg x = true) : Seg (b ++ w) [(3, w)] := by
 have h1 := dg_sm (hd c (by rw [hw]; simp))
 have h2 := hd c (by rw [hw]; simp)
 refine seg_tok hb hw h1.1 (by omega) (fun s a r hda hr => ?_)
 unfold tk
 have hda' : s.drop a = c :: (u ++ r) := by rw [hda, hw]; rfl
 rw [get_at hda']
 simp only
 have e : (s.drop a).takeWhile isDg = w := by rw [hda]; exact tw_all isDg _ _ hd (okF_dg hr)
 rw [if_neg (by rw [h1.2]; decide), if_pos h2, e]
 unfold runEnd
 rw [e]
theorem quoL_esc (r : List UInt8) : ∀ v : List UInt8, quoL (esc v ++ 34 :: r) = some (v, (esc v).length + 1)
 | [] => by
  show quoL (34 :: r) = _
  rw [quoL_cons, if_pos rfl]
  rfl
 | x :: v => by
  have ih := quoL_esc r v
  have e : esc (x :: v) = esc1 x ++ esc v := rfl
  rw [e]
  unfold esc1
  by_cases h34 : x = 34
  ·
   rw [if_pos h34, List.append_assoc]
   show quoL (92 :: 34 :: (esc v ++ 34 :: r)) = _
   rw [quoL_cons, if_neg (by decide), if_pos rfl]
   simp only
   rw [if_pos (by decide), ih, h34]
   simp
  ·
   rw [if_neg h34]
   by_cases h92 : x = 92
   ·
    rw [if_pos h92, List.append_assoc]
    show quoL (92 :: 92 :: (esc v ++ 34 :: r)) = _
    rw [quoL_cons, if_neg (by decide), if_pos rfl]
    simp only
    rw [if_pos (by decide), ih, h92]
    simp
   ·
    rw [if_neg h92, List.append_assoc]
    show quoL (x :: (esc v ++ 34 :: r)) = _
    rw [quoL_cons, if_neg h34, if_neg h92, ih]
    simp
theorem seg_val {b : List UInt8} (hb : ∀ x ∈ b, isSp x = true) (v : List UInt8) : Seg (b ++ ([34] ++ esc v ++ [34])) [(4, v)] := by
 refine seg_tok (c := 34) (u := esc v ++ [34]) hb (by simp) (by decide) (by omega) (fun s a r hd hr => ?_)
 have hd1 : s.drop a = [34] ++ (esc v ++ 34 :: r) := by rw [hd]; simp
 have hd2 : s.drop (a + 1) = esc v ++ 34 :: r := drop_at hd1
 have hd3 : s.drop a = 34 :: (esc v ++ 34 :: r) := hd1
 unfold tk
 rw [get_at hd3]
 simp only
 rw [if_neg (by decide), if_neg (by decide), if_pos trivial, hd2, quoL_esc]
 simp only [List.length_append, List.length_cons, List.length_nil, Prod.mk.injEq, true_and]
 omega
theorem seg_sign {b w u : List UInt8} {c : UInt8} (hb : ∀ x ∈ b, isSp x = true) (hw : w = c :: u) (hc : isSp c = false ∧ isSm c = false ∧ isDg c = false ∧ c ≠ 34) (hs : ∀ r, okF r → signOf (w ++ r) = w) : Seg (b ++ w) [(5, w)] := by
 refine seg_tok hb hw hc.1 (by omega) (fun s a r hda hr => ?_)
 unfold tk
 have hda' : s.drop a = c :: (u ++ r) := by rw [hda, hw]; rfl
 rw [get_at hda']
 simp only
 rw [if_neg (by rw [hc.2.1]; decide), if_neg (by rw [hc.2.2.1]; decide), if_neg hc.2.2.2, hda, hs r hr, if_neg (by rw [hw]; simp)]
theorem sign1 (c : UInt8) (h : c = 44 ∨ c = 42 ∨ c = 61) (r : List UInt8) : signOf ([c] ++ r) = [c] := by
 show signOf (c :: r) = _
 rw [signOf_cons, if_pos h]
theorem seg_star {b : List UInt8} (hb : ∀ x ∈ b, isSp x = true) : Seg (b ++ [42]) [(5, wStar)] := seg_sign (w := [42]) hb rfl (by decide) (fun r _ => sign1 42 (by decide) r)
theorem seg_comma {b : List UInt8} (hb : ∀ x ∈ b, isSp x = true) : Seg (b ++ [44]) [(5, wComma)] := seg_sign (w := [44]) hb rfl (by decide) (fun r _ => sign1 44 (by decide) r)
theorem sign2 (c : UInt8) (h : c = 60 ∨ c = 62 ∨ c = 33) (r : List UInt8) : signOf ([c, 61] ++ r) = [c, 61] := by
 show signOf (c :: 61 :: r) = _
 rw [signOf_cons]
 rcases h with rfl | rfl | rfl <;> simp
theorem sign3 (c : UInt8) (h : c = 60 ∨ c = 62) (r : List UInt8) (hr : okF r) : signOf ([c] ++ r) = [c] := by
 show signOf (c :: r) = _
 rw [signOf_cons]
 have := okF_eq hr
 rcases h with rfl | rfl <;> simp [this]
theorem seg_op {b : List UInt8} (hb : ∀ x ∈ b, isSp x = true) (o : Int) (h1 : 1 ≤ o) (h6 : o ≤ 6) : Seg (b ++ opT o) [(5, opT o)] := by
 have : o = 1 ∨ o = 2 ∨ o = 3 ∨ o = 4 ∨ o = 5 ∨ o = 6 := by omega
 rcases this with rfl | rfl | rfl | rfl | rfl | rfl
 ·
  exact seg_sign (w := [61]) hb rfl (by decide) (fun r _ => sign1 61 (by decide) r)
 ·
  exact seg_sign (w := [33, 61]) hb rfl (by decide) (fun r _ => sign2 33 (by decide) r)
 ·
  exact seg_sign (w := [60]) hb rfl (by decide) (fun r hr => sign3 60 (by decide) r hr)
 ·
  exact seg_sign (w := [60, 61]) hb rfl (by decide) (fun r _ => sign2 60 (by decide) r)
 ·
  exact seg_sign (w := [62]) hb rfl (by decide) (fun r hr => sign3 62 (by decide) r hr)
 ·
  exact seg_sign (w := [62, 61]) hb rfl (by decide) (fun r _ => sign2 62 (by decide) r)
theorem opN_opT (o : Int) (h1 : 1 ≤ o) (h6 : o ≤ 6) : ((opN (opT o) : Nat) : Int) = o := by
 have : o = 1 ∨ o = 2 ∨ o = 3 ∨ o = 4 ∨ o = 5 ∨ o = 6 := by omega
 rcases this with rfl | rfl | rfl | rfl | rfl | rfl <;> decide
theorem digitVal_of (d : Nat) (h : d < 10) : Lib.digitVal (UInt8.ofNat (48 + d)) = some d := by
 have e : (UInt8.ofNat (48 + d)).toNat = 48 + d := by rw [UInt8.toNat_ofNat']; omega
 unfold Lib.digitVal
 rw [e, if_pos (by omega)]
 congr 1
 omega
theorem decFrom_app : ∀ (l m : List UInt8) (acc : Nat), Lib.decFrom acc (l ++ m) = (Lib.decFrom acc l).bind fun n => Lib.decFrom n m
 | [], m, acc => rfl
 | b :: l, m, acc => by
  rw [List.cons_append, Lib.decFrom, Lib.decFrom]
  cases Lib.digitVal b with
  | none => rfl
  | some d => exact decFrom_app l m _
theorem decFrom_digits : ∀ (n u : Nat), u ≤ n → Lib.decFrom 0 (Lib.decDigits u) = some u
 | n, u, hn => by
  rw [Lib.decDigits]
  by_cases h : u < 10
  ·
   rw [dif_pos h]
   unfold Lib.decFrom
   rw [digitVal_of u h]
   simp [Lib.decFrom]
  ·
   rw [dif_neg h, decFrom_app]
   match n, hn with
   | n + 1, hn =>
    rw [decFrom_digits n (u / 10) (by omega), Option.bind_some]
    unfold Lib.decFrom
    rw [digitVal_of (u % 10) (by omega)]
    simp only [Lib.decFrom]
    congr 1
    omega
   | 0, hn => omega
theorem digits_dg : ∀ (n u : Nat), u ≤ n → ∀ x ∈ Lib.decDigits u, isDg x = true
 | n, u, hn => by
  intro x hx
  have key : ∀ d, d < 10 → isDg (UInt8.ofNat (48 + d)) = true := by
   intro d hd
   have e : (UInt8.ofNat (48 + d)).toNat = 48 + d := by rw [UInt8.toNat_ofNat']; omega
   unfold isDg
   simp only [decide_eq_true_eq, UInt8.le_iff_toNat_le, e]
   exact ⟨by show 48 ≤ _; omega, by show _ ≤ 57; omega⟩
  rw [Lib.decDigits] at hx
  by_cases h : u < 10
  ·
   rw [dif_pos h] at hx
   simp only [List.mem_cons, List.not_mem_nil, or_false] at hx
   subst hx
   exact key u h
  ·
   rw [dif_neg h] at hx
   rcases List.mem_append.1 hx with hx | hx
   ·
    match n, hn with
    | n + 1, hn => exact digits_dg n (u / 10) (by omega) x hx
    | 0, hn => omega
   ·
    simp only [List.mem_cons, List.not_mem_nil, or_false] at hx
    subst hx
    exact key _ (by omega)
theorem digits_head : ∀ (n u : Nat), u ≤ n → 0 < u → ∃ c r, Lib.decDigits u = c :: r ∧ c ≠ 48
 | n, u, hn, hp => by
  rw [Lib.decDigits]
  by_cases h : u < 10
  ·
   rw [dif_pos h]
   refine ⟨_, _, rfl, fun e => ?_⟩
   have e2 := congrArg UInt8.toNat e
   rw [UInt8.toNat_ofNat'] at e2
   have h48 : (48 : UInt8).toNat = 48 := rfl
   rw [h48] at e2
   omega
  ·
   rw [dif_neg h]
   match n, hn with
   | n + 1, hn =>
    obtain ⟨c, r, e, hc⟩ := digits_head n (u / 10) (by omega) (by omega)
    exact ⟨c, r ++ _, by rw [e]; rfl, hc⟩
   | 0, hn => omega
theorem digits_len : ∀ (k u : Nat), u < 10 ^ k → 0 < k → (Lib.decDigits u).length ≤ k
 | 0, u, _, h => by omega
 | k + 1, u, hu, _ => by
  rw [Lib.decDigits]
  by_cases h : u < 10
  ·
   rw [dif_pos h]; simp
  ·
   rw [dif_neg h, List.length_append]
   rw [Nat.pow_succ] at hu
   have hk : 0 < k := by
    match k, hu with
    | 0, hu => simp at hu; omega
    | k + 1, _ => omega
   have := digits_len k (u / 10) (by omega) hk
   simp only [List.length_cons, List.length_nil]
   omega
theorem itoa_facts (n : Int) (h0 : 0 < n) (h9 : n ≤ 999999999) : (∃ c u, Lib.itoa n = c :: u ∧ c ≠ 48) ∧ (∀ x ∈ Lib.itoa n, isDg x = true) ∧ (Lib.itoa n).length ≤ 9 ∧ (Lib.atoi (Lib.itoa n)).getD 0 = n := by
 have e : Lib.itoa n = Lib.decDigits n.toNat := by unfold Lib.itoa; rw [if_neg (by omega)]
 rw [e]
 obtain ⟨c, r, hc, hc48⟩ := digits_head _ n.toNat (Nat.le_refl _) (by omega)
 have hdg := digits_dg _ n.toNat (Nat.le_refl _)
 refine ⟨⟨c, r, hc, hc48⟩, hdg, digits_len 9 _ (by omega) (by omega), ?_⟩
 have hd := hdg c (by rw [hc]; simp)
 have hf := decFrom_digits _ n.toNat (Nat.le_refl _)
 rw [hc] at hf ⊢
 unfold Lib.atoi
 have h45 : (c == 45) = false := by
  rw [beq_eq_false_iff_ne]; rintro rfl; revert hd; decide
 have h43 : (c == 43) = false := by
  rw [beq_eq_false_iff_ne]; rintro rfl; revert hd; decide
 simp only [h45, h43]
 unfold Lib.decNat
 simp only [Bool.false_eq_true, if_false, List.isEmpty_cons, hf, Option.map_some, Option.getD_some]
 omega
end Go.Proofs.YthhemephaabblaaGreatDoor.Hq
namespace Go.Proofs.YthhemephaabblaaGreatDoor.Hq
open Go.RowKit Go.Proofs.YthhemephaabblaaGreatDoorW.PrintWords Go.Proofs.YthhemephaabblaaGreatDoorW.PrintLast Go.Proofs.YthhemephaabblaaGreatDoorW.PrintMore Go.Proofs.YthhemephaabblaaGreatDoor Go.Proofs.YthhemephaabblaaGreatDoor.Q
set_option linter.unusedVariables false
set_option linter.unusedSimpArgs false
theorem sp1 : ∀ x ∈ ([32] : List UInt8), isSp x = true := by decide
theorem sp0 : ∀ x ∈ ([] : List UInt8), isSp x = true := by decide
theorem okF_sp (a r : List UInt8) : okF ([32] ++ a ++ r) := .inr (.inl ⟨a ++ r, by simp⟩)
theorem okF_jt (l : List (List UInt8)) (r : List UInt8) (hr : okF r) : okF (jt l ++ r) := by
 cases l with
 | nil => exact hr
 | cons a b => rw [jt_cons]; exact .inr (.inl ⟨a ++ jt b ++ r, by simp⟩)
theorem seg_jt : ∀ (l : List (List UInt8 × List (Nat × List UInt8))), (∀ x ∈ l, Seg ([32] ++ x.1) x.2) → Seg (jt (l.map (·.1))) (l.flatMap (·.2))
 | [], _ => Seg.nil
 | x :: l, h => by
  rw [List.map_cons, jt_cons, List.flatMap_cons]
  exact (h x (by simp)).app (seg_jt l fun y hy => h y (by simp [hy])) (fun r hr => okF_jt _ r hr)
def colsK (l : List (List UInt8)) : List (Nat × List UInt8) := l.flatMap fun c => [(5, wComma), (2, c)]
theorem okF_cj (l : List (List UInt8)) (r : List UInt8) (hr : okF r) : okF (Lib.joinTail [44, 32] l ++ r) := by
 cases l with
 | nil => exact hr
 | cons a b => exact .inr (.inr ⟨32 :: a ++ Lib.joinTail [44, 32] b ++ r, by simp [Lib.joinTail]⟩)
theorem seg_cj : ∀ (l : List (List UInt8)), (∀ c ∈ l, nmB c = true) → Seg (Lib.joinTail [44, 32] l) (colsK l)
 | [], _ => Seg.nil
 | c :: l, h => by
  have e : Lib.joinTail [44, 32] (c :: l) = (([] ++ [44]) ++ ([32] ++ c)) ++ Lib.joinTail [44, 32] l := by simp [Lib.joinTail]
  have e2 : colsK (c :: l) = ([(5, wComma)] ++ [(2, c)]) ++ colsK l := rfl
  rw [e, e2]
  exact ((seg_comma sp0).app (seg_word sp1 (h c (by simp))) (fun r _ => okF_sp c r)).app (seg_cj l fun y hy => h y (by simp [hy])) (fun r hr => okF_cj l r hr)
def colK (l : List (List UInt8)) : List (Nat × List UInt8) := match l with
 | [] => [(5, wStar)]
 | c :: l => (2, c) :: colsK l
theorem seg_cols (l : List (List UInt8)) (h : ∀ c ∈ l, nmB c = true) : Seg ([32] ++ colsT l) (colK l) := by
 match l, h with
 | [], _ => exact seg_star sp1
 | c :: l, h =>
  have e : ([32] : List UInt8) ++ colsT (c :: l) = ([32] ++ c) ++ Lib.joinTail [44, 32] l := by unfold colsT; rw [if_neg (by simp), Lib.join_cons, List.append_assoc]
  rw [e]
  exact (seg_word sp1 (h c (by simp))).app (seg_cj l fun y hy => h y (by simp [hy])) (fun r hr => okF_cj l r hr)
def testK (t : Tst) : List (Nat × List UInt8) := [(2, t.col), (5, opT t.op), (4, t.val)]
def whK (i : Nat) : List Tst → List (Nat × List UInt8)
 | [] => []
 | t :: l => (2, if i = 0 then wWhere else wAnd) :: testK t ++ whK (i + 1) l
def ordK (q : Qry) : List (Nat × List UInt8) := if q.ord = [] then [] else [(2, wOrder), (2, wBy), (2, q.ord)]
def downK (q : Qry) : List (Nat × List UInt8) := if q.down then [(2, wDown)] else []
def limK (q : Qry) : List (Nat × List UInt8) := if 0 < q.lim then [(2, wLimit), (3, Lib.itoa q.lim)] else []
theorem okF_jts (l : List (List UInt8)) : ∀ r, okF r → okF (jt l ++ r) := fun r hr => okF_jt l r hr
theorem seg_wh : ∀ (l : List Tst) (i : Nat), (∀ t ∈ l, nmB t.col = true ∧ 1 ≤ t.op ∧ t.op ≤ 6 ∧ t.val.length ≤ 1024) → Seg (jt (whW i l)) (whK i l)
 | [], i, _ => Seg.nil
 | t :: l, i, h => by
  obtain ⟨h1, h2, h3, _⟩ := h t (by simp)
  have e : jt (whW i (t :: l)) = (([32] ++ (if i = 0 then [119, 104, 101, 114, 101] else [97, 110, 100])) ++ (([32] ++ t.col) ++ (([32] ++ opT t.op) ++ ([32] ++ ([34] ++ esc t.val ++ [34]))))) ++ jt (whW (i + 1) l) := by
   rw [whW, jt_append]
   simp [testW, jt, Lib.joinTail]
  have e2 : whK i (t :: l) = ([(2, if i = 0 then wWhere else wAnd)] ++ ([(2, t.col)] ++ ([(5, opT t.op)] ++ [(4, t.val)]))) ++ whK (i + 1) l := rfl
  rw [e, e2]
  refine Seg.app (Seg.app ?_ (Seg.app (seg_word sp1 h1) (Seg.app (seg_op sp1 _ h2 h3) (seg_val sp1 _) (fun r _ => okF_sp _ r)) (fun r _ => by rw [List.append_assoc]; exact okF_sp _ _)) (fun r _ => by rw [List.append_assoc]; exact okF_sp _ _)) (seg_wh l (i + 1) fun y hy => h y (by simp [hy])) (okF_jts _)
  by_cases hi : i = 0
  ·
   rw [if_pos hi, if_pos hi]; exact seg_word sp1 (w := wWhere) (by decide)
  ·
   rw [if_neg hi, if_neg hi]; exact seg_word sp1 (w := wAnd) (by decide)
theorem seg_ord (q : Qry) (h : MayP q) : Seg (jt (ordW q)) (ordK q) := by
 unfold ordW ordK
 by_cases ho : q.ord = []
 ·
  rw [if_pos ho, if_pos ho]; exact Seg.nil
 ·
  rw [if_neg ho, if_neg ho]
  have hn : nmB q.ord = true := by rcases h.ord with e | e; exact absurd e ho; exact e
  exact seg_jt [(wOrder, [(2, wOrder)]), (wBy, [(2, wBy)]), (q.ord, [(2, q.ord)])] (fun x hx => by
   simp only [List.mem_cons, List.not_mem_nil, or_false] at hx
   rcases hx with rfl | rfl | rfl
   ·
    exact seg_word sp1 (by decide)
   ·
    exact seg_word sp1 (by decide)
   ·
    exact seg_word sp1 hn)
theorem seg_down (q : Qry) : Seg (jt (downW q)) (downK q) := by
 unfold downW downK
 cases q.down with
 | false => exact Seg.nil
 | true => exact seg_jt [(wDown, [(2, wDown)])] (fun x hx => by
   simp only [List.mem_cons, List.not_mem_nil, or_false] at hx
   subst hx
   exact seg_word sp1 (by decide))
theorem seg_lim (q : Qry) (h : MayP q) : Seg (jt (limW q)) (limK q) := by
 unfold limW limK
 by_cases hl : 0 < q.lim
 ·
  rw [if_pos hl, if_pos hl]
  obtain ⟨⟨c, u, hc, _⟩, hdg, _, _⟩ := itoa_facts q.lim hl h.lim1
  exact seg_jt [(wLimit, [(2, wLimit)]), (Lib.itoa q.lim, [(3, Lib.itoa q.lim)])] (fun x hx => by
   simp only [List.mem_cons, List.not_mem_nil, or_false] at hx
   rcases hx with rfl | rfl
   ·
    exact seg_word sp1 (by decide)
   ·
    exact seg_num sp1 hc hdg)
 ·
  rw [if_neg hl, if_neg hl]; exact Seg.nil
def KQ (q : Qry) : List (Nat × List UInt8) := (2, wSelect) :: (colK q.cols ++ ((2, wFrom) :: (2, q.tab) :: (whK 0 q.wh ++ (ordK q ++ (downK q ++ (limK q ++ [(0, [])]))))))
theorem toks_text (q : Qry) (h : MayP q) : PK (toks (textQ q) 0) (KQ q) := by
 have e : textQ q = ([] ++ wSelect) ++ (([32] ++ colsT q.cols) ++ (([32] ++ wFrom) ++ (([32] ++ q.tab) ++ (jt (whW 0 q.wh) ++ (jt (ordW q) ++ (jt (downW q) ++ jt (limW q))))))) := by
  unfold textQ wordsQ headW
  simp only [List.cons_append, List.nil_append, List.append_assoc]
  rw [Lib.join_cons]
  show wSelect ++ jt (colsT q.cols :: wFrom :: q.tab :: (whW 0 q.wh ++ (ordW q ++ (downW q ++ limW q)))) = _
  rw [jt_cons, jt_cons, jt_cons, jt_append, jt_append, jt_append]
  simp
 have hS : Seg (textQ q) ([(2, wSelect)] ++ (colK q.cols ++ ([(2, wFrom)] ++ ([(2, q.tab)] ++ (whK 0 q.wh ++ (ordK q ++ (downK q ++ limK q))))))) := by
  rw [e]
  have f4 : ∀ r, okF r → okF (jt (limW q) ++ r) := okF_jts _
  have f3 : ∀ r, okF r → okF ((jt (downW q) ++ jt (limW q)) ++ r) := fun r hr => by rw [List.append_assoc]; exact okF_jts _ _ (f4 r hr)
  have f2 : ∀ r, okF r → okF ((jt (ordW q) ++ (jt (downW q) ++ jt (limW q))) ++ r) := fun r hr => by rw [List.append_assoc]; exact okF_jts _ _ (f3 r hr)
  have f1 : ∀ r, okF r → okF ((jt (whW 0 q.wh) ++ (jt (ordW q) ++ (jt (downW q) ++ jt (limW q)))) ++ r) := fun r hr => by rw [List.append_assoc]; exact okF_jts _ _ (f2 r hr)
  refine Seg.app (seg_word sp0 (by decide)) (Seg.app (seg_cols _ h.colsB) (Seg.app (seg_word sp1 (by decide)) (Seg.app (seg_word sp1 h.tab) (Seg.app (seg_wh _ 0 h.whB) (Seg.app (seg_ord q h) (Seg.app (seg_down q) (seg_lim q h) f4) f3) f2) f1) ?_) ?_) ?_
  ·
   intro r _; rw [List.append_assoc]; exact okF_sp _ _
  ·
   intro r _; rw [List.append_assoc]; exact okF_sp _ _
  ·
   intro r _; rw [List.append_assoc]; exact okF_sp _ _
 obtain ⟨L1, p', h1, h2, h3, h4⟩ := hS (textQ q) 0 [] (Nat.zero_le _) (by simp) (.inl rfl)
 have hp : p' = (textQ q).length := by
  have := congrArg List.length h4
  rw [List.length_drop] at this
  simp at this
  omega
 subst hp
 have hz : toks (textQ q) (textQ q).length = [⟨0, [], (textQ q).length⟩] := by
  rw [toks_eq _ _ (Nat.le_refl _), tokAt_tk, runEnd_end]
  have : tk (textQ q) (textQ q).length = (⟨0, [], (textQ q).length⟩, (textQ q).length) := by unfold tk; rw [List.getElem?_eq_none (Nat.le_refl _)]
  rw [this]
  simp
 rw [h1, hz]
 unfold PK at h2 ⊢
 rw [List.map_append, h2]
 unfold KQ
 simp
theorem PK.cons {L : List Tk} {k : Nat} {x : List UInt8} {K : List (Nat × List UInt8)} (h : PK L ((k, x) :: K)) : ∃ t L', L = t :: L' ∧ t.kind = k ∧ t.says = x ∧ PK L' K := by
 obtain ⟨t, L', rfl, ht, h'⟩ := List.map_eq_cons_iff.1 h
 obtain ⟨h1, h2⟩ := Prod.mk.inj ht
 exact ⟨t, L', rfl, h1, h2, h'⟩
theorem pk_yes {L : List Tk} {k : Nat} {x : List UInt8} {K : List (Nat × List UInt8)} (h : PK L ((k, x) :: K)) : ∃ L', passL k x L = (true, L') ∧ PK L' K := by
 obtain ⟨t, L', rfl, h1, h2, h'⟩ := h.cons
 exact ⟨L', if_pos ⟨h1, h2⟩, h'⟩
theorem pk_no {L : List Tk} {k k' : Nat} {x x' : List UInt8} {K : List (Nat × List UInt8)} (h : PK L ((k', x') :: K)) (hne : ¬ (k' = k ∧ x' = x)) : (passL k x L).1 = false := by
 obtain ⟨t, L', rfl, h1, h2, h'⟩ := h.cons
 unfold passL
 rw [if_neg (by rintro ⟨e1, e2⟩; exact hne ⟨h1.symm.trans e1, h2.symm.trans e2⟩)]
theorem pk_name {L : List Tk} {x : List UInt8} {K : List (Nat × List UInt8)} (h : PK L ((2, x) :: K)) (hx : x.length ≤ 16) : ∃ L', nameL L = (some x, L') ∧ PK L' K := by
 obtain ⟨t, L', rfl, h1, h2, h'⟩ := h.cons
 refine ⟨L', ?_, h'⟩
 subst h2
 exact if_pos ⟨h1, hx⟩
theorem pk_cols : ∀ (l : List (List UInt8)) (c : List UInt8) (n : Nat) (acc : List (List UInt8)) (L : List Tk) (K : List (Nat × List UInt8)), (∀ x ∈ c :: l, x.length ≤ 16) → l.length < n → PK L ((2, c) :: (colsK l ++ ((2, wFrom) :: K))) → ∃ L', colsL n acc L = (some (acc ++ c :: l), L') ∧ PK L' ((2, wFrom) :: K)
 | l, c, 0, acc, L, K, _, hn, _ => by omega
 | [], c, n + 1, acc, L, K, hl, hn, h => by
  obtain ⟨L1, e1, h1⟩ := pk_name h (hl c (by simp))
  have h1' : PK L1 ((2, wFrom) :: K) := h1
  refine ⟨L1, ?_, h1'⟩
  rw [colsL, e1]
  simp only
  rw [if_neg (by rw [pk_no h1' (by decide)]; decide)]
 | d :: l, c, n + 1, acc, L, K, hl, hn, h => by
  obtain ⟨L1, e1, h1⟩ := pk_name h (hl c (by simp))
  have h1' : PK L1 ((5, wComma) :: (2, d) :: (colsK l ++ ((2, wFrom) :: K))) := h1
  obtain ⟨L2, e2, h2⟩ := pk_yes h1'
  obtain ⟨L3, e3, h3⟩ := pk_cols l d n (acc ++ [c]) L2 K (fun x hx => hl x (by simp only [List.mem_cons] at hx ⊢; exact .inr hx)) (by simp only [List.length_cons] at hn; omega) h2
  refine ⟨L3, ?_, h3⟩
  rw [colsL, e1]
  simp only
  rw [e2, if_pos rfl, e3]
  simp
theorem pk_columns (l : List (List UInt8)) (L : List Tk) (K : List (Nat × List UInt8)) (hl : ∀ x ∈ l, x.length ≤ 16) (hn : l.length ≤ 8) (h : PK L (colK l ++ ((2, wFrom) :: K))) : ∃ L', columnsL L = (some l, L') ∧ PK L' ((2, wFrom) :: K) := by
 match l, hl, hn, h with
 | [], _, _, h =>
  obtain ⟨L1, e1, h1⟩ := pk_yes (show PK L ((5, wStar) :: (2, wFrom) :: K) from h)
  refine ⟨L1, ?_, h1⟩
  unfold columnsL
  rw [e1, if_pos rfl]
 | c :: l, hl, hn, h =>
  have h' : PK L ((2, c) :: (colsK l ++ ((2, wFrom) :: K))) := h
  obtain ⟨L1, e1, h1⟩ := pk_cols l c 8 [] L K hl (by simp only [List.length_cons] at hn; omega) h'
  refine ⟨L1, ?_, h1⟩
  unfold columnsL
  rw [if_neg (by rw [pk_no h' (by rintro ⟨e, _⟩; cases e)]; decide), e1]
  rfl
theorem pk_test {t : Tst} {L : List Tk} {K : List (Nat × List UInt8)} (hc : t.col.length ≤ 16) (h1 : 1 ≤ t.op) (h6 : t.op ≤ 6) (h : PK L (testK t ++ K)) : ∃ L', testL L = (some t, L') ∧ PK L' K := by
 obtain ⟨L1, e1, k1⟩ := pk_name (show PK L ((2, t.col) :: (5, opT t.op) :: (4, t.val) :: K) from h) hc
 obtain ⟨t1, L2, rfl, a1, a2, k2⟩ := k1.cons
 obtain ⟨t2, L3, rfl, b1, b2, k3⟩ := k2.cons
 refine ⟨L3, ?_, k3⟩
 have hop := opN_opT t.op h1 h6
 unfold testL
 rw [e1]
 simp only
 have e2 : hdT (t1 :: t2 :: L3) = t1 := rfl
 have e3 : hdT (t1 :: t2 :: L3).tail = t2 := rfl
 rw [e2, e3, a2, b2, if_pos ⟨a1, by omega⟩, if_pos b1, hop]
 rfl
theorem pk_wh : ∀ (l : List Tst) (t : Tst) (i n : Nat) (acc : List Tst) (L : List Tk) (K : List (Nat × List UInt8)), 0 < i → (∀ x ∈ t :: l, x.col.length ≤ 16 ∧ 1 ≤ x.op ∧ x.op ≤ 6) → l.length < n → (∀ L', PK L' K → (passL 2 wAnd L').1 = false) → PK L (testK t ++ (whK i l ++ K)) → ∃ L', whL n acc L = (some (acc ++ t :: l), L') ∧ PK L' K
 | l, t, i, 0, acc, L, K, _, _, hn, _, _ => by omega
 | [], t, i, n + 1, acc, L, K, hi, hl, hn, hK, h => by
  obtain ⟨q1, q2, q3⟩ := hl t (by simp)
  obtain ⟨L1, e1, h1⟩ := pk_test q1 q2 q3 h
  have h1' : PK L1 K := h1
  refine ⟨L1, ?_, h1'⟩
  rw [whL, e1]
  simp only
  rw [if_neg (by rw [hK L1 h1']; decide)]
 | d :: l, t, i, n + 1, acc, L, K, hi, hl, hn, hK, h => by
  obtain ⟨q1, q2, q3⟩ := hl t (by simp)
  obtain ⟨L1, e1, h1⟩ := pk_test q1 q2 q3 h
  have h1' : PK L1 ((2, wAnd) :: (testK d ++ (whK (i + 1) l ++ K))) := by
   have : whK i (d :: l) = (2, wAnd) :: testK d ++ whK (i + 1) l := by rw [whK, if_neg (by omega)]
   rw [this] at h1
   simpa using h1
  obtain ⟨L2, e2, h2⟩ := pk_yes h1'
  obtain ⟨L3, e3, h3⟩ := pk_wh l d (i + 1) n (acc ++ [t]) L2 K (by omega) (fun x hx => hl x (by simp only [List.mem_cons] at hx ⊢; exact .inr hx)) (by simp only [List.length_cons] at hn; omega) hK h2
  refine ⟨L3, ?_, h3⟩
  rw [whL, e1]
  simp only
  rw [e2, if_pos rfl, e3]
  simp
theorem pk_end {L : List Tk} (h : PK L [(0, [])]) : (hdT L).kind = 0 ∧ ∀ k x, k ≠ 0 → (passL k x L).1 = false := by
 refine ⟨?_, fun k x hk => pk_no h (fun e => hk e.1.symm)⟩
 obtain ⟨t, L', rfl, h1, _⟩ := h.cons
 exact h1
theorem pk_lim_no {q : Qry} {L : List Tk} (h : PK L (limK q ++ [(0, [])])) (x : List UInt8) (hx : x ≠ wLimit) : (passL 2 x L).1 = false := by
 unfold limK at h
 split at h
 ·
  exact pk_no (show PK L ((2, wLimit) :: _) from h) (fun e => hx e.2.symm)
 ·
  exact (pk_end h).2 2 x (by decide)
theorem pk_down_no {q : Qry} {L : List Tk} (h : PK L (downK q ++ (limK q ++ [(0, [])]))) (x : List UInt8) (hx : x ≠ wLimit) (hx2 : x ≠ wDown) : (passL 2 x L).1 = false := by
 unfold downK at h
 split at h
 ·
  exact pk_no (show PK L ((2, wDown) :: _) from h) (fun e => hx2 e.2.symm)
 ·
  exact pk_lim_no h x hx
theorem pk_ord_no {q : Qry} {L : List Tk} (h : PK L (ordK q ++ (downK q ++ (limK q ++ [(0, [])])))) (x : List UInt8) (hx : x ≠ wLimit) (hx2 : x ≠ wDown) (hx3 : x ≠ wOrder) : (passL 2 x L).1 = false := by
 unfold ordK at h
 split at h
 ·
  exact pk_down_no h x hx hx2
 ·
  exact pk_no (show PK L ((2, wOrder) :: _) from h) (fun e => hx3 e.2.symm)
theorem pk_c5 (q : Qry) {cs tb wh od dn lm} {L : List Tk} (h : PK L [(0, [])]) : c5 cs tb wh od dn lm L = (some ⟨cs, tb, wh, od, dn, lm⟩, L) := by unfold c5; rw [if_pos (pk_end h).1]
theorem pk_c4 (q : Qry) (hq : MayP q) {cs tb wh od dn} {L : List Tk} (h : PK L (limK q ++ [(0, [])])) : ∃ L', c4 cs tb wh od dn L = (some ⟨cs, tb, wh, od, dn, q.lim⟩, L') := by
 unfold c4
 by_cases hl : 0 < q.lim
 ·
  have e : limK q = [(2, wLimit), (3, Lib.itoa q.lim)] := by unfold limK; rw [if_pos hl]
  rw [e] at h
  obtain ⟨L1, e1, h1⟩ := pk_yes (show PK L ((2, wLimit) :: (3, Lib.itoa q.lim) :: [(0, [])]) from h)
  obtain ⟨t, L2, rfl, a1, a2, h2⟩ := h1.cons
  obtain ⟨⟨c, u, hc, h48⟩, _, hlen, hat⟩ := itoa_facts q.lim hl hq.lim1
  have e2 : limitL (t :: L2) = (some q.lim, L2) := by
   unfold limitL
   have e3 : hdT (t :: L2) = t := rfl
   rw [e3, a2, if_pos ⟨a1, hlen, by rw [hc]; simpa using h48⟩, hat]
   rfl
  rw [e1, if_pos rfl]
  simp only [e2]
  exact ⟨_, pk_c5 q h2⟩
 ·
  have e : limK q = [] := by unfold limK; rw [if_neg hl]
  have e0 : q.lim = 0 := by have := hq.lim0; omega
  rw [e] at h
  rw [if_neg (by rw [(pk_end h).2 2 wLimit (by decide)]; decide), e0]
  exact ⟨_, pk_c5 q h⟩
theorem pk_c3 (q : Qry) (hq : MayP q) (hd : q.ord = [] → q.down = false) {cs tb wh} {L : List Tk} (h : PK L (ordK q ++ (downK q ++ (limK q ++ [(0, [])])))) : ∃ L', c3 cs tb wh L = (some ⟨cs, tb, wh, q.ord, q.down, q.lim⟩, L') := by
 unfold c3
 by_cases ho : q.ord = []
 ·
  have e : ordK q = [] := by unfold ordK; rw [if_pos ho]
  have e2 : downK q = [] := by unfold downK; rw [hd ho]; rfl
  rw [e, e2] at h
  have h' : PK L (limK q ++ [(0, [])]) := h
  rw [if_neg (by rw [pk_lim_no h' wOrder (by decide)]; decide), ho, hd ho]
  exact pk_c4 q hq h'
 ·
  have e : ordK q = [(2, wOrder), (2, wBy), (2, q.ord)] := by unfold ordK; rw [if_neg ho]
  rw [e] at h
  obtain ⟨L1, e1, h1⟩ := pk_yes (show PK L ((2, wOrder) :: (2, wBy) :: (2, q.ord) :: (downK q ++ (limK q ++ [(0, [])]))) from h)
  obtain ⟨L2, e2, h2⟩ := pk_yes h1
  obtain ⟨L3, e3, h3⟩ := pk_name h2 (ord_le hq)
  have hdn : ∃ L4, passL 2 wDown L3 = (q.down, L4) ∧ PK L4 (limK q ++ [(0, [])]) := by
   unfold downK at h3
   cases hq2 : q.down with
   | true =>
    rw [hq2] at h3
    exact pk_yes (show PK L3 ((2, wDown) :: _) from h3)
   | false =>
    rw [hq2] at h3
    have h3' : PK L3 (limK q ++ [(0, [])]) := h3
    have e4 := pk_lim_no h3' wDown (by decide)
    refine ⟨L3, ?_, h3'⟩
    unfold passL at e4 ⊢
    split at e4
    ·
     cases e4
    ·
     rename_i hh; rw [if_neg hh]
  obtain ⟨L4, e4, h4⟩ := hdn
  have e5 : orderL L1 = (some (q.ord, q.down), L4) := by
   unfold orderL
   rw [e2, if_pos rfl]
   simp only [e3, e4]
  rw [e1, if_pos rfl]
  simp only [e5]
  exact pk_c4 q hq h4
theorem pk_c2 (q : Qry) (hq : MayP q) (hd : q.ord = [] → q.down = false) {cs tb} {L : List Tk} (h : PK L (whK 0 q.wh ++ (ordK q ++ (downK q ++ (limK q ++ [(0, [])]))))) : ∃ L', c2 cs tb L = (some ⟨cs, tb, q.wh, q.ord, q.down, q.lim⟩, L') := by
 unfold c2
 have hw8 := hq.wh
 have hwB := hq.whB
 match hw : q.wh with
 | [] =>
  rw [hw] at h
  have h' : PK L (ordK q ++ (downK q ++ (limK q ++ [(0, [])]))) := h
  rw [if_neg (by rw [pk_ord_no h' wWhere (by decide) (by decide) (by decide)]; decide)]
  exact pk_c3 q hq hd h'
 | t :: l =>
  rw [hw] at h hw8 hwB
  have h' : PK L ((2, wWhere) :: (testK t ++ (whK 1 l ++ (ordK q ++ (downK q ++ (limK q ++ [(0, [])])))))) := by
   have : whK 0 (t :: l) = (2, wWhere) :: testK t ++ whK 1 l := by rw [whK, if_pos rfl]
   rw [this] at h
   simpa using h
  obtain ⟨L1, e1, h1⟩ := pk_yes h'
  obtain ⟨L2, e2, h2⟩ := pk_wh l t 1 8 [] L1 _ (by omega) (fun x hx => by obtain ⟨k1, k2, k3, _⟩ := hwB x hx; exact ⟨nm_len k1, k2, k3⟩) (by simp only [List.length_cons] at hw8; omega) (fun L' hL' => pk_ord_no hL' wAnd (by decide) (by decide) (by decide)) h1
  rw [e1, if_pos rfl]
  simp only [e2]
  exact pk_c3 q hq hd h2
theorem parse_text (q : Qry) (hq : MayP q) (hd : q.ord = [] → q.down = false) : ∃ L', parseL (toks (textQ q) 0) = (some q, L') := by
 have h := toks_text q hq
 unfold KQ at h
 obtain ⟨L1, e1, h1⟩ := pk_yes h
 obtain ⟨L2, e2, h2⟩ := pk_columns q.cols L1 _ (fun x hx => nm_len (hq.colsB x hx)) hq.cols h1
 obtain ⟨L3, e3, h3⟩ := pk_yes h2
 obtain ⟨L4, e4, h4⟩ := pk_name h3 (nm_len hq.tab)
 obtain ⟨L5, e5⟩ := pk_c2 q hq hd (cs := q.cols) (tb := q.tab) h4
 refine ⟨L5, ?_⟩
 unfold parseL
 rw [e1, if_pos rfl]
 simp only [e2]
 unfold c1
 rw [e3, if_pos rfl]
 simp only [e4]
 exact e5
theorem parse_print (q : Qry) (h : (printQ q).2 = 0) : parseQ (textQ q) = (q, 0, 0) ∧ printQ q = (textQ q, 0) ∧ (textQ q).length ≤ 1024 := by
 unfold printQ at h
 have hm : mayQ q = true := by
  cases hm : mayQ q with
  | true => rfl
  | false => rw [hm] at h; simp at h
 rw [hm, if_pos rfl] at h
 have hl : (textQ q).length ≤ 1024 := by
  by_cases hl : (textQ q).length ≤ 1024
  ·
   exact hl
  ·
   rw [if_neg hl] at h; simp at h
 have hp : printQ q = (textQ q, 0) := by unfold printQ; rw [hm, if_pos rfl, if_pos hl]
 have hd : q.ord = [] → q.down = false := by
  intro ho
  unfold mayQ at hm
  simp only [Bool.and_eq_true] at hm
  have := hm.1.1.2
  rw [if_pos ho] at this
  simpa using this
 obtain ⟨L', e⟩ := parse_text q (mayP hm) hd
 refine ⟨?_, hp, hl⟩
 unfold parseQ
 rw [if_pos hl, e]
 simp only
 rw [hp, if_pos rfl]
end Go.Proofs.YthhemephaabblaaGreatDoor.Hq
namespace Go.Proofs.YthhemephaabblaaGreatDoor.Hq
open Go.RowKit Go.Proofs.YthhemephaabblaaGreatDoorW.PrintWords Go.Proofs.YthhemephaabblaaGreatDoorW.PrintLast Go.Proofs.YthhemephaabblaaGreatDoorW.PrintMore Go.Proofs.YthhemephaabblaaGreatDoor Go.Proofs.YthhemephaabblaaGreatDoor.Q Go.Proofs.YthhemephaabblaaGreatDoor.R
set_option linter.unusedVariables false
set_option linter.unusedSimpArgs false
theorem num_calls (x : Int) (w : World) : Calls Tryz.prog 9 #[.int .i64 x] w fun e w' => e = .returned (.int .i64 x) ∧ Ext w w' :=
 (cairnlaw32_num.calls x x w rfl).mono (fun e w' h => ⟨h.1, h.2.below⟩)
theorem qprint_calls (q : Qry) (hq : okQ q) (A5 : Option Addr) (c5 : Nat) (A7 : Option Addr) (c7 : Nat) (w : World) (h5 : Kd.C Kd.string w A5 q.cols.length (q.cols.map strB)) (hc5 : q.cols.length ≤ c5) (h7 : Kd.C k37 w A7 q.wh.length (q.wh.map t37)) (hc7 : q.wh.length ≤ c7) (hG : Glob w) :
  Calls Tryz.prog 13 #[qval q (.slice A5 q.cols.length c5) (.slice A7 q.wh.length c7)] w fun e w' => e = .returned (.tuple #[.string (strB (printQ q).1), .int .i64 (printQ q).2]) ∧ Ext w w' := by
 have := query_Print.calls (q.cols.length + q.wh.length + 51) A5 c5 (q.cols.map strB) (strB q.tab) A7 c7 (q.wh.map t37) (strB q.ord) q.down q.lim (strB (printQ q).1) (printQ q).2 w (by rw [List.length_map]; exact h5) (by rw [List.length_map]; exact hc5) (by rw [List.length_map]; exact h7) (by rw [List.length_map]; exact hc7) hG (print_f q hq _ (by omega))
 rw [List.length_map, List.length_map] at this
 exact this
theorem dprint_calls (q : Qry) (hq : okQ q) (A5 : Option Addr) (c5 : Nat) (A7 : Option Addr) (c7 : Nat) (w : World) (h5 : Kd.C Kd.string w A5 q.cols.length (q.cols.map strB)) (hc5 : q.cols.length ≤ c5) (h7 : Kd.C k70 w A7 q.wh.length (q.wh.map t70)) (hc7 : q.wh.length ≤ c7) (hG : Glob w) :
  Calls Tryz.prog 14 #[qval q (.slice A5 q.cols.length c5) (.slice A7 q.wh.length c7)] w fun e w' => e = .returned (.tuple #[.string (strB (printQ q).1), .int .i64 (printQ q).2]) ∧ Ext w w' := by
 have := cairnref32_Print.calls (q.cols.length + q.wh.length + 51) A5 c5 (q.cols.map strB) (strB q.tab) A7 c7 (q.wh.map t70) (strB q.ord) q.down q.lim (strB (printQ q).1) (printQ q).2 w (by rw [List.length_map]; exact h5) (by rw [List.length_map]; exact hc5) (by rw [List.length_map]; exact h7) (by rw [List.length_map]; exact hc7) hG (rprint_f q hq _ (by omega))
 rw [List.length_map, List.length_map] at this
 exact this
def knQ : Qry := ⟨[[97]], [116], [⟨[98], 6, [120]⟩], [], false, 0⟩
def knT : List UInt8 := [115, 101, 108, 101, 99, 116, 32, 97, 32, 102, 114, 111, 109, 32, 116, 32, 119, 104, 101, 114, 101, 32, 98, 32, 62, 61, 32, 34, 120, 34]
theorem knT_eq : textQ knQ = knT := by decide +kernel
theorem kn_print : printQ knQ = (knT, 0) := by decide +kernel
theorem kn_parse : parseQ knT = (knQ, 0, 0) := by
 have := (parse_print knQ (by rw [kn_print])).1
 rwa [knT_eq] at this
theorem kn_ok : okQ knQ := ⟨by decide, by decide, by decide, by decide, by decide, by decide⟩
set_option maxRecDepth 100000 in
set_option maxHeartbeats 3200000 in
theorem known_calls (w : World) (hG : Glob w) : Calls Tryz.prog 11 #[] w fun e w' => e = .returned (.bool true) ∧ Ext w w' := by
 have hp := parse_calls knT w hG (by decide)
 rw [kn_parse] at hp
 have hp2 : Calls Tryz.prog 7 #[.string ⟨#[115, 101, 108, 101, 99, 116, 32, 97, 32, 102, 114, 111, 109, 32, 116, 32, 119, 104, 101, 114, 101, 32, 98, 32, 62, 61, 32, 34, 120, 34]⟩] w (fun e w' => ∃ A5 c5 A7 c7, e = .returned (.tuple #[.agg #[.slice A5 1 c5, .string (strB [116]), .slice A7 1 c7, .string (strB []), .bool false, .int .i64 0], .int .i64 0, .int .i64 0]) ∧ 1 ≤ c5 ∧ 1 ≤ c7 ∧ Kd.C Kd.string w' A5 1 [strB [97]] ∧ Kd.C k37 w' A7 1 [t37 ⟨[98], 6, [120]⟩] ∧ Ext w w') := by
  refine Calls.mono hp ?_
  rintro e w1 ⟨v5, v7, rfl, ⟨hS5, hT7⟩, hB1⟩
  obtain ⟨A5, c5, rfl, hc5, hC5⟩ := sr_C hS5 (by decide)
  obtain ⟨A7, c7, rfl, hc7, hC7⟩ := tr_C hT7 (by decide)
  exact ⟨A5, c5, A7, c7, rfl, hc5, hc7, hC5, hC7, hB1⟩
 clear hp
 go_enter Tryz.func11, Tryz.ntmps11
 go_upto_region 2 with (go_at_call 7; (with_reducible refine hp2.mono ?_); rintro e w1 ⟨A5, c5, A7, c7, rfl, hc5, hc7, hC5, hC7, hB1⟩; have HC := Aside0.mk (And.intro hC5 hC7); have HCC := Aside0.mk (And.intro hc5 hc7); have HB1 := Aside0.mk hB1; clear hB1 hC5 hC7 hc5 hc7)
 obtain ⟨w2, hw2⟩ : ∃ W, W = w1.alloc (.cells #[.slice A5 1 c5, .string (strB [116]), .slice A7 1 c7, .string (strB []), .bool false, .int .i64 0] 25) := ⟨_, rfl⟩
 have HE2 : Aside0 (Ext w1 w2) := ⟨by rw [hw2]; exact (Ext.refl w1).alloc _⟩
 have HZ2 : Aside0 (w2.heap[w1.heap.size]? = some (.cells #[.slice A5 1 c5, .string (strB [116]), .slice A7 1 c7, .string (strB []), .bool false, .int .i64 0] 25 (0, 0))) := ⟨by rw [hw2]; exact heap_alloc_new _ _⟩
 obtain ⟨pb, hpb⟩ : ∃ n, n = w1.heap.size := ⟨_, rfl⟩
 rw [← hpb] at HZ2
 rw [← hw2, ← hpb]
 clear hw2 hpb hp2
 obtain ⟨w3, hw3⟩ : ∃ W, W = (w2.alloc (.cells #[.string ⟨#[97]⟩] 9)).alloc (.cells #[.string ⟨#[98]⟩, .int .i64 6, .string ⟨#[120]⟩] 37) := ⟨_, rfl⟩
 have hE3 : Ext w2 w3 := by rw [hw3]; exact ((Ext.refl w2).alloc _).alloc _
 have k5 : Kd.C Kd.string w3 (some ⟨w2.heap.size, 0, none⟩) 1 [strB [97]] := by
  have h1 := Sr.ext (Sr.lit (B := w2.heap.size) (w := w2) (cs := #[.string ⟨#[97]⟩]) (xs := [[97]]) (Nat.le_refl _) rfl (by simp)) ((Ext.refl _).alloc (.cells #[.string ⟨#[98]⟩, .int .i64 6, .string ⟨#[120]⟩] 37))
  rw [← hw3] at h1
  obtain ⟨A, c, e, hc, hC⟩ := sr_C h1 (by decide)
  simp only [Value.slice.injEq] at e
  rw [e.1]
  exact hC
 have k7 : Kd.C k37 w3 (some ⟨w2.heap.size + 1, 0, none⟩) 1 [t37 ⟨[98], 6, [120]⟩] := by
  have h1 := World.ownsRow_lit (base := 0) (e := 37) (size := 3) (w2.alloc (.cells #[.string ⟨#[97]⟩] 9)) #[.string ⟨#[98]⟩, .int .i64 6, .string ⟨#[120]⟩] 1 (Nat.zero_le _) (by simp [maxLen]) rfl
  rw [← hw3] at h1
  have h2 : w3.ownsRow 0 37 3 (.slice (some ⟨w2.heap.size + 1, 0, none⟩) 1 1) 1 [.string ⟨#[98]⟩, .int .i64 6, .string ⟨#[120]⟩] := by simpa using h1
  obtain ⟨A, c, e, hc, hC⟩ := tr_C (show Tr 0 w3 (.slice (some ⟨w2.heap.size + 1, 0, none⟩) 1 1) [⟨[98], 6, [120]⟩] from h2) (by decide)
  simp only [Value.slice.injEq] at e
  rw [e.1]
  exact hC
 have hpr : Calls Tryz.prog 13 #[.agg #[.slice (some ⟨w2.heap.size, 0, none⟩) 1 1, .string ⟨#[116]⟩, .slice (some ⟨w2.heap.size + 1, 0, none⟩) 1 1, .string ⟨#[]⟩, .bool false, .int .i64 0]] w3 fun e w' => e = .returned (.tuple #[.string ⟨#[115, 101, 108, 101, 99, 116, 32, 97, 32, 102, 114, 111, 109, 32, 116, 32, 119, 104, 101, 114, 101, 32, 98, 32, 62, 61, 32, 34, 120, 34]⟩, .int .i64 0]) ∧ Ext w3 w' := by
  have h1 := qprint_calls knQ kn_ok (some ⟨w2.heap.size, 0, none⟩) 1 (some ⟨w2.heap.size + 1, 0, none⟩) 1 w3 k5 (by decide) k7 (by decide) (Glob.of_below hG ((HB1.out.trans HE2.out).trans hE3))
  rw [kn_print] at h1
  exact h1
 rw [hw3] at hpr
 have HE3 := Aside0.mk hE3
 clear k5 k7 hE3
 go_upto_region 3 with (go_at_call 13; (with_reducible refine hpr.mono ?_); rintro e w4 ⟨rfl, hE4⟩; rw [← hw3] at hE4; have HE4 := Aside0.mk hE4; clear hE4)
 have HZP : Aside0 (w4.heap[pb]? = some (.cells #[.slice A5 1 c5, .string (strB [116]), .slice A7 1 c7, .string (strB []), .bool false, .int .i64 0] 25 (0, 0))) := ⟨heap_below HZ2.out (HE3.out.trans HE4.out)⟩
 have HSM : Aside0 (∀ W, Ext w4 W → Calls Tryz.prog 10 #[.agg #[.slice A5 1 c5, .string (strB [116]), .slice A7 1 c7, .string (strB []), .bool false, .int .i64 0], .agg #[.slice (some ⟨W.heap.size, 0, none⟩) 1 1, .string ⟨#[116]⟩, .slice (some ⟨W.heap.size + 1, 0, none⟩) 1 1, .string ⟨#[]⟩, .bool false, .int .i64 0]] ((W.alloc (.cells #[.string ⟨#[97]⟩] 9)).alloc (.cells #[.string ⟨#[98]⟩, .int .i64 6, .string ⟨#[120]⟩] 70)) fun e w' => e = .returned (.bool true) ∧ Ext W w') := ⟨fun W hW => by
  have hX : Ext w1 W := HE2.out.trans (HE3.out.trans (HE4.out.trans hW))
  obtain ⟨W2, hW2⟩ : ∃ V, V = (W.alloc (.cells #[.string ⟨#[97]⟩] 9)).alloc (.cells #[.string ⟨#[98]⟩, .int .i64 6, .string ⟨#[120]⟩] 70) := ⟨_, rfl⟩
  have hY : Ext W W2 := by rw [hW2]; exact ((Ext.refl W).alloc _).alloc _
  have hb : W2.heap[W.heap.size]? = some (.cells #[.string ⟨#[97]⟩] 9 (0, 0)) := by rw [hW2]; exact (Array.getElem?_push_lt (by simp)).trans (by simpa using heap_alloc_new W _)
  have hb2 : W2.heap[W.heap.size + 1]? = some (.cells #[.string ⟨#[98]⟩, .int .i64 6, .string ⟨#[120]⟩] 70 (0, 0)) := by rw [hW2]; have := heap_alloc_new (W.alloc (.cells #[.string ⟨#[97]⟩] 9)) (.cells #[.string ⟨#[98]⟩, .int .i64 6, .string ⟨#[120]⟩] 70); simpa using this
  rw [← hW2]
  have h1 : Sr 0 W2 (.slice (some ⟨W.heap.size, 0, none⟩) 1 1) [[97]] := ⟨rfl, .inr ⟨W.heap.size, 1, _, rfl, Nat.zero_le _, hb, Nat.le_refl _, by decide, rfl, rfl⟩⟩
  have h2 : Te 0 W2 (.slice (some ⟨W.heap.size + 1, 0, none⟩) 1 1) [⟨[98], 6, [120]⟩] := ⟨rfl, .inr ⟨W.heap.size + 1, 1, _, rfl, Nat.zero_le _, hb2, Nat.le_refl _, by decide, rfl, rfl⟩⟩
  obtain ⟨A, c, e, hc, hC⟩ := sr_C h1 (by decide)
  obtain ⟨A2, c2, e2, hc2, hC2⟩ := te_C h2 (by decide)
  simp only [Value.slice.injEq] at e e2
  have h3 := same_calls knQ A5 c5 A7 c7 A 1 A2 1 W2 (Kd.C_below HC.out.1 (hX.trans hY)) HCC.out.1 (Kd.C_below HC.out.2 (hX.trans hY)) HCC.out.2 hC (by decide) hC2 (by decide) (by decide) (by decide)
  rw [← e.1, ← e2.1] at h3
  exact Calls.mono h3 (fun e w' h => ⟨h.1, hY.trans h.2⟩)⟩
 have HF : Aside0 (Ext w w4) := ⟨HB1.out.trans (HE2.out.trans (HE3.out.trans HE4.out))⟩
 clear hw3 hpr HE3 HE4 HE2 HZ2
 have zp := HZP.out
 have z0 := blk_cell zp 0
 have z1 := blk_cell zp 1
 have z2 := blk_cell zp 2
 have z3 := blk_cell zp 3
 have z4 := blk_cell zp 4
 have z5 := blk_cell zp 5
 clear zp
 have HX := Aside0.mk (Ext.refl w4)
 go_wp2_with (first
  | (go_at_call 9; (with_reducible refine (num_calls 0 _).mono ?_); rintro e w5 ⟨rfl, hE5⟩; have HX := Aside0.mk (HX.out.trans hE5); have z0 := cell_ext hE5 z0; have z1 := cell_ext hE5 z1; have z2 := cell_ext hE5 z2; have z3 := cell_ext hE5 z3; have z4 := cell_ext hE5 z4; have z5 := cell_ext hE5 z5; clear hE5)
  | (go_at_call 10; (with_reducible refine (HSM.out _ HX.out).mono ?_); rintro e w5 ⟨rfl, hE5⟩; have HX := Aside0.mk (HX.out.trans hE5); clear hE5))
 go_ret
 exact ⟨rfl, HF.out.trans HX.out⟩
end Go.Proofs.YthhemephaabblaaGreatDoor.Hq
namespace Go.Proofs.YthhemephaabblaaGreatDoor.R
open Go.RowKit Go.Proofs.YthhemephaabblaaGreatDoor.Q Go.Proofs.YthhemephaabblaaGreatDoor.Hq  Go.Proofs.YthhemephaabblaaGreatDoorW.PrintWords Go.Proofs.YthhemephaabblaaGreatDoorW.PrintLast Go.Proofs.YthhemephaabblaaGreatDoorW.PrintMore
attribute [local go_sem] max2_int min2_int max_two min_two max_three min_three max_four min_four
set_option linter.unusedVariables false
set_option linter.unusedSimpArgs false
end Go.Proofs.YthhemephaabblaaGreatDoor.R
namespace Go.Proofs.YthhemephaabblaaGreatDoor.R
open Go.RowKit Go.Proofs.YthhemephaabblaaGreatDoor.Q Go.Proofs.YthhemephaabblaaGreatDoor.Hq  Go.Proofs.YthhemephaabblaaGreatDoorW.PrintWords Go.Proofs.YthhemephaabblaaGreatDoorW.PrintLast Go.Proofs.YthhemephaabblaaGreatDoorW.PrintMore
attribute [local go_sem] max2_int min2_int max_two min_two max_three min_three max_four min_four
set_option linter.unusedVariables false
set_option linter.unusedSimpArgs false
end Go.Proofs.YthhemephaabblaaGreatDoor.R
namespace Go.Proofs.YthhemephaabblaaGreatDoor.Hq
open Go.RowKit Go.Proofs.YthhemephaabblaaGreatDoorW.PrintWords Go.Proofs.YthhemephaabblaaGreatDoorW.PrintLast Go.Proofs.YthhemephaabblaaGreatDoorW.PrintMore Go.Proofs.YthhemephaabblaaGreatDoor Go.Proofs.YthhemephaabblaaGreatDoor.Q Go.Proofs.YthhemephaabblaaGreatDoor.R
set_option linter.unusedVariables false
set_option linter.unusedSimpArgs false
theorem rdOf_get (l : List ByteArray) (i : Nat) (h : i < l.length) : rdOf ByteArray.empty l (i : Int) = l[i] := by
 unfold rdOf
 rw [Int.toNat_natCast, List.getD_eq_getElem?_getD, List.getElem?_eq_getElem h]
 rfl
theorem rd_get (l : List Int) (i : Nat) (h : i < l.length) : rd l (i : Int) = l[i] := by
 unfold rd
 rw [Int.toNat_natCast, List.getD_eq_getElem?_getD, List.getElem?_eq_getElem h]
 rfl
theorem rdL6_get (l : List (List Int)) (i : Nat) (h : i < l.length) : rd_L6 l (i : Int) = l[i] := by
 unfold rd_L6
 rw [Int.toNat_natCast, List.getD_eq_getElem?_getD, List.getElem?_eq_getElem h]
 rfl
def plcL : List ByteArray → List UInt8 → Nat → Int
 | [], _, _ => -1
 | x :: l, a, i => if x.toList = a then (i : Int) else plcL l a (i + 1)
theorem ix_l0 (cols : List ByteArray) (a : ByteArray) (hl : cols.length ≤ 1000000000000) : ∀ (n k i : Nat), cols.length - i = n → n < k → i ≤ cols.length → slices_Index_string_string.l0 k cols a (cols.length : Int) (i : Int) = some (plcL (cols.drop i) a.toList i)
 | n, 0, i, _, hk, _ => by omega
 | n, k + 1, i, hn, hk, hi => by
  rw [slices_Index_string_string.l0]
  by_cases hlt : i < cols.length
  ·
   rw [if_pos (by omega), if_pos (by omega), if_pos (by omega), rdOf_get _ _ hlt, w64n i (by omega), ix_l0 cols a hl (n - 1) k (i + 1) (by omega) (by omega) (by omega), List.drop_eq_getElem_cons hlt, plcL]
   by_cases h : cols[i].toList = a.toList
   ·
    rw [if_pos h, if_pos h.symm]
   ·
    rw [if_neg h, if_neg (fun e => h e.symm)]
  ·
   obtain rfl : i = cols.length := by omega
   rw [if_neg (by omega), List.drop_length, plcL]
theorem place_f (cols : List ByteArray) (a : ByteArray) (hl : cols.length ≤ 1000000000000) (k : Nat) (hk : cols.length < k) (s : ByteArray) (n : Int) (x : List (List Int)) : query_place.f k s cols n x a = some (plcL cols a.toList 0) := by
 unfold query_place.f slices_Index_string_string.f
 have := ix_l0 cols a hl _ k 0 rfl (by omega) (by omega)
 rw [show ((0 : Nat) : Int) = 0 from rfl, List.drop_zero] at this
 rw [this]
 rfl
theorem rplace_l0 (cols : List ByteArray) (a : ByteArray) (hl : cols.length ≤ 1000000000000) : ∀ (n k i : Nat), cols.length - i = n → n < k → i ≤ cols.length → cairnref32_place.l0 k cols a (i : Int) = some (plcL (cols.drop i) a.toList i)
 | n, 0, i, _, hk, _ => by omega
 | n, k + 1, i, hn, hk, hi => by
  rw [cairnref32_place.l0]
  by_cases hlt : i < cols.length
  ·
   rw [if_pos (by omega), if_pos (by omega), rdOf_get _ _ hlt, w64n i (by omega), rplace_l0 cols a hl (n - 1) k (i + 1) (by omega) (by omega) (by omega), List.drop_eq_getElem_cons hlt, plcL]
   by_cases h : cols[i].toList = a.toList
   ·
    rw [if_pos h, if_pos h]
   ·
    rw [if_neg h, if_neg h]
  ·
   obtain rfl : i = cols.length := by omega
   rw [if_neg (by omega), List.drop_length, plcL]
theorem rplace_f (cols : List ByteArray) (a : ByteArray) (hl : cols.length ≤ 1000000000000) (k : Nat) (hk : cols.length < k) : cairnref32_place.f k cols a = some (plcL cols a.toList 0) := by
 unfold cairnref32_place.f
 have := rplace_l0 cols a hl _ k 0 rfl (by omega) (by omega)
 rw [show ((0 : Nat) : Int) = 0 from rfl, List.drop_zero] at this
 exact this
theorem key_l0 (s : ByteArray) (cols : List ByteArray) (ks : Int) (x : List (List Int)) (hl : cols.length ≤ 1000000000000) : ∀ (n k i : Nat) (acc : List Int), cols.length - i = n → n < k → i ≤ cols.length → acc.length ≤ i →
  ∃ r, query_key.l0 k acc (i : Int) s cols ks x = some r ∧ cairnref32_Keys.l0 k acc (i : Int) s cols ks x = some r ∧ r.length ≤ cols.length
 | n, 0, i, _, _, hk, _, _ => by omega
 | n, k + 1, i, acc, hn, hk, hi, ha => by
  rw [query_key.l0, cairnref32_Keys.l0]
  have hmn : (i : Int) < mn ks (cols.length : Int) ↔ (i : Int) < ks ∧ (i : Int) < (cols.length : Int) := by
   unfold mn
   split <;> omega
  by_cases h : (i : Int) < ks ∧ (i : Int) < (cols.length : Int)
  ·
   rw [if_pos (hmn.2 h), if_pos h.1, if_pos h.2, if_pos (by omega), w64n i (by omega)]
   rw [if_pos (by omega)]
   exact key_l0 s cols ks x hl (n - 1) k (i + 1) (acc ++ [(i : Int)]) (by omega) (by omega) (by omega) (by rw [List.length_append]; simp; omega)
  ·
   rw [if_neg (fun e => h (hmn.1 e))]
   refine ⟨acc, rfl, ?_, by omega⟩
   by_cases h1 : (i : Int) < ks
   ·
    rw [if_pos h1, if_neg (fun e => h ⟨h1, e⟩)]
   ·
    rw [if_neg h1]
def askL : List Tst → List UInt8 → Option (List UInt8)
 | [], _ => none
 | t :: l, a => if t.op = 1 ∧ t.col = a then some t.val else askL l a
def askV : Option (List UInt8) → ByteArray × Bool
 | some v => (strB v, true)
 | none => (⟨#[]⟩, false)
theorem asked_l0 (wh : List Tst) (a : ByteArray) (hl : wh.length ≤ 1000000000000) : ∀ (n k i : Nat), wh.length - i = n → n < k → i ≤ wh.length → query_Query_asked.l0 k a (wh.map t37) (wh.length : Int) (i : Int) = some (askV (askL (wh.drop i) a.toList))
 | n, 0, i, _, hk, _ => by omega
 | n, k + 1, i, hn, hk, hi => by
  rw [query_Query_asked.l0, List.length_map]
  by_cases hlt : i < wh.length
  ·
   rw [if_pos (by omega), if_pos (by omega), if_pos (by omega), rd37 _ _ hlt, w64n i (by omega), asked_l0 wh a hl (n - 1) k (i + 1) (by omega) (by omega) (by omega), List.drop_eq_getElem_cons hlt, askL]
   simp only [t37, toList_strB]
   by_cases h1 : wh[i].op = 1
   ·
    by_cases h2 : wh[i].col = a.toList
    ·
     rw [if_pos h1, if_pos h2, if_pos ⟨h1, h2⟩]; rfl
    ·
     rw [if_pos h1, if_neg h2, if_neg (fun e => h2 e.2)]
   ·
    rw [if_neg h1, if_neg (fun e => h1 e.1)]
  ·
   obtain rfl : i = wh.length := by omega
   rw [if_neg (by omega), List.drop_length, askL]; rfl
theorem asked_f (q : Qry) (a : ByteArray) (hl : q.wh.length ≤ 1000000000000) (k : Nat) (hk : q.wh.length < k) (x1 : List ByteArray) (x2 x3 : ByteArray) (x4 : Bool) (x5 : Int) : query_Query_asked.f k x1 x2 (q.wh.map t37) x3 x4 x5 a = some (askV (askL q.wh a.toList)) := by
 unfold query_Query_asked.f
 have := asked_l0 q.wh a hl _ k 0 rfl (by omega) (by omega)
 rw [show ((0 : Nat) : Int) = 0 from rfl, List.drop_zero] at this
 rw [List.length_map]
 exact this
theorem rasked_l0 (wh : List Tst) (a : ByteArray) (hl : wh.length ≤ 1000000000000) (x1 : List ByteArray) (x2 x3 : ByteArray) (x4 : Bool) (x5 : Int) : ∀ (n k i : Nat), wh.length - i = n → n < k → i ≤ wh.length → cairnref32_Asked.l0 k a (i : Int) x1 x2 (wh.map t70) x3 x4 x5 = some (askV (askL (wh.drop i) a.toList))
 | n, 0, i, _, hk, _ => by omega
 | n, k + 1, i, hn, hk, hi => by
  rw [cairnref32_Asked.l0, List.length_map]
  by_cases hlt : i < wh.length
  ·
   rw [if_pos (by omega), if_pos (by omega), rd70 _ _ hlt, w64n i (by omega), rasked_l0 wh a hl x1 x2 x3 x4 x5 (n - 1) k (i + 1) (by omega) (by omega) (by omega), List.drop_eq_getElem_cons hlt, askL]
   simp only [t70, toList_strB]
   by_cases h1 : wh[i].op = 1
   ·
    by_cases h2 : wh[i].col = a.toList
    ·
     rw [if_pos h1, if_pos h2, if_pos ⟨h1, h2⟩]; rfl
    ·
     rw [if_pos h1, if_neg h2, if_neg (fun e => h2 e.2)]
   ·
    rw [if_neg h1, if_neg (fun e => h1 e.1)]
  ·
   obtain rfl : i = wh.length := by omega
   rw [if_neg (by omega), List.drop_length, askL]; rfl
def valsL (cols : List ByteArray) (wh : List Tst) : List Int → List ByteArray
 | [] => []
 | c :: l => if 0 ≤ c ∧ c < (cols.length : Int) then (match askL wh (rdOf ByteArray.empty cols c).toList with
  | some v => strB v :: valsL cols wh l
  | none => []) else []
theorem values_l0 (q : Qry) (s : ByteArray) (cols : List ByteArray) (ks : Int) (x : List (List Int)) (l : List Int) (hw : q.wh.length ≤ 1000000000000) (hl : l.length ≤ 1000000000000) : ∀ (n k i : Nat) (acc : List ByteArray), l.length - i = n → 2 * n + q.wh.length + 5 < k → i ≤ l.length → acc.length ≤ i →
  query_Query_values.l0 k acc l (l.length : Int) (i : Int) (q.cols.map strB) (strB q.tab) (q.wh.map t37) (strB q.ord) q.down q.lim s cols ks x = some (acc ++ valsL cols q.wh (l.drop i))
 | n, 0, i, _, _, hk, _, _ => by omega
 | n, 1, i, _, _, hk, _, _ => by omega
 | n, k + 2, i, acc, hn, hk, hi, ha => by
  rw [query_Query_values.l0]
  by_cases hlt : i < l.length
  ·
   rw [if_pos (by omega), if_pos (by omega), if_pos (by omega), rd_get _ _ hlt, List.drop_eq_getElem_cons hlt, valsL]
   by_cases h0 : l[i] < 0
   ·
    rw [if_pos h0, if_neg (by omega), query_Query_values.j1, if_pos rfl, List.append_nil]
   ·
    rw [if_neg h0, query_Query_values.j1]
    by_cases h1 : l[i] ≥ (cols.length : Int)
    ·
     rw [if_pos (by simpa using h1), if_neg (by omega), List.append_nil]
    ·
     rw [if_neg (by simpa using h1), if_pos (by omega), if_pos (by omega), if_pos (by omega), asked_f q _ hw _ (by omega)]
     simp only [Option.bind_some]
     cases he : askL q.wh (rdOf ByteArray.empty cols l[i]).toList with
     | none => simp [askV]
     | some v =>
      simp only [askV, if_true]
      rw [if_pos (by omega), w64n i (by omega), values_l0 q s cols ks x l hw hl (n - 1) k (i + 1) (acc ++ [strB v]) (by omega) (by omega) (by omega) (by rw [List.length_append]; simp; omega), List.append_assoc]
      rfl
  ·
   obtain rfl : i = l.length := by omega
   rw [if_neg (by omega), List.drop_length, valsL, List.append_nil]
theorem values_f (q : Qry) (s : ByteArray) (cols : List ByteArray) (ks : Int) (x : List (List Int)) (l : List Int) (hw : q.wh.length ≤ 1000000000000) (hl : l.length ≤ 1000000000000) (k : Nat) (hk : 2 * l.length + q.wh.length + 5 < k) :
  query_Query_values.f k (q.cols.map strB) (strB q.tab) (q.wh.map t37) (strB q.ord) q.down q.lim s cols ks x l = some (valsL cols q.wh l) := by
 unfold query_Query_values.f
 have := values_l0 q s cols ks x l hw hl _ k 0 [] rfl (by omega) (by omega) (by simp)
 rw [show ((0 : Nat) : Int) = 0 from rfl, List.drop_zero, List.nil_append] at this
 exact this
def bestL (cols : List ByteArray) (wh : List Tst) : List (List Int) → Nat → Int → List ByteArray → Int × List ByteArray
 | [], _, b, vs => (b, vs)
 | x :: l, i, b, vs => if (valsL cols wh x).length > vs.length then bestL cols wh l (i + 1) (i : Int) (valsL cols wh x) else bestL cols wh l (i + 1) b vs
def knwC (cols : List ByteArray) (l : List (List UInt8)) : Bool := l.all fun c => decide (0 ≤ plcL cols c 0)
def knwT (cols : List ByteArray) (l : List Tst) : Bool := l.all fun t => decide (0 ≤ plcL cols t.col 0)
def knwO (cols : List ByteArray) (o : List UInt8) : Bool := if o = [] then true else decide (0 ≤ plcL cols o 0)
theorem knwC_cons (cols : List ByteArray) (c : List UInt8) (l : List (List UInt8)) : knwC cols (c :: l) = (decide (0 ≤ plcL cols c 0) && knwC cols l) := rfl
theorem knwT_cons (cols : List ByteArray) (t : Tst) (l : List Tst) : knwT cols (t :: l) = (decide (0 ≤ plcL cols t.col 0) && knwT cols l) := rfl
theorem rknown_l1 (q : Qry) (cols : List ByteArray) (M : Nat) (hM : M ≤ 1000000000000) (hw : q.wh.length ≤ M) (hc : cols.length ≤ M) (x1 : List ByteArray) (x2 : ByteArray) (x4 : Bool) (x5 : Int) : ∀ (n k i : Nat), q.wh.length - i = n → n + M + 5 < k → i ≤ q.wh.length →
  cairnref32_known.l1 k cols (i : Int) x1 x2 (q.wh.map t70) (strB q.ord) x4 x5 = some (knwT cols (q.wh.drop i) && knwO cols q.ord)
 | n, 0, i, _, hk, _ => by omega
 | n, k + 1, i, hn, hk, hi => by
  rw [cairnref32_known.l1, List.length_map]
  by_cases hlt : i < q.wh.length
  ·
   rw [if_pos (by omega), if_pos (by omega), rd70 _ _ hlt, rplace_f _ _ (by omega) _ (by omega), w64n i (by omega), rknown_l1 q cols M hM hw hc x1 x2 x4 x5 (n - 1) k (i + 1) (by omega) (by omega) (by omega), List.drop_eq_getElem_cons hlt]
   simp only [Option.bind_some, t70, toList_strB, knwT, List.all_cons]
   by_cases h : plcL cols q.wh[i].col 0 < 0
   ·
    rw [if_pos h, decide_eq_false (by omega)]; rfl
   ·
    rw [if_neg h, decide_eq_true (by omega)]; rfl
  ·
   obtain rfl : i = q.wh.length := by omega
   rw [if_neg (by omega), List.drop_length, toList_strB]
   unfold knwO
   by_cases ho : q.ord = []
   ·
    rw [if_pos ho, if_pos ho]; rfl
   ·
    rw [if_neg ho, if_neg ho, rplace_f _ _ (by omega) _ (by omega), toList_strB]; rfl
theorem rknown_l0 (q : Qry) (cols : List ByteArray) (M : Nat) (hM : M ≤ 1000000000000) (hq : q.cols.length ≤ M) (hw : q.wh.length ≤ M) (hc : cols.length ≤ M) (x2 : ByteArray) (x4 : Bool) (x5 : Int) : ∀ (n k i : Nat), q.cols.length - i = n → n + 2 * M + 10 < k → i ≤ q.cols.length →
  cairnref32_known.l0 k cols (i : Int) (q.cols.map strB) x2 (q.wh.map t70) (strB q.ord) x4 x5 = some (knwC cols (q.cols.drop i) && knwT cols q.wh && knwO cols q.ord)
 | n, 0, i, _, hk, _ => by omega
 | n, k + 1, i, hn, hk, hi => by
  rw [cairnref32_known.l0, List.length_map]
  by_cases hlt : i < q.cols.length
  ·
   rw [if_pos (by omega), if_pos (by omega), rdOf_map _ _ hlt, rplace_f _ _ (by omega) _ (by omega), w64n i (by omega), rknown_l0 q cols M hM hq hw hc x2 x4 x5 (n - 1) k (i + 1) (by omega) (by omega) (by omega), List.drop_eq_getElem_cons hlt]
   simp only [Option.bind_some, toList_strB, knwC, List.all_cons]
   by_cases h : plcL cols q.cols[i] 0 < 0
   ·
    rw [if_pos h, decide_eq_false (by omega)]; rfl
   ·
    rw [if_neg h, decide_eq_true (by omega)]; rfl
  ·
   obtain rfl : i = q.cols.length := by omega
   have := rknown_l1 q cols M hM hw hc (q.cols.map strB) x2 x4 x5 _ k 0 rfl (by omega) (by omega)
   rw [show ((0 : Nat) : Int) = 0 from rfl, List.drop_zero] at this
   rw [if_neg (by omega), List.drop_length, this]
   rfl
end Go.Proofs.YthhemephaabblaaGreatDoor.Hq
