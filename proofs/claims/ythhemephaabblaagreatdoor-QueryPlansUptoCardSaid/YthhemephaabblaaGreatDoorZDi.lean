
import Derived.Test.YthhemephaabblaaGreatDoorZDh
import Derived.Deep.DeepCutAuto
import Derived.Deep.CutRange
import Derived.Outline
import Derived.Test.YthhemephaabblaaGreatDoorProg
import Derived.Below
import Derived.Deep.Draws
import Derived.Deep.AppendLies
import Derived.Maps.AppendAt
import Derived.OwnWalk
import Derived.Laws.BytesArg
import Derived.Laws.MakeOwn
import Derived.Laws.OwnMore
import Derived.Deep.OwnRows
import Derived.Tactics
import Derived.Lib.ConvBytes
import Derived.Laws.Slices
import Derived.WalkKit
import Derived.KernelRfl
import Derived.RowKit3
import Derived.Deep.LoopGhost
import Derived.Deep.QuietTactic
import Derived.BigQuiet
import Derived.WideLaws
import Derived.Deep.CutBlock
import Derived.Deep.RegionHeld3
import Derived.Laws.Rows
import Derived.Lib.AppendStr
import Derived.ArgAppend
import Derived.Laws.IdiomCopy
import Derived.OrdersHeld
import Derived.Laws.BitsLemmas
import Derived.RowKit
import Derived.Test.YthhemephaabblaaGreatDoorZDf
import Derived.Test.YthhemephaabblaaGreatDoorZDa
import Derived.Test.YthhemephaabblaaGreatDoorZDb
namespace Go.Proofs.YthhemephaabblaaGreatDoor.Hq
open Go.RowKit Go.Proofs.YthhemephaabblaaGreatDoorW.PrintWords Go.Proofs.YthhemephaabblaaGreatDoorW.PrintLast Go.Proofs.YthhemephaabblaaGreatDoorW.PrintMore Go.Proofs.YthhemephaabblaaGreatDoor Go.Proofs.YthhemephaabblaaGreatDoor.Q
set_option linter.unusedVariables false
set_option linter.unusedSimpArgs false
def quoT (v : List UInt8) : List UInt8 := [34] ++ esc v ++ [34]
def wsp (i : Nat) : List UInt8 := if i = 0 then [32, 119, 104, 101, 114, 101, 32] else [32, 97, 110, 100, 32]
def curT (q : Qry) (i : Nat) : List UInt8 := headT q ++ jt (whW 0 (q.wh.take i))
theorem curT_le {q : Qry} (h : MayP q) (i : Nat) : (curT q i).length ≤ 300000 := by
 have h1 := headT_le h
 have h2 := jtw_le h i
 unfold curT
 rw [List.length_append]
 omega
def ordTx (q : Qry) : List UInt8 := curT q q.wh.length ++ jt (ordW q)
def downTx (q : Qry) : List UInt8 := ordTx q ++ jt (downW q)
theorem textQ_tx (q : Qry) : textQ q = downTx q ++ jt (limW q) := by
 rw [textQ_jt]
 unfold downTx ordTx curT
 rw [List.take_length]
theorem ordW_le {q : Qry} (h : MayP q) : (jt (ordW q)).length ≤ 100 := by
 have := ord_le h
 unfold ordW
 split
 ·
  simp [jt_nil]
 ·
  simp [jt_cons, jt_nil]
  omega
def Str (A0 : Option Addr) (c0 : Nat) (A2 : Option Addr) (c2 : Nat) (q : Qry) (w wr : World) : Prop := QBr wr w.heap.size A0 c0 A2 c2 q ∧ Below w.heap.size w wr
theorem Str.ext {A0 : Option Addr} {c0 : Nat} {A2 : Option Addr} {c2 : Nat} {q : Qry} {w wr w1 : World} (h : Str A0 c0 A2 c2 q w wr) (hE : Ext wr w1) : Str A0 c0 A2 c2 q w w1 := ⟨heap_below h.1 hE, below_step h.2 hE⟩
set_option maxRecDepth 100000 in
set_option maxHeartbeats 3200000 in
theorem rprint_true (k : Nat) (A0 : Option Addr) (c0 : Nat) (A2 : Option Addr) (c2 : Nat) (q : Qry) (w : World) (hr0 : Kd.C Kd.string w A0 q.cols.length (q.cols.map strB)) (hc0 : q.cols.length ≤ c0) (hr2 : Kd.C k70 w A2 q.wh.length (q.wh.map t70)) (hc2 : q.wh.length ≤ c2) (hG : Glob w)
  (hm : okQ q ∧ mayQ q = true) (hp : MayP q) (l : List UInt8) (r : Int) (hR : (if (textQ q).length ≤ 1024 then (textQ q, (0 : Int)) else ([], 320)) = (l, r)) :
  Calls Tryz.prog 14 #[.agg #[.slice A0 q.cols.length c0, .string (strB q.tab), .slice A2 q.wh.length c2, .string (strB q.ord), .bool q.down, .int .i64 q.lim]] w fun e w' => e = .returned (.tuple #[.string (strB l), .int .i64 r]) ∧ Below w.heap.size w w' := by
 have hcl := hp.cols
 have hwl := hp.wh
 have hcall : ∀ W (h : Kd.C Kd.string W A0 q.cols.length (q.cols.map strB)) (h' : Kd.C k70 W A2 q.wh.length (q.wh.map t70)), Calls Tryz.prog 32 #[.agg #[.slice A0 q.cols.length c0, .string (strB q.tab), .slice A2 q.wh.length c2, .string (strB q.ord), .bool q.down, .int .i64 q.lim]] W fun e w' => e = .returned (.bool true) ∧ Ext W w' := by
  intro W h h'
  have := rmay_calls q hm.1 A0 c0 A2 c2 W h hc0 h' hc2
  rw [hm.2] at this
  exact this
 have HC0 := Aside0.mk hr0
 have HC2 := Aside0.mk hr2
 have HR := Aside0.mk hR
 have HM := Aside0.mk hm
 have HP := Aside0.mk hp
 clear hr0 hr2 hm hp hR
 go_enter Tryz.func14, Tryz.ntmps14
 go_wp2_with (go_at_call 32; (with_reducible refine (hcall _ ?h0 ?h2).mono ?_); (case h0 => exact Kd.C_below HC0.out ((Below.refl _ _).alloc (Nat.le_refl _) _)); (case h2 => exact Kd.C_below HC2.out ((Below.refl _ _).alloc (Nat.le_refl _) _)); rintro e w1 ⟨rfl, hb1⟩; have HS1 : Aside0 (Str A0 c0 A2 c2 q w w1) := ⟨⟨heap_below (heap_alloc_new _ _) hb1, below_step ((Below.refl _ _).alloc (Nat.le_refl _) _) hb1⟩⟩; clear hb1)
 go_loopw [5, 6] (fun s5 s6 wr => ∃ i : Nat, i ≤ q.cols.length ∧ s6 = .int .i64 i ∧ s5 = .string (strB (selT q i)) ∧ Str A0 c0 A2 c2 q w wr) (fun _ v _ => q.cols.length - (intOf v).toNat)
 case atStart => exact ⟨0, by omega, rfl, rfl, HS1.out⟩
 case round =>
 obtain ⟨i, hi, rfl, rfl, hS⟩ := hrel
 have k0 := blk_cell hS.1 0
 have k1 := blk_cell hS.1 1
 have k2 := blk_cell hS.1 2
 have HS := Aside0.mk hS
 clear hS HS1
 by_cases hlt : i < q.cols.length
 ·
  have hb : (i : Int) < q.cols.length := by omega
  obtain ⟨ad, hA, hcell⟩ := Kd.at_string HC0.out (i : Int) (by omega) hb
  rw [rdOf_map _ _ hlt, Int.toNat_natCast] at hcell
  replace hcell := (HS.out.2.cell (World.block_lt_of_cell? w _ hcell)).trans hcell
  obtain ⟨x, hx⟩ : ∃ x, x = q.cols[i] := ⟨_, rfl⟩
  rw [← hx] at hcell
  have hxl : x.length ≤ 16 := nm_len (HP.out.colsB x (by rw [hx]; exact List.getElem_mem hlt))
  have hsl := selT_le HP.out i
  have HX := Aside0.mk hx
  clear hx
  subst hA
  by_cases hi0 : i = 0
  ·
   subst hi0
   have e0 : ad.add 0 = ad := by unfold Addr.add; simp
   rw [e0] at hcell
   have hn : ¬ (9223372036854775807 < 7 + (strB x).size) := by rw [strB_size]; omega
   have hz : (⟨#[115, 101, 108, 101, 99, 116, 32]⟩ : ByteArray) ++ strB x = strB (cat [115, 101, 108, 101, 99, 116, 32] x) := append_strB _ _
   have hd : (((0 : Nat) : Int) == 0) = true := rfl
   go_wp2_with fail
   go_roundw
   case rel => exact ⟨1, by omega, rfl, by rw [selT_one q hlt, ← HX.out]; rfl, HS.out⟩
   case measure => simp [intOf]; omega
  ·
   have hd : ((i : Int) == 0) = false := by simp; omega
   have HI := Aside0.mk hi0
   clear hi0
   have hna0 : ¬ (9223372036854775807 < (strB (selT q i)).size + 2) := by simp only [strB_size, cat, List.length_append, List.length_cons, List.length_nil]; skip; omega
   have hza0 : strB (selT q i) ++ (⟨#[44, 32]⟩ : ByteArray) = strB (cat (selT q i) ([44, 32])) := append_strB _ _
   have hna1 : ¬ (9223372036854775807 < (strB (cat (selT q i) ([44, 32]))).size + (strB (x)).size) := by simp only [strB_size, cat, List.length_append, List.length_cons, List.length_nil]; skip; omega
   have hza1 : strB (cat (selT q i) ([44, 32])) ++ strB (x) = strB (cat (cat (selT q i) ([44, 32])) (x)) := append_strB _ _
   go_wp2_with fail
   go_roundw
   case rel => exact ⟨i + 1, by omega, by go_num, by rw [selT_succ q i (by have := HI.out; omega) hlt, ← HX.out]; rfl, HS.out⟩
   case measure => simp [intOf]; omega
 ·
  obtain rfl : i = q.cols.length := by omega
  have hnl : ¬ ((q.cols.length : Int) < q.cols.length) := by omega
  have hsl := selT_le HP.out q.cols.length
  have htl := nm_len HP.out.tab
  have hnb0 : ¬ (9223372036854775807 < (strB (selT q q.cols.length)).size + 6) := by simp only [strB_size, cat, List.length_append, List.length_cons, List.length_nil]; skip; omega
  have hzb0 : strB (selT q q.cols.length) ++ (⟨#[32, 102, 114, 111, 109, 32]⟩ : ByteArray) = strB (cat (selT q q.cols.length) ([32, 102, 114, 111, 109, 32])) := append_strB _ _
  have hnb1 : ¬ (9223372036854775807 < (strB (cat (selT q q.cols.length) ([32, 102, 114, 111, 109, 32]))).size + (strB (q.tab)).size) := by simp only [strB_size, cat, List.length_append, List.length_cons, List.length_nil]; skip; omega
  have hzb1 : strB (cat (selT q q.cols.length) ([32, 102, 114, 111, 109, 32])) ++ strB (q.tab) = strB (cat (cat (selT q q.cols.length) ([32, 102, 114, 111, 109, 32])) (q.tab)) := append_strB _ _
  go_wp2_with fail
  go_loopw [5, 7] (fun s5 s7 wr => ∃ i : Nat, i ≤ q.wh.length ∧ s7 = .int .i64 i ∧ s5 = .string (strB (curT q i)) ∧ Str A0 c0 A2 c2 q w wr) (fun _ v _ => q.wh.length - (intOf v).toNat)
  case atStart =>
   refine ⟨0, by omega, rfl, ?_, HS.out⟩
   rw [selT_all]
   unfold curT headT
   simp [cat, whW, jt_nil]
  case round =>
  clear hnb0 hzb0 hnb1 hzb1 hsl htl hnl hi
  obtain ⟨ix, hi, rfl, rfl, hS⟩ := hrel
  have hk1 := blk_cell hS.1 1
  have hk2 := blk_cell hS.1 2
  have hk3 := blk_cell hS.1 3
  have hk4 := blk_cell hS.1 4
  have hk5 := blk_cell hS.1 5
  have HS := Aside0.mk hS
  clear hS
  clear k0 k1 k2
  have hcl2 := curT_le HP.out ix
  by_cases hlt : ix < q.wh.length
  ·
   have hb : (ix : Int) < q.wh.length := by omega
   obtain ⟨t, ht⟩ : ∃ t, t = q.wh[ix] := ⟨_, rfl⟩
   obtain ⟨ad, hA, c1, c2', c3⟩ := at_T70 HC2.out (ix : Int) (by omega) hb
   rw [rd70 _ _ hlt, ← ht] at c1 c2' c3
   simp only [t70, Int.toNat_natCast] at c1 c2' c3
   have hblk := World.block_lt_of_cell? w _ c1
   have hTB := HP.out.whB t (by rw [ht]; exact List.getElem_mem hlt)
   have HT := Aside0.mk ht
   clear ht
   subst hA
   go_upto_if 48 with fail
   go_cut [5] from 48 to 52 (fun (s5 : Value) wx => s5 = .string (strB (cat (curT q ix) (wsp ix))) ∧ Str A0 c0 (some ad) c2 q w wx)
   case first =>
    by_cases hi0 : ix = 0
    ·
     have hd : ((ix : Int) == 0) = true := by simp [hi0]
     have HI := Aside0.mk (show wsp ix = [32, 119, 104, 101, 114, 101, 32] by unfold wsp; rw [if_pos hi0])
     clear hi0
     have hn : ¬ (9223372036854775807 < (strB (curT q ix)).size + 7) := by rw [strB_size]; omega
     have hz : strB (curT q ix) ++ (⟨#[32, 119, 104, 101, 114, 101, 32]⟩ : ByteArray) = strB (cat (curT q ix) [32, 119, 104, 101, 114, 101, 32]) := append_strB _ _
     go_wp2_with fail
     go_meet
     case rel => exact ⟨by rw [HI.out], HS.out⟩
    ·
     have hd : ((ix : Int) == 0) = false := by simp; omega
     have HI := Aside0.mk (show wsp ix = [32, 97, 110, 100, 32] by unfold wsp; rw [if_neg hi0])
     clear hi0
     have hn : ¬ (9223372036854775807 < (strB (curT q ix)).size + 5) := by rw [strB_size]; omega
     have hz : strB (curT q ix) ++ (⟨#[32, 97, 110, 100, 32]⟩ : ByteArray) = strB (cat (curT q ix) [32, 97, 110, 100, 32]) := append_strB _ _
     go_wp2_with fail
     go_meet
     case rel => exact ⟨by rw [HI.out], HS.out⟩
   case rest =>
   obtain ⟨rfl, hS3⟩ := hcut
   obtain ⟨w3, hw3⟩ : ∃ w3, w3 = wc := ⟨_, rfl⟩
   subst hw3
   go_wp2_with (go_at_call 33; (with_reducible refine (signs_calls _).mono ?_); rintro e w4 ⟨bk, o, c, rfl, hoc, hE4⟩; have HOC := Aside0.mk hoc; have HS4 := Aside0.mk (hS3.ext hE4); clear hoc hE4)
   have hB4 := HS4.out.2
   have HC1 := Aside0.mk ((hB4.cell hblk).trans c1)
   have HC2' := Aside0.mk ((hB4.cell (p := ⟨_, _, none⟩) hblk).trans c2')
   have HC3 := Aside0.mk ((hB4.cell (p := ⟨_, _, none⟩) hblk).trans c3)
   clear c1 c2' c3 hB4 hS3
   have hwsl : (wsp ix).length ≤ 7 := by unfold wsp; split <;> simp
   have hopl : (opT t.op).length ≤ 2 := (by unfold opT; (repeat' split) <;> simp)
   have hescl := esc_le t.val
   have hcoll := nm_len hTB.1
   have HBn := Aside0.mk (show (curT q ix).length ≤ 300000 ∧ (wsp ix).length ≤ 7 ∧ (opT t.op).length ≤ 2 ∧ (esc t.val).length ≤ 2048 ∧ t.col.length ≤ 16 ∧ t.val.length ≤ 1024 by have := hTB.2.2.2; omega)
   have HOP := Aside0.mk (show 1 ≤ t.op ∧ t.op ≤ 6 from ⟨hTB.2.1, hTB.2.2.1⟩)
   have HLT := Aside0.mk hlt
   obtain ⟨wB, hwB⟩ : ∃ n, n = w.heap.size := ⟨_, rfl⟩
   rw [← hwB]
   have HWB := Aside0.mk hwB
   clear hwsl hopl hescl hcoll hTB hcl2 hwB
   refine ext_tail 30 [(0, 54), (1, 55), (2, 56), (3, 57), (4, 58), (5, 59), (6, 60), (7, 61), (8, 62), (9, 63), (10, 64), (11, 65), (12, 66), (13, 67), (14, 68), (15, 69), (16, 70), (17, 71), (18, 72), (19, 73), (20, 74), (21, 75), (22, 76), (23, 77), (24, 78), (25, 79), (26, 80), (27, 81), (28, 82)] [0, 1, 2, 3, 4, 5, 6, 7, 8, 9, 10, 11, 12, 13, 14, 15, 16, 17, 18, 19, 20, 21, 22, 23, 24, 25, 26, 27, 28] (fun i w v => match i with | 0 => v = .string (strB (cat (curT q ix) (wsp ix))) | 1 => v = .pointer (some ⟨wB, 2, none⟩) | 2 => v = .slice (some ad) q.wh.length c2 | 3 => v = .int .i64 ix | 4 => v = .pointer (some (ad.add (ix * 3))) | 5 => v = .pointer (some (ad.add (ix * 3))) | 6 => v = .string (strB t.col) | 7 => v = .string (strB (cat (cat (curT q ix) (wsp ix)) (t.col))) | 8 => v = .string (strB (cat (cat (cat (curT q ix) (wsp ix)) (t.col)) [32])) | 9 => v = .slice (some ⟨bk, o, none⟩) 6 c | 10 => v = .pointer (some ⟨wB, 2, none⟩) | 11 => v = .slice (some ad) q.wh.length c2 | 12 => v = .int .i64 ix | 13 => v = .pointer (some (ad.add (ix * 3))) | 14 => v = .pointer (some ⟨(ad.add (ix * 3)).block, (ad.add (ix * 3)).off + 1, none⟩) | 15 => v = .int .i64 t.op | 16 => v = .int .i64 (t.op - 1) | 17 => ∃ ad, v = .pointer (some ad) ∧ w.cell? ad = some (sv (opT t.op)) | 18 => v = .string (strB (opT t.op)) | 19 => v = .string (strB (cat (cat (cat (cat (curT q ix) (wsp ix)) (t.col)) [32]) (opT t.op))) | 20 => v = .string (strB (cat (cat (cat (cat (cat (curT q ix) (wsp ix)) (t.col)) [32]) (opT t.op)) [32])) | 21 => v = .pointer (some ⟨wB, 2, none⟩) | 22 => v = .slice (some ad) q.wh.length c2 | 23 => v = .int .i64 ix | 24 => v = .pointer (some (ad.add (ix * 3))) | 25 => v = .pointer (some ⟨(ad.add (ix * 3)).block, (ad.add (ix * 3)).off + 2, none⟩) | 26 => v = .string (strB t.val) | 27 => v = .string (strB (quoT t.val)) | 28 => v = .string (strB (cat (cat (cat (cat (cat (cat (curT q ix) (wsp ix)) (t.col)) [32]) (opT t.op)) [32]) (quoT t.val))) | _ => True) (by kernel_rfl) (by kernel_rfl) (by rfl) rfl ?mono19 ?steps19 ?fin19
   case mono19 =>
    intro i w w' v h hE
    match i with
    | 0 => exact h
    | 1 => exact h
    | 2 => exact h
    | 3 => exact h
    | 4 => exact h
    | 5 => exact h
    | 6 => exact h
    | 7 => exact h
    | 8 => exact h
    | 9 => exact h
    | 10 => exact h
    | 11 => exact h
    | 12 => exact h
    | 13 => exact h
    | 14 => exact h
    | 15 => exact h
    | 16 => exact h
    | 17 => exact (by obtain ⟨ad, h1, h2⟩ := h; exact ⟨ad, h1, cell_ext hE h2⟩)
    | 18 => exact h
    | 19 => exact h
    | 20 => exact h
    | 21 => exact h
    | 22 => exact h
    | 23 => exact h
    | 24 => exact h
    | 25 => exact h
    | 26 => exact h
    | 27 => exact h
    | 28 => exact h
    | _ + 29 => trivial
   case steps19 =>
    refine stepE_cons ⟨_, rfl, fun a w hE hH => ?_⟩ ?_
    ·
     have e5 : a.tmps[5]? = some (.string (strB (cat (curT q ix) (wsp ix)))) := hH.old 5 rfl
     exact Or.inl ⟨rfl, goodE_move _ rfl (eval_of e5) rfl⟩
    refine stepE_cons ⟨_, rfl, fun a w hE hH => ?_⟩ ?_
    ·
     have e1 : a.tmps[1]? = some (.pointer (some ⟨wB, 0, none⟩)) := hH.old 1 rfl
     exact Or.inl ⟨rfl, goodE_val (.pointer (some ⟨wB, 2, none⟩)) (by simp [execOp, Act.eval, e1, go_sem]) rfl⟩
    refine stepE_cons ⟨_, rfl, fun a w hE hH => ?_⟩ ?_
    ·
     obtain ⟨v55, e55, g55⟩ := hH.dep 1 55 rfl (by kernel_rfl)
     have q55 : v55 = .pointer (some ⟨wB, 2, none⟩) := g55
     subst q55
     have hs := Str.ext HS4.out ((Ext.to_drew _).trans hE)
     exact Or.inl ⟨(rfl), goodE_val (.slice (some ad) q.wh.length c2) (by have hc : w.cell? ⟨wB, 2, none⟩ = some (.slice (some ad) q.wh.length c2) := (by rw [HWB.out]; exact (blk_cell hs.1 2).trans rfl); simp [execOp, Act.eval, e55, hc, go_sem]) rfl⟩
    refine stepE_cons ⟨_, rfl, fun a w hE hH => ?_⟩ ?_
    ·
     have e7 : a.tmps[7]? = some (.int .i64 ix) := hH.old 7 rfl
     exact Or.inl ⟨rfl, goodE_move _ rfl (eval_of e7) rfl⟩
    refine stepE_cons ⟨_, rfl, fun a w hE hH => ?_⟩ ?_
    ·
     obtain ⟨v56, e56, g56⟩ := hH.dep 2 56 rfl (by kernel_rfl)
     have q56 : v56 = .slice (some ad) q.wh.length c2 := g56
     subst q56
     obtain ⟨v57, e57, g57⟩ := hH.dep 3 57 rfl (by kernel_rfl)
     have q57 : v57 = .int .i64 ix := g57
     subst q57
     exact Or.inl ⟨(rfl), goodE_val (.pointer (some (ad.add (ix * 3)))) (by have hb := HLT.out; simp [execOp, Act.eval, e56, e57, go_sem, hb]) rfl⟩
    refine stepE_cons ⟨_, rfl, fun a w hE hH => ?_⟩ ?_
    ·
     obtain ⟨v58, e58, g58⟩ := hH.dep 4 58 rfl (by kernel_rfl)
     have q58 : v58 = .pointer (some (ad.add (ix * 3))) := g58
     subst q58
     exact Or.inl ⟨rfl, goodE_val (.pointer (some (ad.add (ix * 3)))) (by simp [execOp, Act.eval, e58, go_sem]) rfl⟩
    refine stepE_cons ⟨_, rfl, fun a w hE hH => ?_⟩ ?_
    ·
     obtain ⟨v59, e59, g59⟩ := hH.dep 5 59 rfl (by kernel_rfl)
     have q59 : v59 = .pointer (some (ad.add (ix * 3))) := g59
     subst q59
     have hc := cell_ext ((Ext.to_drew _).trans hE) HC1.out
     exact Or.inl ⟨(rfl), goodE_val (.string (strB t.col)) (by simp [execOp, Act.eval, e59, hc, go_sem]) rfl⟩
    refine stepE_cons ⟨_, rfl, fun a w hE hH => ?_⟩ ?_
    ·
     obtain ⟨v54, e54, g54⟩ := hH.dep 0 54 rfl (by kernel_rfl)
     have q54 : v54 = .string (strB (cat (curT q ix) (wsp ix))) := g54
     subst q54
     obtain ⟨v60, e60, g60⟩ := hH.dep 6 60 rfl (by kernel_rfl)
     have q60 : v60 = .string (strB t.col) := g60
     subst q60
     have hb := HBn.out
     have hz : strB (cat (curT q ix) (wsp ix)) ++ strB (t.col) = strB (cat (cat (curT q ix) (wsp ix)) (t.col)) := append_strB _ _
     have hn : ¬ (9223372036854775807 < (strB (cat (curT q ix) (wsp ix))).size + (strB (t.col)).size) := by simp only [strB_size, cat, quoT, List.length_append, List.length_cons, List.length_nil]; omega
     exact Or.inl ⟨(rfl), goodE_val (.string (strB (cat (cat (curT q ix) (wsp ix)) (t.col)))) (by simp [execOp, Act.eval, e54, e60, go_sem, hn, hz]) rfl⟩
    refine stepE_cons ⟨_, rfl, fun a w hE hH => ?_⟩ ?_
    ·
     obtain ⟨v61, e61, g61⟩ := hH.dep 7 61 rfl (by kernel_rfl)
     have q61 : v61 = .string (strB (cat (cat (curT q ix) (wsp ix)) (t.col))) := g61
     subst q61
     have hb := HBn.out
     have hz : strB (cat (cat (curT q ix) (wsp ix)) (t.col)) ++ (⟨#[32]⟩ : ByteArray) = strB (cat (cat (cat (curT q ix) (wsp ix)) (t.col)) [32]) := append_strB _ _
     have hn : ¬ (9223372036854775807 < (strB (cat (cat (curT q ix) (wsp ix)) (t.col))).size + 1) := by simp only [strB_size, cat, quoT, List.length_append, List.length_cons, List.length_nil]; omega
     exact Or.inl ⟨(rfl), goodE_val (.string (strB (cat (cat (cat (curT q ix) (wsp ix)) (t.col)) [32]))) (by simp [execOp, Act.eval, e61, go_sem, hn, hz]) rfl⟩
    refine stepE_cons ⟨_, rfl, fun a w hE hH => ?_⟩ ?_
    ·
     have e8 : a.tmps[8]? = some (.slice (some ⟨bk, o, none⟩) 6 c) := hH.old 8 rfl
     exact Or.inl ⟨rfl, goodE_move _ rfl (eval_of e8) rfl⟩
    refine stepE_cons ⟨_, rfl, fun a w hE hH => ?_⟩ ?_
    ·
     have e1 : a.tmps[1]? = some (.pointer (some ⟨wB, 0, none⟩)) := hH.old 1 rfl
     exact Or.inl ⟨rfl, goodE_val (.pointer (some ⟨wB, 2, none⟩)) (by simp [execOp, Act.eval, e1, go_sem]) rfl⟩
    refine stepE_cons ⟨_, rfl, fun a w hE hH => ?_⟩ ?_
    ·
     obtain ⟨v64, e64, g64⟩ := hH.dep 10 64 rfl (by kernel_rfl)
     have q64 : v64 = .pointer (some ⟨wB, 2, none⟩) := g64
     subst q64
     have hs := Str.ext HS4.out ((Ext.to_drew _).trans hE)
     exact Or.inl ⟨(rfl), goodE_val (.slice (some ad) q.wh.length c2) (by have hc : w.cell? ⟨wB, 2, none⟩ = some (.slice (some ad) q.wh.length c2) := (by rw [HWB.out]; exact (blk_cell hs.1 2).trans rfl); simp [execOp, Act.eval, e64, hc, go_sem]) rfl⟩
    refine stepE_cons ⟨_, rfl, fun a w hE hH => ?_⟩ ?_
    ·
     have e7 : a.tmps[7]? = some (.int .i64 ix) := hH.old 7 rfl
     exact Or.inl ⟨rfl, goodE_move _ rfl (eval_of e7) rfl⟩
    refine stepE_cons ⟨_, rfl, fun a w hE hH => ?_⟩ ?_
    ·
     obtain ⟨v65, e65, g65⟩ := hH.dep 11 65 rfl (by kernel_rfl)
     have q65 : v65 = .slice (some ad) q.wh.length c2 := g65
     subst q65
     obtain ⟨v66, e66, g66⟩ := hH.dep 12 66 rfl (by kernel_rfl)
     have q66 : v66 = .int .i64 ix := g66
     subst q66
     exact Or.inl ⟨(rfl), goodE_val (.pointer (some (ad.add (ix * 3)))) (by have hb := HLT.out; simp [execOp, Act.eval, e65, e66, go_sem, hb]) rfl⟩
    refine stepE_cons ⟨_, rfl, fun a w hE hH => ?_⟩ ?_
    ·
     obtain ⟨v67, e67, g67⟩ := hH.dep 13 67 rfl (by kernel_rfl)
     have q67 : v67 = .pointer (some (ad.add (ix * 3))) := g67
     subst q67
     exact Or.inl ⟨rfl, goodE_val (.pointer (some ⟨(ad.add (ix * 3)).block, (ad.add (ix * 3)).off + 1, none⟩)) (by simp [execOp, Act.eval, e67, go_sem]) rfl⟩
    refine stepE_cons ⟨_, rfl, fun a w hE hH => ?_⟩ ?_
    ·
     obtain ⟨v68, e68, g68⟩ := hH.dep 14 68 rfl (by kernel_rfl)
     have q68 : v68 = .pointer (some ⟨(ad.add (ix * 3)).block, (ad.add (ix * 3)).off + 1, none⟩) := g68
     subst q68
     have hc := cell_ext ((Ext.to_drew _).trans hE) HC2'.out
     exact Or.inl ⟨(rfl), goodE_val (.int .i64 t.op) (by simp [execOp, Act.eval, e68, hc, go_sem]) rfl⟩
    refine stepE_cons ⟨_, rfl, fun a w hE hH => ?_⟩ ?_
    ·
     obtain ⟨v69, e69, g69⟩ := hH.dep 15 69 rfl (by kernel_rfl)
     have q69 : v69 = .int .i64 t.op := g69
     subst q69
     exact Or.inl ⟨(rfl), goodE_val (.int .i64 (t.op - 1)) (by have h1 := HOP.out; have h2 : IntKind.i64.wrap (t.op - 1) = t.op - 1 := IntWalk.i64_in (t.op - 1) (by omega); simp [execOp, Act.eval, e69, go_sem, h2]) rfl⟩
    refine stepE_cons ⟨_, rfl, fun a w hE hH => ?_⟩ ?_
    ·
     obtain ⟨v63, e63, g63⟩ := hH.dep 9 63 rfl (by kernel_rfl)
     have q63 : v63 = .slice (some ⟨bk, o, none⟩) 6 c := g63
     subst q63
     obtain ⟨v70, e70, g70⟩ := hH.dep 16 70 rfl (by kernel_rfl)
     have q70 : v70 = .int .i64 (t.op - 1) := g70
     subst q70
     have h1 := HOP.out
     have h2 : (0 : Int) ≤ t.op - 1 := by omega
     have h3 : t.op - 1 < 6 := by omega
     refine Or.inl ⟨(rfl), goodE_val (.pointer (some ((⟨bk, o, none⟩ : Addr).add (t.op - 1).toNat))) (by simp [execOp, Act.eval, e63, e70, go_sem, h2, h3, h1.1, show ¬ t.op < 1 by omega]) ⟨_, rfl, ?_⟩⟩
     rw [addr_add]
     exact cell_ext ((Ext.to_drew _).trans hE) (HOC.out _ _ (opsL_get t.op h1.1 h1.2))
    refine stepE_cons ⟨_, rfl, fun a w hE hH => ?_⟩ ?_
    ·
     obtain ⟨v71, e71, g71⟩ := hH.dep 17 71 rfl (by kernel_rfl)
     obtain ⟨ad, rfl, hc⟩ := g71
     exact Or.inl ⟨(rfl), goodE_val (.string (strB (opT t.op))) (by simp [execOp, Act.eval, e71, hc, go_sem, sv]) rfl⟩
    refine stepE_cons ⟨_, rfl, fun a w hE hH => ?_⟩ ?_
    ·
     obtain ⟨v62, e62, g62⟩ := hH.dep 8 62 rfl (by kernel_rfl)
     have q62 : v62 = .string (strB (cat (cat (cat (curT q ix) (wsp ix)) (t.col)) [32])) := g62
     subst q62
     obtain ⟨v72, e72, g72⟩ := hH.dep 18 72 rfl (by kernel_rfl)
     have q72 : v72 = .string (strB (opT t.op)) := g72
     subst q72
     have hb := HBn.out
     have hz : strB (cat (cat (cat (curT q ix) (wsp ix)) (t.col)) [32]) ++ strB (opT t.op) = strB (cat (cat (cat (cat (curT q ix) (wsp ix)) (t.col)) [32]) (opT t.op)) := append_strB _ _
     have hn : ¬ (9223372036854775807 < (strB (cat (cat (cat (curT q ix) (wsp ix)) (t.col)) [32])).size + (strB (opT t.op)).size) := by simp only [strB_size, cat, quoT, List.length_append, List.length_cons, List.length_nil]; omega
     exact Or.inl ⟨(rfl), goodE_val (.string (strB (cat (cat (cat (cat (curT q ix) (wsp ix)) (t.col)) [32]) (opT t.op)))) (by simp [execOp, Act.eval, e62, e72, go_sem, hn, hz]) rfl⟩
    refine stepE_cons ⟨_, rfl, fun a w hE hH => ?_⟩ ?_
    ·
     obtain ⟨v73, e73, g73⟩ := hH.dep 19 73 rfl (by kernel_rfl)
     have q73 : v73 = .string (strB (cat (cat (cat (cat (curT q ix) (wsp ix)) (t.col)) [32]) (opT t.op))) := g73
     subst q73
     have hb := HBn.out
     have hz : strB (cat (cat (cat (cat (curT q ix) (wsp ix)) (t.col)) [32]) (opT t.op)) ++ (⟨#[32]⟩ : ByteArray) = strB (cat (cat (cat (cat (cat (curT q ix) (wsp ix)) (t.col)) [32]) (opT t.op)) [32]) := append_strB _ _
     have hn : ¬ (9223372036854775807 < (strB (cat (cat (cat (cat (curT q ix) (wsp ix)) (t.col)) [32]) (opT t.op))).size + 1) := by simp only [strB_size, cat, quoT, List.length_append, List.length_cons, List.length_nil]; omega
     exact Or.inl ⟨(rfl), goodE_val (.string (strB (cat (cat (cat (cat (cat (curT q ix) (wsp ix)) (t.col)) [32]) (opT t.op)) [32]))) (by simp [execOp, Act.eval, e73, go_sem, hn, hz]) rfl⟩
    refine stepE_cons ⟨_, rfl, fun a w hE hH => ?_⟩ ?_
    ·
     have e1 : a.tmps[1]? = some (.pointer (some ⟨wB, 0, none⟩)) := hH.old 1 rfl
     exact Or.inl ⟨rfl, goodE_val (.pointer (some ⟨wB, 2, none⟩)) (by simp [execOp, Act.eval, e1, go_sem]) rfl⟩
    refine stepE_cons ⟨_, rfl, fun a w hE hH => ?_⟩ ?_
    ·
     obtain ⟨v75, e75, g75⟩ := hH.dep 21 75 rfl (by kernel_rfl)
     have q75 : v75 = .pointer (some ⟨wB, 2, none⟩) := g75
     subst q75
     have hs := Str.ext HS4.out ((Ext.to_drew _).trans hE)
     exact Or.inl ⟨(rfl), goodE_val (.slice (some ad) q.wh.length c2) (by have hc : w.cell? ⟨wB, 2, none⟩ = some (.slice (some ad) q.wh.length c2) := (by rw [HWB.out]; exact (blk_cell hs.1 2).trans rfl); simp [execOp, Act.eval, e75, hc, go_sem]) rfl⟩
    refine stepE_cons ⟨_, rfl, fun a w hE hH => ?_⟩ ?_
    ·
     have e7 : a.tmps[7]? = some (.int .i64 ix) := hH.old 7 rfl
     exact Or.inl ⟨rfl, goodE_move _ rfl (eval_of e7) rfl⟩
    refine stepE_cons ⟨_, rfl, fun a w hE hH => ?_⟩ ?_
    ·
     obtain ⟨v76, e76, g76⟩ := hH.dep 22 76 rfl (by kernel_rfl)
     have q76 : v76 = .slice (some ad) q.wh.length c2 := g76
     subst q76
     obtain ⟨v77, e77, g77⟩ := hH.dep 23 77 rfl (by kernel_rfl)
     have q77 : v77 = .int .i64 ix := g77
     subst q77
     exact Or.inl ⟨(rfl), goodE_val (.pointer (some (ad.add (ix * 3)))) (by have hb := HLT.out; simp [execOp, Act.eval, e76, e77, go_sem, hb]) rfl⟩
    refine stepE_cons ⟨_, rfl, fun a w hE hH => ?_⟩ ?_
    ·
     obtain ⟨v78, e78, g78⟩ := hH.dep 24 78 rfl (by kernel_rfl)
     have q78 : v78 = .pointer (some (ad.add (ix * 3))) := g78
     subst q78
     exact Or.inl ⟨rfl, goodE_val (.pointer (some ⟨(ad.add (ix * 3)).block, (ad.add (ix * 3)).off + 2, none⟩)) (by simp [execOp, Act.eval, e78, go_sem]) rfl⟩
    refine stepE_cons ⟨_, rfl, fun a w hE hH => ?_⟩ ?_
    ·
     obtain ⟨v79, e79, g79⟩ := hH.dep 25 79 rfl (by kernel_rfl)
     have q79 : v79 = .pointer (some ⟨(ad.add (ix * 3)).block, (ad.add (ix * 3)).off + 2, none⟩) := g79
     subst q79
     have hc := cell_ext ((Ext.to_drew _).trans hE) HC3.out
     exact Or.inl ⟨(rfl), goodE_val (.string (strB t.val)) (by simp [execOp, Act.eval, e79, hc, go_sem]) rfl⟩
    refine stepE_cons ⟨_, rfl, fun a w hE hH => ?_⟩ ?_
    ·
     obtain ⟨v80, e80, g80⟩ := hH.dep 26 80 rfl (by kernel_rfl)
     have q80 : v80 = .string (strB t.val) := g80
     subst q80
     refine Or.inl ⟨(rfl), goodE_call rfl #[.string (strB t.val)] (by simp [Act.eval, e80]) _ Tryz.func34 (by kernel_rfl) (by kernel_rfl) ?_⟩
     refine (cairnref32_quoted.calls (t.val.length + 5) (strB t.val) (strB (quoT t.val)) w (rquo_f t.val (by have := HBn.out; omega) _ (by omega))).mono ?_
     rintro e w' ⟨rfl, hw⟩
     exact ⟨_, rfl, ext_drawn hw, rfl⟩
    refine stepE_cons ⟨_, rfl, fun a w hE hH => ?_⟩ ?_
    ·
     obtain ⟨v74, e74, g74⟩ := hH.dep 20 74 rfl (by kernel_rfl)
     have q74 : v74 = .string (strB (cat (cat (cat (cat (cat (curT q ix) (wsp ix)) (t.col)) [32]) (opT t.op)) [32])) := g74
     subst q74
     obtain ⟨v81, e81, g81⟩ := hH.dep 27 81 rfl (by kernel_rfl)
     have q81 : v81 = .string (strB (quoT t.val)) := g81
     subst q81
     have hb := HBn.out
     have hz : strB (cat (cat (cat (cat (cat (curT q ix) (wsp ix)) (t.col)) [32]) (opT t.op)) [32]) ++ strB ((quoT t.val)) = strB (cat (cat (cat (cat (cat (cat (curT q ix) (wsp ix)) (t.col)) [32]) (opT t.op)) [32]) (quoT t.val)) := append_strB _ _
     have hn : ¬ (9223372036854775807 < (strB (cat (cat (cat (cat (cat (curT q ix) (wsp ix)) (t.col)) [32]) (opT t.op)) [32])).size + (strB ((quoT t.val))).size) := by simp only [strB_size, cat, quoT, List.length_append, List.length_cons, List.length_nil]; omega
     exact Or.inl ⟨(rfl), goodE_val (.string (strB (cat (cat (cat (cat (cat (cat (curT q ix) (wsp ix)) (t.col)) [32]) (opT t.op)) [32]) (quoT t.val)))) (by simp [execOp, Act.eval, e74, e81, go_sem, hn, hz]) rfl⟩
    exact stepE_nil
   refine ⟨⟨(some 5), .assign (.tmp 82), _, _, _, none⟩, rfl, ?_⟩
   rintro vals wz hE hV
   have k82 : vals 28 = .string (strB (cat (cat (cat (cat (cat (cat (curT q ix) (wsp ix)) (t.col)) [32]) (opT t.op)) [32]) (quoT t.val))) := hV 28 (by simp) rfl
   refine ⟨rfl, ?_⟩
   intro KK hKK
   simp only [List.map_cons, List.map_nil, putAll, Act.put, List.setIfInBounds_toArray, List.set_cons_zero, List.set_cons_succ, k82]
   refine finE_val (w1 := wz) (v := .string (strB (cat (cat (cat (cat (cat (cat (curT q ix) (wsp ix)) (t.col)) [32]) (opT t.op)) [32]) (quoT t.val)))) (by simp [execOp, Act.eval, k82]) (hKK _ _ ?_)
   have HS5 := Aside0.mk (Str.ext HS4.out ((Ext.to_drew _).trans hE))
   clear hE hV k82 hKK
   have hwb := HWB.out
   subst hwb
   go_wp2_with fail
   go_roundw
   case rel =>
    refine ⟨ix + 1, by omega, by go_num, ?_, HS5.out⟩
    have e : q.wh.take (ix + 1) = q.wh.take ix ++ [t] := by rw [HT.out, List.take_succ_eq_append_getElem hlt]
    have hl : (q.wh.take ix).length = ix := by rw [List.length_take]; omega
    have e2 : curT q (ix + 1) = (cat (cat (cat (cat (cat (cat (curT q ix) (wsp ix)) (t.col)) [32]) (opT t.op)) [32]) (quoT t.val)) := by
     unfold curT
     rw [e, whW_snoc, hl, Nat.zero_add, jt_append]
     unfold testW wsp cat quoT
     by_cases h0 : ix = 0
     ·
      simp [jt_cons, jt_nil, h0]
     ·
      simp [jt_cons, jt_nil, h0]
    rw [e2]
   case measure => simp [intOf]; omega
  ·
   obtain rfl : ix = q.wh.length := by omega
   have hnl : ¬ ((q.wh.length : Int) < q.wh.length) := by omega
   go_upto_if 85 with fail
   have hS0 := HS.out
   have HS0 := Aside0.mk hS0
   clear hS0 HS
   obtain ⟨bo, hbo⟩ : ∃ b, b = (!(strB q.ord).toList.isEmpty) := ⟨_, rfl⟩
   rw [← hbo]
   have HO := Aside0.mk (show bo = !decide (q.ord = []) by rw [hbo, toList_strB]; cases q.ord <;> simp)
   clear hbo
   have hol := ord_le HP.out
   have hn0 : ¬ (9223372036854775807 < (strB (curT q q.wh.length)).size + 10) := by rw [strB_size]; omega
   have hz0 : strB (curT q q.wh.length) ++ (⟨#[32, 111, 114, 100, 101, 114, 32, 98, 121, 32]⟩ : ByteArray) = strB (cat (curT q q.wh.length) [32, 111, 114, 100, 101, 114, 32, 98, 121, 32]) := append_strB _ _
   have hn1 : ¬ (9223372036854775807 < (strB (cat (curT q q.wh.length) [32, 111, 114, 100, 101, 114, 32, 98, 121, 32])).size + (strB q.ord).size) := by simp only [strB_size, cat, List.length_append, List.length_cons, List.length_nil]; omega
   have hz1 : strB (cat (curT q q.wh.length) [32, 111, 114, 100, 101, 114, 32, 98, 121, 32]) ++ strB q.ord = strB (cat (cat (curT q q.wh.length) [32, 111, 114, 100, 101, 114, 32, 98, 121, 32]) q.ord) := append_strB _ _
   go_cut [5] from 85 to 90 (fun (s5 : Value) wx => s5 = .string (strB (ordTx q)) ∧ Str A0 c0 A2 c2 q w wx)
   case first =>
    cases bo with
    | false =>
     go_wp2_with fail
     go_meet
     case rel =>
      have ho : q.ord = [] := by have := HO.out; simpa using this
      exact ⟨by unfold ordTx ordW; rw [if_pos ho, jt_nil, List.append_nil], HS0.out⟩
    | true =>
     go_wp2_with fail
     go_meet
     case rel =>
      have ho : ¬ q.ord = [] := by have := HO.out; simpa using this
      exact ⟨by unfold ordTx ordW; rw [if_neg ho]; simp [jt_cons, jt_nil, cat], HS0.out⟩
   case rest =>
   obtain ⟨rfl, hS2⟩ := hcut
   obtain ⟨w2, hw2⟩ : ∃ w2, w2 = wc := ⟨_, rfl⟩
   subst hw2
   have HS0 := Aside0.mk hS2
   have hk4 := blk_cell hS2.1 4
   have hk5 := blk_cell hS2.1 5
   have HOL := Aside0.mk (show (ordTx q).length ≤ 400000 by
    have := ordW_le HP.out
    unfold ordTx
    rw [List.length_append]
    omega)
   clear hn0 hz0 hn1 hz1 hS2 hol
   go_upto_if 92 with fail
   obtain ⟨bd, hbd⟩ : ∃ b, b = q.down := ⟨_, rfl⟩
   rw [← hbd]
   have HD := Aside0.mk hbd
   clear hbd hk4
   have hn0 : ¬ (9223372036854775807 < (strB (ordTx q)).size + 5) := by have := HOL.out; rw [strB_size]; omega
   have hz0 : strB (ordTx q) ++ (⟨#[32, 100, 111, 119, 110]⟩ : ByteArray) = strB (cat (ordTx q) [32, 100, 111, 119, 110]) := append_strB _ _
   go_cut [5] from 91 to 94 (fun (s5 : Value) wx => s5 = .string (strB (downTx q)) ∧ Str A0 c0 A2 c2 q w wx)
   case first =>
    cases bd with
    | false =>
     go_wp2_with fail
     go_meet
     case rel => exact ⟨by unfold downTx downW; rw [← HD.out, if_neg (by decide), jt_nil, List.append_nil], HS0.out⟩
    | true =>
     go_wp2_with fail
     go_meet
     case rel => exact ⟨by unfold downTx downW; rw [← HD.out, if_pos rfl]; simp [jt_cons, jt_nil, cat], HS0.out⟩
   case rest =>
   obtain ⟨rfl, hS2⟩ := hcut
   obtain ⟨w3, hw3⟩ : ∃ w3, w3 = wc := ⟨_, rfl⟩
   subst hw3
   have HS0 := Aside0.mk hS2
   have hk5 := blk_cell hS2.1 5
   have HDL := Aside0.mk (show (downTx q).length ≤ 400005 by
    have := HOL.out
    have h2 : (jt (downW q)).length ≤ 5 := (by unfold downW; split <;> simp [jt_cons, jt_nil])
    unfold downTx
    rw [List.length_append]
    omega)
   clear hn0 hz0 hS2
   go_upto_if 97 with fail
   obtain ⟨bl, hbl⟩ : ∃ b, b = decide (0 < q.lim) := ⟨_, rfl⟩
   rw [← hbl]
   have HLb := Aside0.mk hbl
   clear hbl
   have hG3 := Glob.of_below hG HS0.out.2
   have hit := strconv_Itoa.calls q.lim (strB (Lib.itoa q.lim)) w3 hG3 (by unfold strconv_Itoa.f; rw [if_pos HP.out.lim0, if_pos HP.out.lim1])
   have hil := itoa_le q.lim HP.out.lim0 HP.out.lim1
   have hn0 : ¬ (9223372036854775807 < (strB (downTx q)).size + 7) := by have := HDL.out; rw [strB_size]; omega
   have hz0 : strB (downTx q) ++ (⟨#[32, 108, 105, 109, 105, 116, 32]⟩ : ByteArray) = strB (cat (downTx q) [32, 108, 105, 109, 105, 116, 32]) := append_strB _ _
   have hn1 : ¬ (9223372036854775807 < (strB (cat (downTx q) [32, 108, 105, 109, 105, 116, 32])).size + (strB (Lib.itoa q.lim)).size) := by have := HDL.out; simp only [strB_size, cat, List.length_append, List.length_cons, List.length_nil]; omega
   have hz1 : strB (cat (downTx q) [32, 108, 105, 109, 105, 116, 32]) ++ strB (Lib.itoa q.lim) = strB (cat (cat (downTx q) [32, 108, 105, 109, 105, 116, 32]) (Lib.itoa q.lim)) := append_strB _ _
   go_cut [5] from 95 to 103 (fun (s5 : Value) wx => s5 = .string (strB (textQ q)) ∧ Str A0 c0 A2 c2 q w wx)
   case first =>
    cases bl with
    | false =>
     go_wp2_with fail
     go_meet
     case rel =>
      have hl : ¬ 0 < q.lim := of_decide_eq_false HLb.out.symm
      exact ⟨by rw [textQ_tx]; unfold limW; rw [if_neg hl, jt_nil, List.append_nil], HS0.out⟩
    | true =>
     go_wp2_with (go_at_call 31; (with_reducible refine hit.mono ?_); rintro e wi ⟨rfl, hbi⟩; have HSi := Aside0.mk (HS0.out.ext hbi); clear hbi)
     go_meet
     case rel =>
      have hl : 0 < q.lim := of_decide_eq_true HLb.out.symm
      exact ⟨by rw [textQ_tx]; unfold limW; rw [if_pos hl]; simp [jt_cons, jt_nil, cat], HSi.out⟩
   case rest =>
   obtain ⟨rfl, hS2⟩ := hcut
   obtain ⟨w4, hw4⟩ : ∃ w4, w4 = wc := ⟨_, rfl⟩
   subst hw4
   have HB9 := Aside0.mk hS2.2
   clear hn0 hz0 hn1 hz1 hS2 hit hil hG3 hk5
   go_upto_if 106 with fail
   obtain ⟨bz, hbz⟩ : ∃ b, b = decide ((1024 : Int) < (strB (textQ q)).size) := ⟨_, rfl⟩
   rw [← hbz]
   rw [strB_size] at hbz
   have HZ := Aside0.mk hbz
   clear hbz
   cases bz with
   | true =>
    have hn : ¬ (textQ q).length ≤ 1024 := by have := of_decide_eq_true HZ.out.symm; omega
    have hR := HR.out
    rw [if_neg hn] at hR
    obtain ⟨rfl, rfl⟩ := Prod.mk.inj hR
    clear hR hn HZ HR
    go_wp2_with fail
    go_ret2
    exact ⟨rfl, HB9.out⟩
   | false =>
    have hn : (textQ q).length ≤ 1024 := by have := of_decide_eq_false HZ.out.symm; omega
    have hR := HR.out
    rw [if_pos hn] at hR
    obtain ⟨rfl, rfl⟩ := Prod.mk.inj hR
    clear hR hn HZ HR
    go_wp2_with fail
    go_ret2
    exact ⟨rfl, HB9.out⟩
end Go.Proofs.YthhemephaabblaaGreatDoor.Hq
namespace Go.Proofs.YthhemephaabblaaGreatDoor.Hq
open Go.RowKit Go.Proofs.YthhemephaabblaaGreatDoorW.PrintWords Go.Proofs.YthhemephaabblaaGreatDoorW.PrintLast Go.Proofs.YthhemephaabblaaGreatDoorW.PrintMore Go.Proofs.YthhemephaabblaaGreatDoor Go.Proofs.YthhemephaabblaaGreatDoor.Q
set_option linter.unusedVariables false
set_option linter.unusedSimpArgs false
def qOf70 (l0_0 : List ByteArray) (a0_1 : ByteArray) (l0_2 : List S70) (a0_3 : ByteArray) (a0_4 : Bool) (a0_5 : Int) : Qry :=
 ⟨l0_0.map (·.data.toList), a0_1.data.toList, l0_2.map fun t => ⟨t.f0.data.toList, t.f1, t.f2.data.toList⟩, a0_3.data.toList, a0_4, a0_5⟩
theorem qOf70_cols (l0_0 : List ByteArray) (a0_1 : ByteArray) (l0_2 : List S70) (a0_3 : ByteArray) (a0_4 : Bool) (a0_5 : Int) : (qOf70 l0_0 a0_1 l0_2 a0_3 a0_4 a0_5).cols.map strB = l0_0 := by
 show (l0_0.map _).map strB = l0_0
 rw [List.map_map]
 exact (List.map_congr_left (fun b _ => strB_data b)).trans (List.map_id _)
theorem qOf70_wh (l0_0 : List ByteArray) (a0_1 : ByteArray) (l0_2 : List S70) (a0_3 : ByteArray) (a0_4 : Bool) (a0_5 : Int) : (qOf70 l0_0 a0_1 l0_2 a0_3 a0_4 a0_5).wh.map t70 = l0_2 := by
 show (l0_2.map _).map t70 = l0_2
 rw [List.map_map]
 refine (List.map_congr_left (fun b _ => ?_)).trans (List.map_id _)
 show (⟨strB b.f0.data.toList, b.f1, strB b.f2.data.toList⟩ : S70) = b
 rw [strB_data, strB_data]
theorem qOf70_q (q : Qry) : qOf70 (q.cols.map strB) (strB q.tab) (q.wh.map t70) (strB q.ord) q.down q.lim = q := by
 unfold qOf70
 have e1 : (q.cols.map strB).map (·.data.toList) = q.cols := by
  rw [List.map_map]; exact (List.map_congr_left (fun b _ => rfl)).trans (List.map_id _)
 have e2 : ((q.wh.map t70).map fun t => (⟨t.f0.data.toList, t.f1, t.f2.data.toList⟩ : Tst)) = q.wh := by
  rw [List.map_map]; exact (List.map_congr_left (fun b _ => rfl)).trans (List.map_id _)
 rw [e1, e2]
 rfl
def cairnref32_Print.f (k : Nat) (l0_0 : List ByteArray) (a0_1 : ByteArray) (l0_2 : List S70) (a0_3 : ByteArray) (a0_4 : Bool) (a0_5 : Int) : Option (ByteArray × Int) :=
 if okQ (qOf70 l0_0 a0_1 l0_2 a0_3 a0_4 a0_5) then (if mayQ (qOf70 l0_0 a0_1 l0_2 a0_3 a0_4 a0_5) then (if (textQ (qOf70 l0_0 a0_1 l0_2 a0_3 a0_4 a0_5)).length ≤ 1024 then some (strB (textQ (qOf70 l0_0 a0_1 l0_2 a0_3 a0_4 a0_5)), 0) else some (strB [], 320)) else some (strB [], 320)) else none
theorem rprint_f (q : Qry) (hq : okQ q) (k : Nat) (hk : q.cols.length + q.wh.length + 50 < k) : cairnref32_Print.f k (q.cols.map strB) (strB q.tab) (q.wh.map t70) (strB q.ord) q.down q.lim = some (strB (printQ q).1, (printQ q).2) := by
 unfold cairnref32_Print.f printQ
 rw [qOf70_q, if_pos hq]
 cases mayQ q with
 | false => rfl
 | true =>
  by_cases h : (textQ q).length ≤ 1024
  ·
   simp [h]
  ·
   simp [h]
set_option maxRecDepth 100000 in
set_option maxHeartbeats 3200000 in
theorem rprint_false (k : Nat) (A0 : Option Addr) (c0 : Nat) (A2 : Option Addr) (c2 : Nat) (q : Qry) (w : World) (hr0 : Kd.C Kd.string w A0 q.cols.length (q.cols.map strB)) (hc0 : q.cols.length ≤ c0) (hr2 : Kd.C k70 w A2 q.wh.length (q.wh.map t70)) (hc2 : q.wh.length ≤ c2)
  (hm : okQ q ∧ mayQ q = false) :
  Calls Tryz.prog 14 #[.agg #[.slice A0 q.cols.length c0, .string (strB q.tab), .slice A2 q.wh.length c2, .string (strB q.ord), .bool q.down, .int .i64 q.lim]] w fun e w' => e = .returned (.tuple #[.string ⟨#[]⟩, .int .i64 320]) ∧ Below w.heap.size w w' := by
 have hcall : ∀ W (h : Kd.C Kd.string W A0 q.cols.length (q.cols.map strB)) (h' : Kd.C k70 W A2 q.wh.length (q.wh.map t70)), Calls Tryz.prog 32 #[.agg #[.slice A0 q.cols.length c0, .string (strB q.tab), .slice A2 q.wh.length c2, .string (strB q.ord), .bool q.down, .int .i64 q.lim]] W fun e w' => e = .returned (.bool false) ∧ Below W.heap.size W w' := by
  intro W h h'
  have := rmay_calls q hm.1 A0 c0 A2 c2 W h hc0 h' hc2
  rw [hm.2] at this
  exact this
 have HC0 := Aside0.mk hr0
 have HC2 := Aside0.mk hr2
 have HM := Aside0.mk hm
 clear hr0 hr2 hm
 go_enter Tryz.func14, Tryz.ntmps14
 go_wp2_with (go_at_call 32; (with_reducible refine (hcall _ ?h0 ?h2).mono ?_); (case h0 => exact Kd.C_below HC0.out ((Below.refl _ _).alloc (Nat.le_refl _) _)); (case h2 => exact Kd.C_below HC2.out ((Below.refl _ _).alloc (Nat.le_refl _) _)); rintro e w1 ⟨rfl, hb1⟩; have HB1 := Aside0.mk (below_step ((Below.refl _ _).alloc (Nat.le_refl _) _) hb1); clear hb1)
 go_ret2
 exact ⟨rfl, HB1.out⟩
theorem cairnref32_Print.calls (k : Nat) (A0_0 : Option Addr) (c0_0 : Nat) (l0_0 : List ByteArray) (a0_1 : ByteArray) (A0_2 : Option Addr) (c0_2 : Nat) (l0_2 : List (S70)) (a0_3 : ByteArray) (a0_4 : Bool) (a0_5 : Int) (r1 : ByteArray) (r2 : Int) (w : World) (hr0_0 : Kd.C Kd.string w A0_0 l0_0.length l0_0) (hc0_0 : l0_0.length ≤ c0_0) (hr0_2 : Kd.C k70 w A0_2 l0_2.length l0_2) (hc0_2 : l0_2.length ≤ c0_2) (hG : Glob w) (h : cairnref32_Print.f k l0_0 a0_1 l0_2 a0_3 a0_4 a0_5 = some (r1, r2)) :
  Calls Tryz.prog 14 #[.agg #[.slice A0_0 l0_0.length c0_0, .string a0_1, .slice A0_2 l0_2.length c0_2, .string a0_3, .bool a0_4, .int .i64 a0_5]] w fun e w' => e = .returned (.tuple #[.string r1, .int .i64 r2]) ∧ Below w.heap.size w w' := by
 obtain ⟨q, hq⟩ : ∃ q, q = qOf70 l0_0 a0_1 l0_2 a0_3 a0_4 a0_5 := ⟨_, rfl⟩
 have e0 : l0_0 = q.cols.map strB := by rw [hq]; exact (qOf70_cols _ _ _ _ _ _).symm
 have e2 : l0_2 = q.wh.map t70 := by rw [hq]; exact (qOf70_wh _ _ _ _ _ _).symm
 have e1 : a0_1 = strB q.tab := by rw [hq]; exact (strB_data _).symm
 have e3 : a0_3 = strB q.ord := by rw [hq]; exact (strB_data _).symm
 have e4 : a0_4 = q.down := by rw [hq]; rfl
 have e5 : a0_5 = q.lim := by rw [hq]; rfl
 unfold cairnref32_Print.f at h
 rw [← hq] at h
 clear hq
 subst e0 e1 e2 e3 e4 e5
 rw [List.length_map] at hr0_0 hc0_0 hr0_2 hc0_2
 rw [List.length_map, List.length_map]
 by_cases hk : okQ q
 ·
  rw [if_pos hk] at h
  by_cases hp : mayQ q = true
  ·
   rw [if_pos hp] at h
   by_cases hl : (textQ q).length ≤ 1024
   ·
    rw [if_pos hl] at h
    simp only [Option.some.injEq, Prod.mk.injEq] at h
    obtain ⟨rfl, rfl⟩ := h
    exact rprint_true k A0_0 c0_0 A0_2 c0_2 q w hr0_0 hc0_0 hr0_2 hc0_2 hG ⟨hk, hp⟩ (mayP hp) (textQ q) 0 (if_pos hl)
   ·
    rw [if_neg hl] at h
    simp only [Option.some.injEq, Prod.mk.injEq] at h
    obtain ⟨rfl, rfl⟩ := h
    exact rprint_true k A0_0 c0_0 A0_2 c0_2 q w hr0_0 hc0_0 hr0_2 hc0_2 hG ⟨hk, hp⟩ (mayP hp) [] 320 (if_neg hl)
  ·
   rw [if_neg hp] at h
   simp only [Option.some.injEq, Prod.mk.injEq] at h
   obtain ⟨rfl, rfl⟩ := h
   exact rprint_false k A0_0 c0_0 A0_2 c0_2 q w hr0_0 hc0_0 hr0_2 hc0_2 ⟨hk, by simpa using hp⟩
 ·
  rw [if_neg hk] at h; cases h
end Go.Proofs.YthhemephaabblaaGreatDoor.Hq
namespace Go.Proofs.YthhemephaabblaaGreatDoor.R
open Go.RowKit Go.Proofs.YthhemephaabblaaGreatDoor.Q Go.Proofs.YthhemephaabblaaGreatDoor.Hq  Go.Proofs.YthhemephaabblaaGreatDoorW.PrintWords Go.Proofs.YthhemephaabblaaGreatDoorW.PrintLast Go.Proofs.YthhemephaabblaaGreatDoorW.PrintMore
attribute [local go_sem] max2_int min2_int max_two min_two max_three min_three max_four min_four
set_option linter.unusedVariables false
set_option linter.unusedSimpArgs false
end Go.Proofs.YthhemephaabblaaGreatDoor.R
namespace Go.Proofs.YthhemephaabblaaGreatDoor.R
open Go.RowKit Go.Proofs.YthhemephaabblaaGreatDoor.Q Go.Proofs.YthhemephaabblaaGreatDoor.Hq  Go.Proofs.YthhemephaabblaaGreatDoorW.PrintWords Go.Proofs.YthhemephaabblaaGreatDoorW.PrintLast Go.Proofs.YthhemephaabblaaGreatDoorW.PrintMore
attribute [local go_sem] max2_int min2_int max_two min_two max_three min_three max_four min_four
set_option linter.unusedVariables false
set_option linter.unusedSimpArgs false
def query_reader_pass.f (k : Nat) (s0_0 : ByteArray) (s0_1 : Int) (s0_2 : Int) (s0_3 : ByteArray) (s0_4 : Int) (s0_5 : Value) (s0_6 : ByteArray) (s0_7 : Value) (s0_8 : ByteArray) (s0_9 : Bool) (s0_10 : Int) (a1 : Int) (a2 : ByteArray) : Option (Bool × ByteArray × Int × Int × ByteArray × Int × ByteArray × ByteArray × Bool × Int) := (query_reader_is.f s0_0 s0_1 s0_2 s0_3 s0_4 s0_5 s0_6 s0_7 s0_8 s0_9 s0_10 a1 a2).bind fun bt121 => (if bt121.1 = true then ((query_reader_step.f k bt121.2.1 bt121.2.2.1 bt121.2.2.2.1 bt121.2.2.2.2.1 bt121.2.2.2.2.2.1 s0_5 bt121.2.2.2.2.2.2.1 s0_7 bt121.2.2.2.2.2.2.2.1 bt121.2.2.2.2.2.2.2.2.1 bt121.2.2.2.2.2.2.2.2.2).bind fun bt131 => (some (true, bt131.1, bt131.2.1, bt131.2.2.1, bt131.2.2.2.1, bt131.2.2.2.2.1, bt131.2.2.2.2.2.1, bt131.2.2.2.2.2.2.1, bt131.2.2.2.2.2.2.2.1, bt131.2.2.2.2.2.2.2.2))) else (some (false, bt121.2.1, bt121.2.2.1, bt121.2.2.2.1, bt121.2.2.2.2.1, bt121.2.2.2.2.2.1, bt121.2.2.2.2.2.2.1, bt121.2.2.2.2.2.2.2.1, bt121.2.2.2.2.2.2.2.2.1, bt121.2.2.2.2.2.2.2.2.2)))
set_option maxHeartbeats 8000000 in
set_option maxRecDepth 100000 in
theorem query_reader_pass.calls (k : Nat) (g : Nat) (s0_0 : ByteArray) (s0_1 : Int) (s0_2 : Int) (s0_3 : ByteArray) (s0_4 : Int) (s0_5 : Value) (s0_6 : ByteArray) (s0_7 : Value) (s0_8 : ByteArray) (s0_9 : Bool) (s0_10 : Int) (a1 : Int) (a2 : ByteArray) (r1 : Bool) (r2 : ByteArray) (r3 : Int) (r4 : Int) (r5 : ByteArray) (r6 : Int) (r7 : ByteArray) (r8 : ByteArray) (r9 : Bool) (r10 : Int) (w0 w : World) (hI : IsS60 w0 w g s0_0 s0_1 s0_2 s0_3 s0_4 s0_5 s0_6 s0_7 s0_8 s0_9 s0_10) (hB : Below w0.heap.size w0 w) (h : query_reader_pass.f k s0_0 s0_1 s0_2 s0_3 s0_4 s0_5 s0_6 s0_7 s0_8 s0_9 s0_10 a1 a2 = some (r1, r2, r3, r4, r5, r6, r7, r8, r9, r10)) :
  Calls Tryz.prog 45 #[.pointer (some ⟨g, 0, none⟩), .int .i64 a1, .string a2] w fun e w' => e = .returned (.bool r1) ∧ IsS60 w0 w' g r2 r3 r4 r5 r6 s0_5 r7 s0_7 r8 r9 r10 ∧ Below w0.heap.size w0 w' ∧ KeepBut w w' g none := by
 have HI0 := Aside0.mk hI
 have HK := Aside0.mk (KeepBut.refl w g none)
 have HL := Aside0.mk hB.size
 clear hI
 have HW0 := Aside0.mk hB.size
 have HB := Aside0.mk hB
 clear hB
 have H : ((query_reader_is.f s0_0 s0_1 s0_2 s0_3 s0_4 s0_5 s0_6 s0_7 s0_8 s0_9 s0_10 a1 a2).bind fun bt121 => (if bt121.1 = true then ((query_reader_step.f k bt121.2.1 bt121.2.2.1 bt121.2.2.2.1 bt121.2.2.2.2.1 bt121.2.2.2.2.2.1 s0_5 bt121.2.2.2.2.2.2.1 s0_7 bt121.2.2.2.2.2.2.2.1 bt121.2.2.2.2.2.2.2.2.1 bt121.2.2.2.2.2.2.2.2.2).bind fun bt131 => (some (true, bt131.1, bt131.2.1, bt131.2.2.1, bt131.2.2.2.1, bt131.2.2.2.2.1, bt131.2.2.2.2.2.1, bt131.2.2.2.2.2.2.1, bt131.2.2.2.2.2.2.2.1, bt131.2.2.2.2.2.2.2.2))) else (some (false, bt121.2.1, bt121.2.2.1, bt121.2.2.2.1, bt121.2.2.2.2.1, bt121.2.2.2.2.2.1, bt121.2.2.2.2.2.2.1, bt121.2.2.2.2.2.2.2.1, bt121.2.2.2.2.2.2.2.2.1, bt121.2.2.2.2.2.2.2.2.2)))) = some (r1, r2, r3, r4, r5, r6, r7, r8, r9, r10) := h
 clear h
 replace H := Option.bind_eq_some_iff.mp H
 obtain ⟨⟨t121, t122, t123, t124, t125, t126, t127, t128, t129, t130⟩, A40, H⟩ := H
 replace H : (if t121 = true then ((query_reader_step.f k t122 t123 t124 t125 t126 s0_5 t127 s0_7 t128 t129 t130).bind fun bt131 => (some (true, bt131.1, bt131.2.1, bt131.2.2.1, bt131.2.2.2.1, bt131.2.2.2.2.1, bt131.2.2.2.2.2.1, bt131.2.2.2.2.2.2.1, bt131.2.2.2.2.2.2.2.1, bt131.2.2.2.2.2.2.2.2))) else (some (false, t122, t123, t124, t125, t126, t127, t128, t129, t130))) = some (r1, r2, r3, r4, r5, r6, r7, r8, r9, r10) := H
 have A4 := Aside0.mk A40
 clear A40
 by_cases c5 : t121 = true
 ·
  subst c5
  have H1 : ((query_reader_step.f k t122 t123 t124 t125 t126 s0_5 t127 s0_7 t128 t129 t130).bind fun bt131 => (some (true, bt131.1, bt131.2.1, bt131.2.2.1, bt131.2.2.2.1, bt131.2.2.2.2.1, bt131.2.2.2.2.2.1, bt131.2.2.2.2.2.2.1, bt131.2.2.2.2.2.2.2.1, bt131.2.2.2.2.2.2.2.2))) = some (r1, r2, r3, r4, r5, r6, r7, r8, r9, r10) := by rw [if_pos rfl] at H; exact H
  clear H
  have H := H1
  clear H1
  replace H := Option.bind_eq_some_iff.mp H
  obtain ⟨⟨t131, t132, t133, t134, t135, t136, t137, t138, t139⟩, A60, H⟩ := H
  replace H : (some (true, t131, t132, t133, t134, t135, t136, t137, t138, t139)) = some (r1, r2, r3, r4, r5, r6, r7, r8, r9, r10) := H
  have A6 := Aside0.mk A60
  clear A60
  simp only [Option.some.injEq, Prod.mk.injEq] at H
  obtain ⟨rfl, rfl, rfl, rfl, rfl, rfl, rfl, rfl, rfl, rfl⟩ := H
  go_enter Tryz.func45, Tryz.ntmps45
  go_wp2_with (first | ((with_reducible refine gate_callee (f := 69) rfl ?_); refine goesL_ (some 10) rfl rfl Tryz.func69 (by kernel_rfl) rfl #[.pointer (some ⟨g, 0, none⟩), .int .i64 a1, .string a2] rfl (by (try simp only [List.map_toArray, List.map_cons, List.map_nil]); first | done | rfl | (simp only [List.length_drop, List.length_take]; rfl)) ?_; (with_reducible refine (query_reader_is.calls g s0_0 s0_1 s0_2 s0_3 s0_4 s0_5 s0_6 s0_7 s0_8 s0_9 s0_10 a1 a2 true t122 t123 t124 t125 t126 t127 t128 t129 t130 w0 _ ?side1 ?side2 A4.out).mono ?_); (case side1 => repeat (first | (with_reducible first | exact HI0.out | apply IsS60.alloc | apply IsS60.drewN | apply IsS60.drew | apply IsS60.set_0 | apply IsS60.set_1 | apply IsS60.set_2 | apply IsS60.set_3 | apply IsS60.set_4 | apply IsS60.set_6 | apply IsS60.set_8 | apply IsS60.set_9 | apply IsS60.set_10) | exact HI0.out)); (case side2 => repeat (first | (with_reducible first | exact HB.out | apply below_alloc | apply pw_below_drewN | apply below_drew1 | refine below_set ?_ (IsS60.ge HI0.out)) | exact HB.out)); rintro e w7 ⟨rfl, hi, hb, hk⟩; refine ⟨_, rfl, ?_⟩; have n0_ := Aside0.mk (KeepBut.trans (by repeat (first | (with_reducible first | exact HK.out | apply KeepBut.set_ | apply keep_drewN | apply keep_drew | apply keep_alloc) | exact HK.out)) hk (.inl rfl)); have n1_ := Aside0.mk (hb); have n2_ := Aside0.mk (hi); clear HK; clear HB; clear HI0; have HK := n0_; have HB := n1_; have HI0 := n2_; clear n0_ n1_ n2_; (try clear hb); (try clear hb2); (try clear hk); (try clear hi)) | ((with_reducible refine gate_callee (f := 44) rfl ?_); refine goesL_ (some 13) rfl rfl Tryz.func44 (by kernel_rfl) rfl #[.pointer (some ⟨g, 0, none⟩)] rfl (by (try simp only [List.map_toArray, List.map_cons, List.map_nil]); first | done | rfl | (simp only [List.length_drop, List.length_take]; rfl)) ?_; (with_reducible refine (query_reader_step.calls k g t122 t123 t124 t125 t126 s0_5 t127 s0_7 t128 t129 t130 t131 t132 t133 t134 t135 t136 t137 t138 t139 w0 _ ?side1 ?side2 A6.out).mono ?_); (case side1 => repeat (first | (with_reducible first | exact HI0.out | apply IsS60.alloc | apply IsS60.drewN | apply IsS60.drew | apply IsS60.set_0 | apply IsS60.set_1 | apply IsS60.set_2 | apply IsS60.set_3 | apply IsS60.set_4 | apply IsS60.set_6 | apply IsS60.set_8 | apply IsS60.set_9 | apply IsS60.set_10) | exact HI0.out)); (case side2 => repeat (first | (with_reducible first | exact HB.out | apply below_alloc | apply pw_below_drewN | apply below_drew1 | refine below_set ?_ (IsS60.ge HI0.out)) | exact HB.out)); rintro e w8 ⟨rfl, hi, hb, hk⟩; refine ⟨_, rfl, ?_⟩; have n0_ := Aside0.mk (KeepBut.trans (by repeat (first | (with_reducible first | exact HK.out | apply KeepBut.set_ | apply keep_drewN | apply keep_drew | apply keep_alloc) | exact HK.out)) hk (.inl rfl)); have n1_ := Aside0.mk (hb); have n2_ := Aside0.mk (hi); clear HK; clear HB; clear HI0; have HK := n0_; have HB := n1_; have HI0 := n2_; clear n0_ n1_ n2_; (try clear hb); (try clear hb2); (try clear hk); (try clear hi)))
  go_ret
  exact ⟨by first | rfl | (simp [errW_none, errW_some] <;> rfl) | (simp [*, errW_none, errW_some] <;> rfl), by repeat (first | (with_reducible first | exact HI0.out | apply IsS60.alloc | apply IsS60.drewN | apply IsS60.drew | apply IsS60.set_0 | apply IsS60.set_1 | apply IsS60.set_2 | apply IsS60.set_3 | apply IsS60.set_4 | apply IsS60.set_6 | apply IsS60.set_8 | apply IsS60.set_9 | apply IsS60.set_10) | exact HI0.out), by repeat (first | (with_reducible first | exact HB.out | apply below_alloc | apply pw_below_drewN | apply below_drew1 | refine below_set ?_ (IsS60.ge HI0.out)) | exact HB.out), by repeat (first | (with_reducible first | exact HK.out | apply KeepBut.set_ | apply keep_drewN | apply keep_drew | apply keep_alloc) | exact HK.out)⟩
 ·
  replace c5 := Bool.eq_false_iff.mpr c5
  subst c5
  have H1 : (some (false, t122, t123, t124, t125, t126, t127, t128, t129, t130)) = some (r1, r2, r3, r4, r5, r6, r7, r8, r9, r10) := by rw [if_neg (show ¬ (false = true) by decide)] at H; exact H
  clear H
  have H := H1
  clear H1
  simp only [Option.some.injEq, Prod.mk.injEq] at H
  obtain ⟨rfl, rfl, rfl, rfl, rfl, rfl, rfl, rfl, rfl, rfl⟩ := H
  go_enter Tryz.func45, Tryz.ntmps45
  go_wp2_with (first | ((with_reducible refine gate_callee (f := 69) rfl ?_); refine goesL_ (some 10) rfl rfl Tryz.func69 (by kernel_rfl) rfl #[.pointer (some ⟨g, 0, none⟩), .int .i64 a1, .string a2] rfl (by (try simp only [List.map_toArray, List.map_cons, List.map_nil]); first | done | rfl | (simp only [List.length_drop, List.length_take]; rfl)) ?_; (with_reducible refine (query_reader_is.calls g s0_0 s0_1 s0_2 s0_3 s0_4 s0_5 s0_6 s0_7 s0_8 s0_9 s0_10 a1 a2 false t122 t123 t124 t125 t126 t127 t128 t129 t130 w0 _ ?side1 ?side2 A4.out).mono ?_); (case side1 => repeat (first | (with_reducible first | exact HI0.out | apply IsS60.alloc | apply IsS60.drewN | apply IsS60.drew | apply IsS60.set_0 | apply IsS60.set_1 | apply IsS60.set_2 | apply IsS60.set_3 | apply IsS60.set_4 | apply IsS60.set_6 | apply IsS60.set_8 | apply IsS60.set_9 | apply IsS60.set_10) | exact HI0.out)); (case side2 => repeat (first | (with_reducible first | exact HB.out | apply below_alloc | apply pw_below_drewN | apply below_drew1 | refine below_set ?_ (IsS60.ge HI0.out)) | exact HB.out)); rintro e w9 ⟨rfl, hi, hb, hk⟩; refine ⟨_, rfl, ?_⟩; have n0_ := Aside0.mk (KeepBut.trans (by repeat (first | (with_reducible first | exact HK.out | apply KeepBut.set_ | apply keep_drewN | apply keep_drew | apply keep_alloc) | exact HK.out)) hk (.inl rfl)); have n1_ := Aside0.mk (hb); have n2_ := Aside0.mk (hi); clear HK; clear HB; clear HI0; have HK := n0_; have HB := n1_; have HI0 := n2_; clear n0_ n1_ n2_; (try clear hb); (try clear hb2); (try clear hk); (try clear hi)))
  go_ret
  exact ⟨by first | rfl | (simp [errW_none, errW_some] <;> rfl) | (simp [*, errW_none, errW_some] <;> rfl), by repeat (first | (with_reducible first | exact HI0.out | apply IsS60.alloc | apply IsS60.drewN | apply IsS60.drew | apply IsS60.set_0 | apply IsS60.set_1 | apply IsS60.set_2 | apply IsS60.set_3 | apply IsS60.set_4 | apply IsS60.set_6 | apply IsS60.set_8 | apply IsS60.set_9 | apply IsS60.set_10) | exact HI0.out), by repeat (first | (with_reducible first | exact HB.out | apply below_alloc | apply pw_below_drewN | apply below_drew1 | refine below_set ?_ (IsS60.ge HI0.out)) | exact HB.out), by repeat (first | (with_reducible first | exact HK.out | apply KeepBut.set_ | apply keep_drewN | apply keep_drew | apply keep_alloc) | exact HK.out)⟩
end Go.Proofs.YthhemephaabblaaGreatDoor.R
