/- Parts of the proof: query.Print: the walk. query.Print: its contract. A question's tokens, plain: what a text says. cairnref32.Print: the walk. Printed by rpr.py. cairnref32.Print: the walk. Printed by rpw.py. cairnref32.Print: its contract. -/
import Derived.Test.YthhemephaabblaaGreatDoorZBh
import Derived.Deep.DeepCutAuto
import Derived.Outline
import Derived.Deep.CutRange
import Derived.Test.YthhemephaabblaaGreatDoorProg
import Derived.Below
import Derived.Deep.Draws
import Derived.Deep.AppendLies
import Derived.Maps.AppendAt
import Derived.OwnWalk
import Derived.Laws.BytesArg
import Derived.Laws.MakeOwn
import Derived.Laws.OwnMore
import Derived.Deep.OwnRows
import Derived.Tactics
import Derived.Lib.ConvBytes
import Derived.Laws.Slices
import Derived.WalkKit
import Derived.KernelRfl
import Derived.RowKit3
import Derived.Deep.LoopGhost
import Derived.Deep.QuietTactic
import Derived.BigQuiet
import Derived.WideLaws
import Derived.Deep.CutBlock
import Derived.Deep.RegionHeld3
import Derived.Laws.Rows
import Derived.Lib.AppendStr
import Derived.ArgAppend
import Derived.Laws.IdiomCopy
import Derived.OrdersHeld
import Derived.Laws.BitsLemmas
import Derived.RowKit
import Derived.Test.YthhemephaabblaaGreatDoorZBg
import Derived.Test.YthhemephaabblaaGreatDoorZBa
import Derived.Test.YthhemephaabblaaGreatDoorZBb
namespace Go.Proofs.YthhemephaabblaaGreatDoor.Hq
open Go.RowKit Go.Proofs.YthhemephaabblaaGreatDoorW.PrintWords Go.Proofs.YthhemephaabblaaGreatDoorW.PrintLast Go.Proofs.YthhemephaabblaaGreatDoorW.PrintMore Go.Proofs.YthhemephaabblaaGreatDoor Go.Proofs.YthhemephaabblaaGreatDoor.Q
set_option linter.unusedVariables false
set_option linter.unusedSimpArgs false

/-- The call's own copy of the question. -/
def QBx (w : World) (g : Nat) (A0 : Option Addr) (c0 : Nat) (A2 : Option Addr) (c2 : Nat) (q : Qry) : Prop :=
  w.heap[g]? = some (.cells #[.slice A0 q.cols.length c0, .string (strB q.tab), .slice A2 q.wh.length c2, .string (strB q.ord), .bool q.down, .int .i64 q.lim] 25 (0, 0))

theorem spot_none {w : World} {ad : Addr} {v : Value} (h : w.cell? ad = some v) : ad = ⟨ad.block, ad.off, none⟩ := by
  have : ad.spot = none := by
    unfold World.cell? at h
    split at h
    · cases hs : ad.spot with
      | none => rfl
      | some s => rw [hs] at h; simp at h
    · cases h
  cases ad
  simp only at this
  subst this
  rfl
theorem strC_cells {w : World} {A : Option Addr} {n : Nat} {xs : List (List UInt8)} (h : Kd.C Kd.string w A n (xs.map strB)) (hp : 0 < n) : n = xs.length ∧ ∃ bk o, A = some ⟨bk, o, none⟩ ∧ bk < w.heap.size ∧ ∀ (j : Nat) x, xs[j]? = some x → w.cell? ⟨bk, o + j, none⟩ = some (sv x) := by
  have hn : n = xs.length := by have := h.1; rw [List.length_map] at this; exact this.symm
  obtain ⟨ad, hA, h0⟩ := Kd.at_string h 0 (by omega) (by omega)
  have e0 : ad.add (0 : Int).toNat = ad := by unfold Addr.add; simp
  rw [e0] at h0
  have he := spot_none h0
  refine ⟨hn, ad.block, ad.off, by rw [hA]; exact congrArg some he, World.block_lt_of_cell? w _ h0, fun j x hj => ?_⟩
  have hjl : j < xs.length := (List.getElem?_eq_some_iff.1 hj).1
  obtain ⟨ad', hA', h1⟩ := Kd.at_string h (j : Int) (by omega) (by omega)
  rw [hA] at hA'
  injection hA' with hA'
  subst hA'
  rw [rdOf_map xs j hjl, Int.toNat_natCast] at h1
  rw [he] at h1
  rw [addr_add] at h1
  rw [h1]
  have := (List.getElem?_eq_some_iff.1 hj).2
  rw [this]
  rfl
theorem join_calls (w : World) (A : Option Addr) (n c : Nat) (xs : List (List UInt8)) (sep : List UInt8) (h : Kd.C Kd.string w A n (xs.map strB)) (hp : 0 < n) (hc : n ≤ c)
    (hb : (Lib.join xs sep).length ≤ 281474976710656) (hl : n ≤ 140737488355328) :
    Calls Tryz.prog 27 #[.slice A n c, .string (strB sep)] w fun e w' => e = .returned (.string (strB (Lib.join xs sep))) ∧ Below w.heap.size w w' := by
  obtain ⟨rfl, bk, o, rfl, hbk, hcell⟩ := strC_cells h hp
  have e1 : (xs.map strB).map (·.data.toList) = xs := by
    rw [List.map_map]; exact (List.map_congr_left (fun b _ => rfl)).trans (List.map_id _)
  have := Tryz.strings_Join bk o c (xs.map strB) (strB sep) w (fun j x hj => by
    rw [List.getElem?_map] at hj
    cases hx : xs[j]? with
    | none => rw [hx] at hj; cases hj
    | some y =>
      rw [hx] at hj
      obtain rfl := Option.some.inj hj
      exact hcell j y hx) hbk (by rw [List.length_map]; exact hl) (by rw [List.length_map]; exact hc) (by rw [e1]; exact hb)
  rw [List.length_map, e1] at this
  exact this
theorem join_own (w : World) (B : Nat) (v : Value) (xs : List (List UInt8)) (sep : List UInt8) (h : Sr B w v xs) (hp : 0 < xs.length)
    (hb : (Lib.join xs sep).length ≤ 281474976710656) (hl : xs.length ≤ 140737488355328) :
    Calls Tryz.prog 27 #[v, .string (strB sep)] w fun e w' => e = .returned (.string (strB (Lib.join xs sep))) ∧ Below w.heap.size w w' := by
  obtain ⟨g, c, rfl, hc, _, hg, hcell⟩ := h.shape hp
  have e1 : (xs.map strB).map (·.data.toList) = xs := by
    rw [List.map_map]; exact (List.map_congr_left (fun b _ => rfl)).trans (List.map_id _)
  have := Tryz.strings_Join g 0 c (xs.map strB) (strB sep) w (fun j x hj => by
    rw [List.getElem?_map] at hj
    cases hx : xs[j]? with
    | none => rw [hx] at hj; cases hj
    | some y =>
      rw [hx] at hj
      obtain rfl := Option.some.inj hj
      exact hcell j y hx) hg (by rw [List.length_map]; exact hl) (by rw [List.length_map]; exact hc) (by rw [e1]; exact hb)
  rw [List.length_map, e1] at this
  exact this

theorem strC_lit4 (w : World) (a b c d : ByteArray) : Kd.C Kd.string (w.alloc (.cells #[.string a, .string b, .string c, .string d] 9)) (some ⟨w.heap.size, 0, none⟩) 4 [a, b, c, d] := by
  refine ⟨rfl, by omega, fun _ => ⟨_, rfl, fun j p hj => ?_⟩⟩
  have hb : (w.alloc (.cells #[.string a, .string b, .string c, .string d] 9)).heap[w.heap.size]? = some (.cells #[.string a, .string b, .string c, .string d] 9 (0, 0)) := heap_alloc_new _ _
  have hjl : j < 4 := (List.getElem?_eq_some_iff.1 hj).1
  refine ⟨[.string p], rfl, rfl, fun i u hu => ?_⟩
  have hi : i = 0 := by have := (List.getElem?_eq_some_iff.1 hu).1; simpa using this
  subst hi
  simp only [List.getElem?_cons_zero, Option.some.injEq] at hu
  subst hu
  show World.cell? _ (Addr.add ⟨w.heap.size, 0, none⟩ (j * 1 + 0)) = _
  rw [addr_add, Nat.mul_one, Nat.add_zero, Nat.zero_add]
  rw [cell_of_row _ _ _ _ 9 (0, 0) hb]
  match j, hjl, hj with
  | 0, _, hj => simpa using hj
  | 1, _, hj => simpa using hj
  | 2, _, hj => simpa using hj
  | 3, _, hj => simpa using hj
def opsL : List (List UInt8) := [[61], [33, 61], [60], [60, 61], [62], [62, 61]]
theorem operators_f : query_operators.f = some (opsL.map strB) := rfl
theorem opsL_get (o : Int) (h1 : 1 ≤ o) (h6 : o ≤ 6) : opsL[(o - 1).toNat]? = some (opT o) := by
  have : o = 1 ∨ o = 2 ∨ o = 3 ∨ o = 4 ∨ o = 5 ∨ o = 6 := by omega
  rcases this with rfl | rfl | rfl | rfl | rfl | rfl <;> rfl
theorem ops_calls (w : World) : Calls Tryz.prog 30 #[] w fun e w' => ∃ bk o c, e = .returned (.slice (some ⟨bk, o, none⟩) 6 c) ∧ (∀ (j : Nat) x, opsL[j]? = some x → w'.cell? ⟨bk, o + j, none⟩ = some (sv x)) ∧ Ext w w' := by
  refine (query_operators.calls (opsL.map strB) w operators_f).mono ?_
  rintro e w' ⟨v, rfl, hR, hB⟩
  obtain ⟨A, c, rfl, hc, hC⟩ := Kd.R_reads hR
  obtain ⟨hn, bk, o, rfl, hbk, hcell⟩ := strC_cells hC (by decide)
  exact ⟨bk, o, c, rfl, hcell, hB⟩
theorem sr_run_app {B b c : Nat} {W : World} (ty : TypeId) {v : Value} {xs ys : List (List UInt8)} {cs : Array Value} {fr : Nat × Nat} (hO : Sr B W v xs) (hb : W.heap[b]? = some (.cells cs 9 fr)) (hcs : cs.toList = ys.map sv) (hB : B ≤ W.heap.size) (hl : xs.length + ys.length ≤ 1000000) :
    ∃ v1 w1, (Builtin.append_ #[22, 22] ty #[v, .slice (some ⟨b, 0, none⟩) ys.length c]).run Tryz.prog W = .ok v1 w1 ∧ Sr B w1 v1 (xs ++ ys) ∧ W.grownBy w1 v.ownBlock ∧ Below B W w1 := by
  obtain ⟨i0, hi, hzz⟩ := Option.map_eq_some_iff.1 Hq.info9
  simp only [Prod.mk.injEq] at hzz
  obtain ⟨hz0, hz1, hz2⟩ := hzz
  obtain ⟨v1, w1, hr, hown, hg, _, _⟩ := run_append_own_at (P := Tryz.prog) W B 22 ty 9 i0 (.string ⟨#[]⟩) 1 16 Tryz.underlying22 hi hz0 hz1 hz2 rfl (by decide) v xs.length (xs.map sv) hO ⟨b, 0, none⟩ ys.length c (ys.map sv) (by simp) (by rw [← hcs]; exact World.news_of_block hb) (sv_one ys) (by simp only [maxLen]; omega) (by omega) hB
  refine ⟨v1, w1, hr, ?_, hg, (Below.refl B W).grown hg hB (own_base hO)⟩
  unfold Sr
  rw [List.length_append, List.map_append]
  exact hown

theorem nDigits_le : ∀ (k u : Nat), 0 < k → u < 10 ^ k → Lib.nDigits u ≤ k
  | k + 1, u, _, h => by
    unfold Lib.nDigits
    by_cases hu : u < 10
    · rw [dif_pos hu]; omega
    · rw [dif_neg hu]
      rcases Nat.eq_zero_or_pos k with rfl | hk
      · simp at h; omega
      · have := nDigits_le k (u / 10) hk (by rw [Nat.pow_succ] at h; omega)
        omega
theorem itoa_le (n : Int) (h0 : 0 ≤ n) (h1 : n ≤ 999999999) : (Lib.itoa n).length ≤ 20 := by
  unfold Lib.itoa
  rw [if_neg (by omega), Lib.decDigits_length]
  exact Nat.le_trans (nDigits_le 9 n.toNat (by omega) (by omega)) (by omega)
theorem wordsQ_le {q : Qry} (h : MayP q) : ∀ x ∈ wordsQ q, x.length ≤ 5000 := by
  have hw : ∀ (l : List Tst) (i : Nat), (∀ t ∈ l, t.col.length ≤ 16 ∧ t.val.length ≤ 1024) → ∀ x ∈ whW i l, x.length ≤ 5000 := by
    intro l
    induction l with
    | nil => intro i _ x hx; cases hx
    | cons t l ih =>
      intro i ht x hx
      simp only [whW, List.mem_append] at hx
      rcases hx with hx | hx
      · have h1 := ht t (by simp)
        have h2 := esc_le t.val
        simp only [testW, List.mem_cons, List.not_mem_nil, or_false] at hx
        rcases hx with rfl | rfl | rfl | rfl
        · split <;> simp
        · omega
        · unfold opT; repeat' split
          all_goals simp
        · simp only [List.length_append, List.length_cons, List.length_nil]; omega
      · exact ih (i + 1) (fun t h => ht t (by simp [h])) x hx
  intro x hx
  simp only [wordsQ, List.mem_append] at hx
  have hc := nm_len h.tab
  have hcols : (colsT q.cols).length ≤ 5000 := by
    unfold colsT
    split
    · simp
    · have := join_le q.cols [44, 32] 16 (fun x hx => nm_len (h.colsB x hx))
      have h8 := h.cols
      have h3 : q.cols.length * (16 + [(44 : UInt8), 32].length) ≤ 8 * 18 := Nat.mul_le_mul h8 (by simp)
      omega
  rcases hx with (((hx | hx) | hx) | hx) | hx
  · simp only [headW, List.mem_cons, List.not_mem_nil, or_false] at hx
    rcases hx with rfl | rfl | rfl | rfl
    · simp
    · exact hcols
    · simp
    · omega
  · exact hw q.wh 0 (fun t ht => ⟨nm_len (h.whB t ht).1, (h.whB t ht).2.2.2⟩) x hx
  · unfold ordW at hx
    split at hx
    · cases hx
    · have := ord_le h
      simp only [List.mem_cons, List.not_mem_nil, or_false] at hx
      rcases hx with rfl | rfl | rfl
      · simp
      · simp
      · omega
  · unfold downW at hx
    split at hx
    · simp only [List.mem_cons, List.not_mem_nil, or_false] at hx
      subst hx
      simp
    · cases hx
  · unfold limW at hx
    split at hx
    · simp only [List.mem_cons, List.not_mem_nil, or_false] at hx
      rcases hx with rfl | rfl
      · simp
      · have := itoa_le q.lim h.lim0 h.lim1; omega
    · cases hx

/-- What is known of the words that are laid, and of the call's own copy of the question. -/
def Stq (A0 : Option Addr) (c0 : Nat) (A2 : Option Addr) (c2 : Nat) (q : Qry) (w wr : World) (v : Value) (xs : List (List UInt8)) : Prop :=
  Sr (w.heap.size + 1) wr v xs ∧ QBx wr w.heap.size A0 c0 A2 c2 q ∧ Below w.heap.size w wr ∧ w.heap.size + 1 ≤ wr.heap.size
theorem Stq.app {A0 : Option Addr} {c0 : Nat} {A2 : Option Addr} {c2 : Nat} {q : Qry} {w wr w1 : World} {v v1 : Value} {xs ys : List (List UInt8)} (h : Stq A0 c0 A2 c2 q w wr v xs) (hS : Sr (w.heap.size + 1) w1 v1 ys) (hB : Below (w.heap.size + 1) wr w1) : Stq A0 c0 A2 c2 q w w1 v1 ys := by
  refine ⟨hS, ?_, h.2.2.1.trans (hB.mono (by omega)), ?_⟩
  · have h2 := hB.block w.heap.size (by omega)
    unfold QBx
    rw [h2]
    exact h.2.1
  · have := hB.size; have := h.2.2.2; omega
theorem Stq.ext {A0 : Option Addr} {c0 : Nat} {A2 : Option Addr} {c2 : Nat} {q : Qry} {w wr w1 : World} {v : Value} {xs : List (List UInt8)} (h : Stq A0 c0 A2 c2 q w wr v xs) (hE : Ext wr w1) : Stq A0 c0 A2 c2 q w w1 v xs :=
  h.app (h.1.ext hE) (Below.mono hE h.2.2.2)

set_option maxRecDepth 100000 in
set_option maxHeartbeats 3200000 in
theorem print_true (k : Nat) (A0 : Option Addr) (c0 : Nat) (A2 : Option Addr) (c2 : Nat) (q : Qry) (w : World) (hr0 : Kd.C Kd.string w A0 q.cols.length (q.cols.map strB)) (hc0 : q.cols.length ≤ c0) (hr2 : Kd.C k37 w A2 q.wh.length (q.wh.map t37)) (hc2 : q.wh.length ≤ c2) (hG : Glob w)
    (hm : query_Query_may.f k (q.cols.map strB) (strB q.tab) (q.wh.map t37) (strB q.ord) q.down q.lim = some true) (hp : MayP q) (l : List UInt8) (r : Int) (hR : (if (textQ q).length ≤ 1024 then (textQ q, (0 : Int)) else ([], 320)) = (l, r)) :
    Calls Tryz.prog 13 #[.agg #[.slice A0 q.cols.length c0, .string (strB q.tab), .slice A2 q.wh.length c2, .string (strB q.ord), .bool q.down, .int .i64 q.lim]] w fun e w' => e = .returned (.tuple #[.string (strB l), .int .i64 r]) ∧ Below w.heap.size w w' := by
  have hcl := hp.cols
  have hwl := hp.wh
  have hcall : ∀ W (h : Kd.C Kd.string W A0 q.cols.length (q.cols.map strB)) (h' : Kd.C k37 W A2 q.wh.length (q.wh.map t37)), Calls Tryz.prog 26 #[.agg #[.slice A0 q.cols.length c0, .string (strB q.tab), .slice A2 q.wh.length c2, .string (strB q.ord), .bool q.down, .int .i64 q.lim]] W fun e w' => e = .returned (.bool true) ∧ Below W.heap.size W w' := by
    intro W h h'
    have := query_Query_may.calls k A0 c0 (q.cols.map strB) (strB q.tab) A2 c2 (q.wh.map t37) (strB q.ord) q.down q.lim true W
    rw [List.length_map, List.length_map] at this
    exact this h hc0 h' hc2 hm
  have HC0 := Aside0.mk hr0
  have HR := Aside0.mk hR
  clear hR
  have HC2 := Aside0.mk hr2
  have HM := Aside0.mk hm
  clear hr0 hr2 hm
  have HP := Aside0.mk hp
  clear hp
  go_enter Tryz.func13, Tryz.ntmps13
  go_upto_if 16 with (go_at_call 26; (with_reducible refine (hcall _ ?h0 ?h2).mono ?_); rotate_left; rotate_left; rintro e w1 ⟨rfl, hb1⟩; have hQ1 : QBx w1 w.heap.size A0 c0 A2 c2 q := heap_below (heap_alloc_new _ _) hb1; have hB1 : Below w.heap.size w w1 := below_step ((Below.refl _ _).alloc (Nat.le_refl _) _) hb1; have k0 := blk_cell hQ1 0; have HQ1 := Aside0.mk hQ1; have HB1 := Aside0.mk hB1; clear hQ1 hB1 hb1)
  case h0 => exact Kd.C_below HC0.out ((Below.refl _ _).alloc (Nat.le_refl _) _)
  case h2 => exact Kd.C_below HC2.out ((Below.refl _ _).alloc (Nat.le_refl _) _)
  go_cut [4] from 16 to 19 (fun (s4 : Value) wx => s4 = .string (strB (colsT q.cols)) ∧ QBx wx w.heap.size A0 c0 A2 c2 q ∧ Below w.heap.size w wx)
  case first =>
    by_cases he : q.cols = []
    · have he0 : q.cols.length = 0 := by rw [he]; rfl
      have hd : decide ((0 : Int) < (0 : Int)) = false := by decide
      go_wp2_with fail
      go_meet
      case rel => exact ⟨by unfold colsT; rw [if_pos he]; rfl, HQ1.out, HB1.out⟩
    · have he0 : 0 < q.cols.length := List.length_pos_iff.2 he
      have he1 : decide (0 < q.cols.length) = true := decide_eq_true he0
      have hj : Calls Tryz.prog 27 #[.slice A0 q.cols.length c0, .string ⟨#[44, 32]⟩] w1 fun e w' => e = .returned (.string (strB (Lib.join q.cols [44, 32]))) ∧ Below w1.heap.size w1 w' := join_calls w1 A0 q.cols.length c0 q.cols [44, 32] (Kd.C_below HC0.out HB1.out) he0 hc0 (by have := join_le q.cols [44, 32] 16 (fun x hx => nm_len (HP.out.colsB x hx)); simp at this; omega) (by omega)
      go_wp2_with (go_at_call 27; (with_reducible refine hj.mono ?_); rintro e w2 ⟨rfl, hb2⟩)
      go_meet
      case rel => exact ⟨by unfold colsT; rw [if_neg he], heap_below HQ1.out hb2, below_step HB1.out hb2⟩
  case rest =>
  obtain ⟨rfl, hQ, hB⟩ := hcut
  have k0 := blk_cell hQ 0
  have k1 := blk_cell hQ 1
  have k2 := blk_cell hQ 2
  have k3 := blk_cell hQ 3
  have k4 := blk_cell hQ 4
  have k5 := blk_cell hQ 5
  obtain ⟨w2, hw2⟩ : ∃ w2, w2 = wc := ⟨_, rfl⟩
  subst hw2
  have HQ := Aside0.mk hQ
  have HB := Aside0.mk hB
  clear hQ hB HQ1 HB1 k0
  have hsz : w.heap.size + 1 ≤ w2.heap.size := blk_lt HQ.out
  have hlt : w.heap.size < w2.heap.size := by omega
  go_wp2_with fail
  go_loopw [5, 27] (fun s5 s27 wr => ∃ i : Nat, i ≤ q.wh.length ∧ s27 = .int .i64 i ∧ Sr (w.heap.size + 1) wr s5 (headW q ++ whW 0 (q.wh.take i)) ∧ QBx wr w.heap.size A0 c0 A2 c2 q ∧ Below w.heap.size w wr ∧ w.heap.size + 1 ≤ wr.heap.size) (fun _ v _ => q.wh.length - (intOf v).toNat)
  case atStart =>
    refine ⟨0, by omega, rfl, ?_, (show QBx w2 w.heap.size A0 c0 A2 c2 q from HQ.out) |> fun h => heap_below h ((Below.refl _ _).alloc (Nat.le_refl _) _), HB.out.alloc (by omega) _, by simp; omega⟩
    rw [List.take_zero]
    show Sr _ _ _ (headW q ++ [])
    rw [List.append_nil]
    exact Sr.lit (xs := headW q) hsz rfl (by simp [headW])
  case round =>
    obtain ⟨i, hi, rfl, hS, hQ, hB, hz⟩ := hrel
    have hltr : w.heap.size < wr.heap.size := by omega
    by_cases hlt : i < q.wh.length
    · have hb : (i : Int) < q.wh.length := by omega
      have hb0 : (0 : Int) ≤ i := by omega
      obtain ⟨t, ht⟩ : ∃ t, t = q.wh[i] := ⟨_, rfl⟩
      obtain ⟨ad, hA, c1, c2', c3⟩ := at_T37 HC2.out (i : Int) (by omega) hb
      rw [rd37 _ _ hlt, ← ht] at c1 c2' c3
      simp only [t37, Int.toNat_natCast] at c1 c2' c3
      have hblk := World.block_lt_of_cell? w _ c1
      replace c1 := (hB.cell hblk).trans c1
      replace c2' := (hB.cell (p := ⟨_, _, none⟩) hblk).trans c2'
      replace c3 := (hB.cell (p := ⟨_, _, none⟩) hblk).trans c3
      have HS := Aside0.mk hS
      have HQr := Aside0.mk hQ
      have HBr := Aside0.mk hB
      have HT := Aside0.mk ht
      clear hS hQ hB ht
      subst hA
      go_upto_if 33 with fail
      have HLW := Aside0.mk (show (headW q ++ whW 0 (q.wh.take i)).length ≤ 40 by rw [List.length_append, whW_length, List.length_take]; simp only [headW, List.length_cons, List.length_nil]; omega)
      have hown := own_lt HS.out
      have HO5 := Aside0.mk hown
      have HKB : Aside0 (∀ W : World, (wr.alloc (.cells #[.string (strB t.col), .int .i64 t.op, .string (strB t.val)] 37)).grownBy W (Value.ownBlock u5) → Below (w.heap.size + 1) (wr.alloc (.cells #[.string (strB t.col), .int .i64 t.op, .string (strB t.val)] 37)) W → W.heap[wr.heap.size]? = some (.cells #[.string (strB t.col), .int .i64 t.op, .string (strB t.val)] 37 (0, 0)) ∧ QBx W w.heap.size A0 c0 (some ad) c2 q ∧ Below w.heap.size w W ∧ wr.heap.size + 1 ≤ W.heap.size) := by
        refine ⟨fun W hG hBW => ⟨?_, ?_, ?_, ?_⟩⟩
        · rw [hG.block wr.heap.size (by simp) (fun e => by have := (hown _ e.symm).2; omega)]
          exact heap_alloc_new _ _
        · have := hBW.block w.heap.size (by omega)
          rw [QBx, this, Below.heap_alloc _ _ _ (by omega)]
          exact HQr.out
        · exact (HBr.out.alloc (by omega) _).trans (hBW.mono (by omega))
        · have := hG.size; simp at this; omega
      clear hown
      go_cut [5] from 33 to 39 (fun (s5 : Value) wx => Sr (w.heap.size + 1) wx s5 (headW q ++ whW 0 (q.wh.take i) ++ [if i = 0 then [119, 104, 101, 114, 101] else [97, 110, 100]]) ∧ wx.heap[wr.heap.size]? = some (.cells #[.string (strB t.col), .int .i64 t.op, .string (strB t.val)] 37 (0, 0)) ∧ QBx wx w.heap.size A0 c0 (some ad) c2 q ∧ Below w.heap.size w wx ∧ wr.heap.size + 1 ≤ wx.heap.size)
      case first =>
        by_cases hi0 : i = 0
        · have hd : ((i : Int) == 0) = true := by simp [hi0]
          have HI := Aside0.mk hi0
          clear hi0
          go_wp2_with ((at_builtin; refine sr_app (W := wr.alloc (.cells #[.string (strB t.col), .int .i64 t.op, .string (strB t.val)] 37)) (w.heap.size + 1) rfl _ _ rfl u5 (headW q ++ whW 0 (q.wh.take i)) [[119, 104, 101, 114, 101]] #[.string ⟨#[119, 104, 101, 114, 101]⟩] rfl ?sx rfl rfl ?s1 ?s2 ?s3 ?_; (case sx => simp [Act.eval]); (case s1 => exact HS.out.ext ((Ext.refl _).alloc _)); (case s2 => simp; omega); (case s3 => have := HLW.out; simp only [List.length_cons, List.length_nil]; omega); intro v1 w1 hS1 hB1 hG1; have HS1 := Aside0.mk hS1; have HB1 := Aside0.mk hB1; have HG1 := Aside0.mk hG1; clear hS1 hB1 hG1))
          go_meet
          case rel =>
            obtain ⟨p1, p2, p3, p4⟩ := HKB.out w1 HG1.out HB1.out
            exact ⟨by rw [if_pos HI.out]; exact HS1.out, p1, p2, p3, p4⟩
        · have hd : ((i : Int) == 0) = false := by simp; omega
          have HI := Aside0.mk hi0
          clear hi0
          go_wp2_with ((at_builtin; refine sr_app (W := wr.alloc (.cells #[.string (strB t.col), .int .i64 t.op, .string (strB t.val)] 37)) (w.heap.size + 1) rfl _ _ rfl u5 (headW q ++ whW 0 (q.wh.take i)) [[97, 110, 100]] #[.string ⟨#[97, 110, 100]⟩] rfl ?sx rfl rfl ?s1 ?s2 ?s3 ?_; (case sx => simp [Act.eval]); (case s1 => exact HS.out.ext ((Ext.refl _).alloc _)); (case s2 => simp; omega); (case s3 => have := HLW.out; simp only [List.length_cons, List.length_nil]; omega); intro v1 w1 hS1 hB1 hG1; have HS1 := Aside0.mk hS1; have HB1 := Aside0.mk hB1; have HG1 := Aside0.mk hG1; clear hS1 hB1 hG1))
          go_meet
          case rel =>
            obtain ⟨p1, p2, p3, p4⟩ := HKB.out w1 HG1.out HB1.out
            exact ⟨by rw [if_neg HI.out]; exact HS1.out, p1, p2, p3, p4⟩
      case rest =>
      obtain ⟨hS3, hT3, hQ3, hB3, hz3⟩ := hcut
      obtain ⟨w3, hw3⟩ : ∃ w3, w3 = wc := ⟨_, rfl⟩
      subst hw3
      have HS3 := Aside0.mk hS3
      have HT3 := Aside0.mk hT3
      have HQ3 := Aside0.mk hQ3
      have HB3 := Aside0.mk hB3
      clear hS3 hT3 hQ3 hB3 HS HQr HBr HKB c1 c2' c3 hblk HO5
      have HV := Aside0.mk (show t.val.length ≤ 1000000000000 by have := (HP.out.whB t (by rw [HT.out]; exact List.getElem_mem hlt)).2.2.2; omega)
      go_wp2_with fail
      refine ext_tail2 6 [(0, 40), (1, 41), (2, 42), (3, 43)] [0, 1, 2, 3] (fun i w v => match i with | 0 => ∃ b, v = .slice (some ⟨b, 0, none⟩) 4 4 ∧ Kd.C Kd.string w (some ⟨b, 0, none⟩) 4 [s92, s9292, s34, s9234] | 1 => ∃ g A1 c1, v = .pointer (some ⟨g, 0, none⟩) ∧ RepB w g 0 0 .nilIface (.slice A1 4 c1) ∧ Kd.C Kd.string w A1 4 [s92, s9292, s34, s9234] ∧ (∀ ad, A1 = some ad → ad.block < g) ∧ w3.heap.size ≤ g | 2 => v = .pointer (some ⟨wr.heap.size, 2, none⟩) | 3 => v = .string (strB t.val) | _ => True) (by kernel_rfl) (by kernel_rfl) (by rfl) rfl ?mono13 ?steps13 ?fin13
      case mono13 =>
        intro i w w' v h hE
        match i with
        | 0 => exact (by obtain ⟨b, h1, h2⟩ := h; exact ⟨b, h1, Kd.C_below h2 hE⟩)
        | 1 => exact (by obtain ⟨g, A1, c1, h1, h2, h3, h4, h5⟩ := h; exact ⟨g, A1, c1, h1, heap_below h2 hE, Kd.C_below h3 hE, h4, h5⟩)
        | 2 => exact h
        | 3 => exact h
        | _ + 4 => trivial
      case steps13 =>
        refine stepE_cons ⟨_, rfl, fun a w hE hH => ?_⟩ ?_
        ·
          refine Or.inl ⟨(rfl), goodE_new (.slice (some ⟨w.heap.size, 0, none⟩) 4 4) (w.alloc (.cells #[.string s92, .string s9292, .string s34, .string s9234] 9)) (by simp [execOp, Act.eval, go_sem]; rfl) ((Ext.refl w).alloc _) ⟨w.heap.size, rfl, ?_⟩⟩
          exact strC_lit4 w s92 s9292 s34 s9234
        refine stepE_cons ⟨_, rfl, fun a w hE hH => ?_⟩ ?_
        ·
          obtain ⟨v40, e40, g40⟩ := hH.dep 0 40 rfl (by kernel_rfl)
          obtain ⟨b, rfl, hb⟩ := g40
          refine Or.inl ⟨(rfl), goodE_call rfl #[.slice (some ⟨b, 0, none⟩) 4 4] (by simp [Act.eval, e40]) _ Tryz.func28 (by kernel_rfl) (by kernel_rfl) ?_⟩
          refine (newRep_calls _ _ _ _ _ _ w hb).mono ?_
          rintro e w' ⟨g, A1, c1, rfl, h1, h2, h3, h4, h5⟩
          exact ⟨_, rfl, h5, g, A1, c1, rfl, h1, h2, h3, Nat.le_trans (by have := hE.size; simpa using this) h4⟩
        refine stepE_cons ⟨_, rfl, fun a w hE hH => ?_⟩ ?_
        ·
          have e7 : a.tmps[7]? = some (.pointer (some ⟨wr.heap.size, 0, none⟩)) := hH.old 7 rfl
          exact Or.inl ⟨rfl, goodE_val (.pointer (some ⟨wr.heap.size, 2, none⟩)) (by simp [execOp, Act.eval, e7, go_sem]) rfl⟩
        refine stepE_cons ⟨_, rfl, fun a w hE hH => ?_⟩ ?_
        ·
          obtain ⟨v42, e42, g42⟩ := hH.dep 2 42 rfl (by kernel_rfl)
          have q42 : v42 = .pointer (some ⟨wr.heap.size, 2, none⟩) := g42
          subst q42
          have hcell : w.cell? ⟨wr.heap.size, 2, none⟩ = some (.string (strB t.val)) := (blk_cell (heap_below (blk_drew HT3.out) hE) 2).trans rfl
          exact Or.inl ⟨(rfl), goodE_val (.string (strB t.val)) (by simp [execOp, Act.eval, e42, hcell, go_sem]) rfl⟩
        exact stepE_nil
      refine ⟨⟨(some 44), .call ⟨.value (.func 29), #[(.tmp 41), (.tmp 43)], #[76, 9]⟩, _, _, _, none⟩, ⟨(some 8), .assign (.tmp 44), _, _, _, none⟩, rfl, rfl, ?_⟩
      rintro vals wz hE hV
      have k41 : ∃ g A1 c1, (vals 1) = .pointer (some ⟨g, 0, none⟩) ∧ RepB wz g 0 0 .nilIface (.slice A1 4 c1) ∧ Kd.C Kd.string wz A1 4 [s92, s9292, s34, s9234] ∧ (∀ ad, A1 = some ad → ad.block < g) ∧ w3.heap.size ≤ g := hV 1 (by simp) rfl
      have k43 : vals 3 = .string (strB t.val) := hV 3 (by simp) rfl
      refine ⟨rfl, ?_⟩
      intro KK hKK
      simp only [List.map_cons, List.map_nil, putAll, Act.put, List.setIfInBounds_toArray, List.set_cons_zero, List.set_cons_succ, k43]
      obtain ⟨g, A1, c1, q41, hRep, hRC, hRA, hRg⟩ := k41
      rw [q41]
      refine finE_call rfl #[.pointer (some ⟨g, 0, none⟩), .string (strB t.val)] (by simp [Act.eval]) _ Tryz.func29 (by kernel_rfl) (by kernel_rfl) ?_
      refine (replace_calls g A1 c1 t.val wz hRep hRC hRA (by rw [HT.out] at *; exact HV.out)).mono ?_
      rintro e w4 ⟨rfl, hb4⟩
      refine ⟨_, rfl, hKK _ _ ⟨rfl, ?_⟩⟩
      intro K2 hK2
      refine finE_val (w1 := w4) (v := .string (strB (esc t.val))) (by simp [execOp, Act.eval, Act.put]) (hK2 _ _ ?_)
      have hsz4 : w3.heap.size ≤ w4.heap.size := by have h1 := hE.size; have h2 := hb4.size; simp at h1; omega
      have hE4 : Ext w3 w4 := Below.trans ((Ext.to_drew _).trans hE) (hb4.mono hRg)
      have HE4 := Aside0.mk hE4
      have HZ4 := Aside0.mk hsz4
      clear hE hV q41 hRep hRC hRA hb4 hsz4 hE4 hKK hK2 k43
      obtain ⟨HOP⟩ : Nonempty (Aside0 (1 ≤ t.op ∧ t.op ≤ 6)) := ⟨⟨by have := HP.out.whB t (by rw [HT.out]; exact List.getElem_mem hlt); exact ⟨this.2.1, this.2.2.1⟩⟩⟩
      have HV2 := Aside0.mk (show (esc t.val).length ≤ 4000 by have := esc_le t.val; have := (HP.out.whB t (by rw [HT.out]; exact List.getElem_mem hlt)).2.2.2; omega)
      go_wp2_with fail
      refine ext_tail2 15 [(0, 45), (1, 46), (2, 47), (3, 48), (4, 49), (5, 50), (6, 51), (7, 52), (8, 53), (9, 54), (10, 55), (11, 56), (12, 57)] [0, 1, 2, 3, 4, 5, 6, 7, 8, 9, 10, 11, 12] (fun i w v => match i with | 0 => v = u5 | 1 => v = .pointer (some ⟨wr.heap.size, 0, none⟩) | 2 => v = .string (strB t.col) | 3 => ∃ bk o c, v = .slice (some ⟨bk, o, none⟩) 6 c ∧ ∀ (j : Nat) x, opsL[j]? = some x → w.cell? ⟨bk, o + j, none⟩ = some (sv x) | 4 => v = .pointer (some ⟨wr.heap.size, 1, none⟩) | 5 => v = .int .i64 t.op | 6 => v = .int .i64 (t.op - 1) | 7 => ∃ ad, v = .pointer (some ad) ∧ w.cell? ad = some (sv (opT t.op)) | 8 => v = .string (strB (opT t.op)) | 9 => v = .string (strB (esc t.val)) | 10 => v = .string (strB ([34] ++ esc t.val)) | 11 => v = .string (strB ([34] ++ esc t.val ++ [34])) | 12 => ∃ b, v = .slice (some ⟨b, 0, none⟩) 3 3 ∧ w.heap[b]? = some (.cells #[.string (strB t.col), .string (strB (opT t.op)), .string (strB ([34] ++ esc t.val ++ [34]))] 9 (0, 0)) | _ => True) (by kernel_rfl) (by kernel_rfl) (by rfl) rfl ?mono14 ?steps14 ?fin14
      case mono14 =>
        intro i w w' v h hE
        match i with
        | 0 => exact h
        | 1 => exact h
        | 2 => exact h
        | 3 => exact (by obtain ⟨bk, o, c, h1, h2⟩ := h; exact ⟨bk, o, c, h1, fun j x hj => cell_ext hE (h2 j x hj)⟩)
        | 4 => exact h
        | 5 => exact h
        | 6 => exact h
        | 7 => exact (by obtain ⟨ad, h1, h2⟩ := h; exact ⟨ad, h1, cell_ext hE h2⟩)
        | 8 => exact h
        | 9 => exact h
        | 10 => exact h
        | 11 => exact h
        | 12 => exact (by obtain ⟨b, h1, h2⟩ := h; exact ⟨b, h1, heap_below h2 hE⟩)
        | _ + 13 => trivial
      case steps14 =>
        refine stepE_cons ⟨_, rfl, fun a w hE hH => ?_⟩ ?_
        ·
          have e5 : a.tmps[5]? = some (u5) := hH.old 5 rfl
          exact Or.inl ⟨rfl, goodE_move _ rfl (eval_of e5) rfl⟩
        refine stepE_cons ⟨_, rfl, fun a w hE hH => ?_⟩ ?_
        ·
          have e7 : a.tmps[7]? = some (.pointer (some ⟨wr.heap.size, 0, none⟩)) := hH.old 7 rfl
          exact Or.inl ⟨rfl, goodE_val (.pointer (some ⟨wr.heap.size, 0, none⟩)) (by simp [execOp, Act.eval, e7, go_sem]) rfl⟩
        refine stepE_cons ⟨_, rfl, fun a w hE hH => ?_⟩ ?_
        ·
          obtain ⟨v46, e46, g46⟩ := hH.dep 1 46 rfl (by kernel_rfl)
          have q46 : v46 = .pointer (some ⟨wr.heap.size, 0, none⟩) := g46
          subst q46
          have hcell : w.cell? ⟨wr.heap.size, 0, none⟩ = some (.string (strB t.col)) := (blk_cell (heap_below (blk_drew (heap_below HT3.out HE4.out)) hE) 0).trans rfl
          exact Or.inl ⟨(rfl), goodE_val (.string (strB t.col)) (by simp [execOp, Act.eval, e46, hcell, go_sem]) rfl⟩
        refine stepE_cons ⟨_, rfl, fun a w hE hH => ?_⟩ ?_
        ·
          refine Or.inl ⟨(rfl), goodE_call rfl #[] (by simp) _ Tryz.func30 (by kernel_rfl) (by kernel_rfl) ?_⟩
          refine (ops_calls w).mono ?_
          rintro e w' ⟨bk, o, c, rfl, h1, h2⟩
          exact ⟨_, rfl, h2, bk, o, c, rfl, h1⟩
        refine stepE_cons ⟨_, rfl, fun a w hE hH => ?_⟩ ?_
        ·
          have e7 : a.tmps[7]? = some (.pointer (some ⟨wr.heap.size, 0, none⟩)) := hH.old 7 rfl
          exact Or.inl ⟨rfl, goodE_val (.pointer (some ⟨wr.heap.size, 1, none⟩)) (by simp [execOp, Act.eval, e7, go_sem]) rfl⟩
        refine stepE_cons ⟨_, rfl, fun a w hE hH => ?_⟩ ?_
        ·
          obtain ⟨v49, e49, g49⟩ := hH.dep 4 49 rfl (by kernel_rfl)
          have q49 : v49 = .pointer (some ⟨wr.heap.size, 1, none⟩) := g49
          subst q49
          have hcell : w.cell? ⟨wr.heap.size, 1, none⟩ = some (.int .i64 t.op) := (blk_cell (heap_below (blk_drew (heap_below HT3.out HE4.out)) hE) 1).trans rfl
          exact Or.inl ⟨(rfl), goodE_val (.int .i64 t.op) (by simp [execOp, Act.eval, e49, hcell, go_sem]) rfl⟩
        refine stepE_cons ⟨_, rfl, fun a w hE hH => ?_⟩ ?_
        ·
          obtain ⟨v50, e50, g50⟩ := hH.dep 5 50 rfl (by kernel_rfl)
          have q50 : v50 = .int .i64 t.op := g50
          subst q50
          exact Or.inl ⟨(rfl), goodE_val (.int .i64 (t.op - 1)) (by have h1 := HOP.out; have h2 : IntKind.i64.wrap (t.op - 1) = t.op - 1 := IntWalk.i64_in (t.op - 1) (by omega); simp [execOp, Act.eval, e50, go_sem, h2]) rfl⟩
        refine stepE_cons ⟨_, rfl, fun a w hE hH => ?_⟩ ?_
        ·
          obtain ⟨v48, e48, g48⟩ := hH.dep 3 48 rfl (by kernel_rfl)
          obtain ⟨v51, e51, g51⟩ := hH.dep 6 51 rfl (by kernel_rfl)
          have q51 : v51 = .int .i64 (t.op - 1) := g51
          subst q51
          obtain ⟨bk, o, c, rfl, hb⟩ := g48
          have h1 := HOP.out
          have h2 : (0 : Int) ≤ t.op - 1 := by omega
          have h3 : t.op - 1 < 6 := by omega
          refine Or.inl ⟨(rfl), goodE_val (.pointer (some ((⟨bk, o, none⟩ : Addr).add (t.op - 1).toNat))) (by simp [execOp, Act.eval, e48, e51, go_sem, h2, h3, h1.1, show ¬ t.op < 1 by omega]) ⟨_, rfl, ?_⟩⟩
          rw [addr_add]
          exact hb _ _ (opsL_get t.op h1.1 h1.2)
        refine stepE_cons ⟨_, rfl, fun a w hE hH => ?_⟩ ?_
        ·
          obtain ⟨v52, e52, g52⟩ := hH.dep 7 52 rfl (by kernel_rfl)
          obtain ⟨ad, rfl, hc⟩ := g52
          exact Or.inl ⟨(rfl), goodE_val (.string (strB (opT t.op))) (by simp [execOp, Act.eval, e52, hc, go_sem, sv]) rfl⟩
        refine stepE_cons ⟨_, rfl, fun a w hE hH => ?_⟩ ?_
        ·
          have e8 : a.tmps[8]? = some (.string (strB (esc t.val))) := hH.old 8 rfl
          exact Or.inl ⟨rfl, goodE_move _ rfl (eval_of e8) rfl⟩
        refine stepE_cons ⟨_, rfl, fun a w hE hH => ?_⟩ ?_
        ·
          obtain ⟨v54, e54, g54⟩ := hH.dep 9 54 rfl (by kernel_rfl)
          have q54 : v54 = .string (strB (esc t.val)) := g54
          subst q54
          have hv := HV2.out
          have hz : (strB [34] ++ strB (esc t.val)) = strB (34 :: esc t.val) := append_strB _ _
          have hn : ¬ (9223372036854775807 < 1 + (strB (esc t.val)).size) := by rw [strB_size]; omega
          exact Or.inl ⟨(rfl), goodE_val (.string (strB ([34] ++ esc t.val))) (by simp [execOp, Act.eval, e54, go_sem, hn]; exact hz) rfl⟩
        refine stepE_cons ⟨_, rfl, fun a w hE hH => ?_⟩ ?_
        ·
          obtain ⟨v55, e55, g55⟩ := hH.dep 10 55 rfl (by kernel_rfl)
          have q55 : v55 = .string (strB ([34] ++ esc t.val)) := g55
          subst q55
          have hv := HV2.out
          have hz : (strB (34 :: esc t.val) ++ strB [34]) = strB (34 :: (esc t.val ++ [34])) := append_strB _ _
          have hn : ¬ (9223372036854775807 < (strB (34 :: esc t.val)).size + 1) := by rw [strB_size, List.length_cons]; omega
          exact Or.inl ⟨(rfl), goodE_val (.string (strB ([34] ++ esc t.val ++ [34]))) (by simp [execOp, Act.eval, e55, go_sem, hn]; exact hz) rfl⟩
        refine stepE_cons ⟨_, rfl, fun a w hE hH => ?_⟩ ?_
        ·
          obtain ⟨v47, e47, g47⟩ := hH.dep 2 47 rfl (by kernel_rfl)
          have q47 : v47 = .string (strB t.col) := g47
          subst q47
          obtain ⟨v53, e53, g53⟩ := hH.dep 8 53 rfl (by kernel_rfl)
          have q53 : v53 = .string (strB (opT t.op)) := g53
          subst q53
          obtain ⟨v56, e56, g56⟩ := hH.dep 11 56 rfl (by kernel_rfl)
          have q56 : v56 = .string (strB ([34] ++ esc t.val ++ [34])) := g56
          subst q56
          exact Or.inl ⟨(rfl), goodE_new (.slice (some ⟨w.heap.size, 0, none⟩) 3 3) (w.alloc (.cells #[.string (strB t.col), .string (strB (opT t.op)), .string (strB ([34] ++ esc t.val ++ [34]))] 9)) (by simp [execOp, Act.eval, e47, e53, e56, go_sem]) ((Ext.refl w).alloc _) ⟨w.heap.size, rfl, heap_alloc_new _ _⟩⟩
        exact stepE_nil
      refine ⟨⟨(some 58), .call ⟨.builtin .append, #[(.tmp 45), (.tmp 57)], #[22, 22]⟩, _, _, _, none⟩, ⟨(some 5), .assign (.tmp 58), _, _, _, none⟩, rfl, rfl, ?_⟩
      rintro vals wz hE hV
      have k45 : vals 0 = u5 := hV 0 (by simp) rfl
      have k57 : ∃ b, (vals 12) = .slice (some ⟨b, 0, none⟩) 3 3 ∧ wz.heap[b]? = some (.cells #[.string (strB t.col), .string (strB (opT t.op)), .string (strB ([34] ++ esc t.val ++ [34]))] 9 (0, 0)) := hV 12 (by simp) rfl
      refine ⟨rfl, ?_⟩
      intro KK hKK
      simp only [List.map_cons, List.map_nil, putAll, Act.put, List.setIfInBounds_toArray, List.set_cons_zero, List.set_cons_succ, k45]
      obtain ⟨b, q57, hb57⟩ := k57
      rw [q57]
      have hE4' : Ext w3 wz := (HE4.out.trans ((Ext.to_drew _).trans hE))
      have hSz := HS3.out.ext hE4'
      have hrun := sr_run_app (c := 3) (ys := [t.col, opT t.op, [34] ++ esc t.val ++ [34]]) 22 hSz hb57 rfl (by have := hE4'.size; omega) (by have := HLW.out; simp only [List.length_append, List.length_cons, List.length_nil] at this ⊢; omega)
      obtain ⟨v5, w5, hr5, hS5, hG5, hB5⟩ := hrun
      refine finE_val (w1 := w5) (v := v5) (exec_append (s := .tmp 45) (x := .tmp 57) rfl (by simpa [Act.eval] using hr5)) (hKK _ _ ⟨rfl, ?_⟩)
      intro K2 hK2
      refine finE_val (w1 := w5) (v := v5) (by simp [execOp, Act.eval, Act.put]) (hK2 _ _ ?_)
      have HS5 := Aside0.mk hS5
      have HB5 := Aside0.mk (show Below w.heap.size w w5 from (Below.trans HB3.out (hE4'.mono (by have := HB3.out.size; omega))).trans (hB5.mono (by omega)))
      have HQ5 := Aside0.mk (show QBx w5 w.heap.size A0 c0 (some ad) c2 q from by
        have h1 := heap_below HQ3.out hE4'
        have h2 := hB5.block w.heap.size (by omega)
        unfold QBx
        rw [h2]
        exact h1)
      have HZ5 := Aside0.mk (show w.heap.size + 1 ≤ w5.heap.size from by have h1 := hE4'.size; have h2 := hB5.size; omega)
      clear hE hV hE4' hSz hr5 hS5 hG5 hB5 q57 hb57 hKK hK2
      go_wp2
      go_roundw
      case rel =>
        refine ⟨i + 1, by omega, by go_num, ?_, HQ5.out, HB5.out, HZ5.out⟩
        have e : q.wh.take (i + 1) = q.wh.take i ++ [t] := by rw [HT.out, List.take_succ_eq_append_getElem hlt]
        have hl : (q.wh.take i).length = i := by rw [List.length_take]; omega
        rw [e, whW_snoc, hl, Nat.zero_add]
        have := HS5.out
        rw [List.append_assoc, List.append_assoc] at this
        exact this
      case measure => simp [intOf]; omega
    · obtain rfl : i = q.wh.length := by omega
      have hnl : ¬ ((q.wh.length : Int) < q.wh.length) := by omega
      rw [List.take_length] at hS
      have HQr := Aside0.mk hQ
      have HBr := Aside0.mk hB
      have HS := Aside0.mk hS
      have hk3 := blk_cell hQ 3
      have hk4 := blk_cell hQ 4
      have hk5 := blk_cell hQ 5
      clear hS hQ hB
      have hS0 : Stq A0 c0 A2 c2 q w wr u5 (headW q ++ whW 0 q.wh) := ⟨HS.out, HQr.out, HBr.out, hz⟩
      have HS0 := Aside0.mk hS0
      clear hS0 HS HQr HBr hz HQ HB
      have hln : (headW q ++ whW 0 q.wh).length ≤ 40 := by rw [List.length_append, whW_length]; simp only [headW, List.length_cons, List.length_nil]; omega
      have HLN := Aside0.mk hln
      clear hln
      go_upto_if 62 with fail
      obtain ⟨bo, hbo⟩ : ∃ b, b = (!(strB q.ord).toList.isEmpty) := ⟨_, rfl⟩
      rw [← hbo]
      have HO := Aside0.mk (show bo = !decide (q.ord = []) by rw [hbo, toList_strB]; cases q.ord <;> simp)
      clear hbo
      go_cut [5] from 62 to 67 (fun (s5 : Value) wx => Stq A0 c0 A2 c2 q w wx s5 (headW q ++ whW 0 q.wh ++ ordW q))
      case first =>
        cases bo with
        | false =>
          go_wp2_with fail
          go_meet
          case rel =>
            have ho : q.ord = [] := by have := HO.out; simpa using this
            unfold ordW
            rw [if_pos ho, List.append_nil]
            exact HS0.out
        | true =>
          have hk3 : wr.cell? ⟨w.heap.size, 3, none⟩ = some (.string (strB q.ord)) := (blk_cell HS0.out.2.1 3).trans rfl
          go_wp2_with (at_builtin; refine sr_app (W := wr) (w.heap.size + 1) rfl _ _ rfl u5 (headW q ++ whW 0 q.wh) [[111, 114, 100, 101, 114], [98, 121], q.ord] #[.string ⟨#[111, 114, 100, 101, 114]⟩, .string ⟨#[98, 121]⟩, .string (strB q.ord)] rfl ?sx rfl rfl ?s1 ?s2 ?s3 ?_; (case sx => simp [Act.eval]); (case s1 => exact HS0.out.1); (case s2 => exact HS0.out.2.2.2); (case s3 => have := HLN.out; simp only [List.length_cons, List.length_nil]; omega); intro v1 w1 hS1 hB1 hG1; have HS1 := Aside0.mk (Stq.app HS0.out hS1 hB1); clear hS1 hB1 hG1)
          go_meet
          case rel =>
            have ho : ¬ q.ord = [] := by have := HO.out; simpa using this
            unfold ordW
            rw [if_neg ho]
            exact HS1.out
      case rest =>
      obtain ⟨wr2, hw2⟩ : ∃ w2, w2 = wc := ⟨_, rfl⟩
      subst hw2
      have HS0 := Aside0.mk hcut
      have hln2 : (headW q ++ whW 0 q.wh ++ ordW q).length ≤ 43 := by have := HLN.out; have h2 : (ordW q).length ≤ 3 := (by unfold ordW; split <;> simp); rw [List.length_append]; omega
      have HLN := Aside0.mk hln2
      have hk4 : wr2.cell? ⟨w.heap.size, 4, none⟩ = some (.bool q.down) := (blk_cell hcut.2.1 4).trans rfl
      have hk5 : wr2.cell? ⟨w.heap.size, 5, none⟩ = some (.int .i64 q.lim) := (blk_cell hcut.2.1 5).trans rfl
      clear hcut hln2 hk3
      go_upto_if 69 with fail
      obtain ⟨bo, hbo⟩ : ∃ b, b = q.down := ⟨_, rfl⟩
      rw [← hbo]
      have HO := Aside0.mk hbo
      clear hbo hk4
      go_cut [5] from 68 to 72 (fun (s5 : Value) wx => Stq A0 c0 A2 c2 q w wx s5 (headW q ++ whW 0 q.wh ++ ordW q ++ downW q))
      case first =>
        cases bo with
        | false =>
          go_wp2_with fail
          go_meet
          case rel =>
            unfold downW
            rw [← HO.out, if_neg (by decide), List.append_nil]
            exact HS0.out
        | true =>
          go_wp2_with (at_builtin; refine sr_app (W := wr2) (w.heap.size + 1) rfl _ _ rfl u5 (headW q ++ whW 0 q.wh ++ ordW q) [[100, 111, 119, 110]] #[.string ⟨#[100, 111, 119, 110]⟩] rfl ?sx rfl rfl ?s1 ?s2 ?s3 ?_; (case sx => simp [Act.eval]); (case s1 => exact HS0.out.1); (case s2 => exact HS0.out.2.2.2); (case s3 => have := HLN.out; simp only [List.length_cons, List.length_nil, List.length_append] at this ⊢; omega); intro v1 w1 hS1 hB1 hG1; have HS1 := Aside0.mk (Stq.app HS0.out hS1 hB1); clear hS1 hB1 hG1)
          go_meet
          case rel =>
            unfold downW
            rw [← HO.out, if_pos rfl]
            exact HS1.out
      case rest =>
      obtain ⟨wr3, hw3⟩ : ∃ w3, w3 = wc := ⟨_, rfl⟩
      subst hw3
      have HS0 := Aside0.mk hcut
      have hln2 : (headW q ++ whW 0 q.wh ++ ordW q ++ downW q).length ≤ 44 := by have := HLN.out; have h2 : (downW q).length ≤ 1 := (by unfold downW; split <;> simp); rw [List.length_append]; omega
      have HLN := Aside0.mk hln2
      have hk5 : wr3.cell? ⟨w.heap.size, 5, none⟩ = some (.int .i64 q.lim) := (blk_cell hcut.2.1 5).trans rfl
      clear hcut hln2
      go_upto_if 75 with fail
      obtain ⟨bl, hbl⟩ : ∃ b, b = decide (0 < q.lim) := ⟨_, rfl⟩
      rw [← hbl]
      have HLb := Aside0.mk hbl
      clear hbl
      have hG3 := Glob.of_below hG HS0.out.2.2.1
      have hit := strconv_Itoa.calls q.lim (strB (Lib.itoa q.lim)) wr3 hG3 (by unfold strconv_Itoa.f; rw [if_pos HP.out.lim0, if_pos HP.out.lim1])
      go_cut [5] from 73 to 81 (fun (s5 : Value) wx => Stq A0 c0 A2 c2 q w wx s5 (wordsQ q))
      case first =>
        cases bl with
        | false =>
          go_wp2_with fail
          go_meet
          case rel =>
            have hl : ¬ 0 < q.lim := of_decide_eq_false HLb.out.symm
            unfold wordsQ limW
            rw [if_neg hl, List.append_nil]
            exact HS0.out
        | true =>
          go_wp2_with (first | (go_at_call 31; (with_reducible refine hit.mono ?_); rintro e wi ⟨rfl, hbi⟩; have HSi := Aside0.mk (HS0.out.ext hbi); clear hbi) | (at_builtin; refine sr_app (W := wi) (w.heap.size + 1) rfl _ _ rfl u5 (headW q ++ whW 0 q.wh ++ ordW q ++ downW q) [[108, 105, 109, 105, 116], Lib.itoa q.lim] #[.string ⟨#[108, 105, 109, 105, 116]⟩, .string (strB (Lib.itoa q.lim))] rfl ?sx rfl rfl ?s1 ?s2 ?s3 ?_; (case sx => simp [Act.eval]); (case s1 => exact HSi.out.1); (case s2 => exact HSi.out.2.2.2); (case s3 => have := HLN.out; simp only [List.length_cons, List.length_nil, List.length_append] at this ⊢; omega); intro v1 w1 hS1 hB1 hG1; have HS1 := Aside0.mk (Stq.app HSi.out hS1 hB1); clear hS1 hB1 hG1))
          go_meet
          case rel =>
            have hl : 0 < q.lim := of_decide_eq_true HLb.out.symm
            unfold wordsQ limW
            rw [if_pos hl]
            exact HS1.out
      case rest =>
      obtain ⟨wr4, hw4⟩ : ∃ w4, w4 = wc := ⟨_, rfl⟩
      subst hw4
      have HS0 := Aside0.mk hcut
      clear hcut hit hG3 hk5
      have hlw : 0 < (wordsQ q).length ∧ (wordsQ q).length ≤ 46 := by
        have h1 := HLN.out
        have h2 : (limW q).length ≤ 2 := by unfold limW; split <;> simp
        have h3 : (headW q).length = 4 := rfl
        unfold wordsQ
        rw [List.length_append]
        refine ⟨?_, by omega⟩
        simp only [List.length_append] at h1 ⊢
        omega
      have HLW := Aside0.mk hlw
      clear hlw
      have hjl : (Lib.join (wordsQ q) [32]).length ≤ 281474976710656 := by
        have := join_le (wordsQ q) [32] 5000 (wordsQ_le HP.out)
        have h2 := HLW.out.2
        have h3 : (wordsQ q).length * (5000 + [(32 : UInt8)].length) ≤ 46 * 5001 := Nat.mul_le_mul h2 (by simp)
        omega
      have hj : Calls Tryz.prog 27 #[u5, .string ⟨#[32]⟩] wr4 fun e w' => e = .returned (.string (strB (textQ q))) ∧ Below wr4.heap.size wr4 w' := join_own wr4 (w.heap.size + 1) u5 (wordsQ q) [32] HS0.out.1 HLW.out.1 hjl (by have := HLW.out.2; omega)
      go_upto_if 86 with (go_at_call 27; (with_reducible refine hj.mono ?_); rintro e w9 ⟨rfl, hb9⟩; have HB9 := Aside0.mk (below_step HS0.out.2.2.1 hb9); clear hb9)
      obtain ⟨bz, hbz⟩ : ∃ b, b = decide ((1024 : Int) < (strB (textQ q)).size) := ⟨_, rfl⟩
      rw [← hbz]
      rw [strB_size] at hbz
      have HZ := Aside0.mk hbz
      clear hbz hj
      cases bz with
      | true =>
        have hn : ¬ (textQ q).length ≤ 1024 := by have := of_decide_eq_true HZ.out.symm; omega
        have hR := HR.out
        rw [if_neg hn] at hR
        obtain ⟨rfl, rfl⟩ := Prod.mk.inj hR
        clear hR hn HZ HR
        go_wp2_with fail
        go_ret2
        exact ⟨rfl, HB9.out⟩
      | false =>
        have hn : (textQ q).length ≤ 1024 := by have := of_decide_eq_false HZ.out.symm; omega
        have hR := HR.out
        rw [if_pos hn] at hR
        obtain ⟨rfl, rfl⟩ := Prod.mk.inj hR
        clear hR hn HZ HR
        go_wp2_with fail
        go_ret2
        exact ⟨rfl, HB9.out⟩
end Go.Proofs.YthhemephaabblaaGreatDoor.Hq
namespace Go.Proofs.YthhemephaabblaaGreatDoor.Hq
open Go.RowKit Go.Proofs.YthhemephaabblaaGreatDoorW.PrintWords Go.Proofs.YthhemephaabblaaGreatDoorW.PrintLast Go.Proofs.YthhemephaabblaaGreatDoorW.PrintMore Go.Proofs.YthhemephaabblaaGreatDoor Go.Proofs.YthhemephaabblaaGreatDoor.Q
set_option linter.unusedVariables false
set_option linter.unusedSimpArgs false

set_option maxRecDepth 100000 in
set_option maxHeartbeats 3200000 in
theorem print_false (k : Nat) (A0 : Option Addr) (c0 : Nat) (A2 : Option Addr) (c2 : Nat) (q : Qry) (w : World) (hr0 : Kd.C Kd.string w A0 q.cols.length (q.cols.map strB)) (hc0 : q.cols.length ≤ c0) (hr2 : Kd.C k37 w A2 q.wh.length (q.wh.map t37)) (hc2 : q.wh.length ≤ c2)
    (hm : query_Query_may.f k (q.cols.map strB) (strB q.tab) (q.wh.map t37) (strB q.ord) q.down q.lim = some false) :
    Calls Tryz.prog 13 #[.agg #[.slice A0 q.cols.length c0, .string (strB q.tab), .slice A2 q.wh.length c2, .string (strB q.ord), .bool q.down, .int .i64 q.lim]] w fun e w' => e = .returned (.tuple #[.string ⟨#[]⟩, .int .i64 320]) ∧ Below w.heap.size w w' := by
  have hcall : ∀ W (h : Kd.C Kd.string W A0 q.cols.length (q.cols.map strB)) (h' : Kd.C k37 W A2 q.wh.length (q.wh.map t37)), Calls Tryz.prog 26 #[.agg #[.slice A0 q.cols.length c0, .string (strB q.tab), .slice A2 q.wh.length c2, .string (strB q.ord), .bool q.down, .int .i64 q.lim]] W fun e w' => e = .returned (.bool false) ∧ Below W.heap.size W w' := by
    intro W h h'
    have := query_Query_may.calls k A0 c0 (q.cols.map strB) (strB q.tab) A2 c2 (q.wh.map t37) (strB q.ord) q.down q.lim false W
    rw [List.length_map, List.length_map] at this
    exact this h hc0 h' hc2 hm
  have HC0 := Aside0.mk hr0
  have HC2 := Aside0.mk hr2
  have HM := Aside0.mk hm
  clear hr0 hr2 hm
  go_enter Tryz.func13, Tryz.ntmps13
  go_wp2_with (go_at_call 26; (with_reducible refine (hcall _ ?h0 ?h2).mono ?_); (case h0 => exact Kd.C_below HC0.out ((Below.refl _ _).alloc (Nat.le_refl _) _)); (case h2 => exact Kd.C_below HC2.out ((Below.refl _ _).alloc (Nat.le_refl _) _)); rintro e w1 ⟨rfl, hb1⟩; have HB1 := Aside0.mk (below_step ((Below.refl _ _).alloc (Nat.le_refl _) _) hb1); clear hb1)
  go_ret2
  exact ⟨rfl, HB1.out⟩
theorem query_Print.calls (k : Nat) (A0_0 : Option Addr) (c0_0 : Nat) (l0_0 : List ByteArray) (a0_1 : ByteArray) (A0_2 : Option Addr) (c0_2 : Nat) (l0_2 : List (S37)) (a0_3 : ByteArray) (a0_4 : Bool) (a0_5 : Int) (r1 : ByteArray) (r2 : Int) (w : World) (hr0_0 : Kd.C Kd.string w A0_0 l0_0.length l0_0) (hc0_0 : l0_0.length ≤ c0_0) (hr0_2 : Kd.C k37 w A0_2 l0_2.length l0_2) (hc0_2 : l0_2.length ≤ c0_2) (hG : Glob w) (h : query_Print.f k l0_0 a0_1 l0_2 a0_3 a0_4 a0_5 = some (r1, r2)) :
    Calls Tryz.prog 13 #[.agg #[.slice A0_0 l0_0.length c0_0, .string a0_1, .slice A0_2 l0_2.length c0_2, .string a0_3, .bool a0_4, .int .i64 a0_5]] w fun e w' => e = .returned (.tuple #[.string r1, .int .i64 r2]) ∧ Below w.heap.size w w' := by
  obtain ⟨q, hq⟩ : ∃ q, q = qOf l0_0 a0_1 l0_2 a0_3 a0_4 a0_5 := ⟨_, rfl⟩
  have e0 : l0_0 = q.cols.map strB := by rw [hq]; exact (qOf_cols _ _ _ _ _ _).symm
  have e2 : l0_2 = q.wh.map t37 := by rw [hq]; exact (qOf_wh _ _ _ _ _ _).symm
  have e1 : a0_1 = strB q.tab := by rw [hq]; exact (strB_data _).symm
  have e3 : a0_3 = strB q.ord := by rw [hq]; exact (strB_data _).symm
  have e4 : a0_4 = q.down := by rw [hq]; rfl
  have e5 : a0_5 = q.lim := by rw [hq]; rfl
  unfold query_Print.f at h
  rw [← hq] at h
  clear hq
  subst e0 e1 e2 e3 e4 e5
  rw [List.length_map] at hr0_0 hc0_0 hr0_2 hc0_2
  rw [List.length_map, List.length_map]
  obtain ⟨b, hm, h⟩ := Option.bind_eq_some_iff.1 h
  cases b with
  | false =>
    rw [if_neg (by decide)] at h
    simp only [Option.some.injEq, Prod.mk.injEq] at h
    obtain ⟨rfl, rfl⟩ := h
    exact print_false k A0_0 c0_0 A0_2 c0_2 q w hr0_0 hc0_0 hr0_2 hc0_2 hm
  | true =>
    rw [if_pos rfl] at h
    by_cases hp : mayQ q = true
    · rw [if_pos hp] at h
      by_cases hl : (textQ q).length ≤ 1024
      · rw [if_pos hl] at h
        simp only [Option.some.injEq, Prod.mk.injEq] at h
        obtain ⟨rfl, rfl⟩ := h
        exact print_true k A0_0 c0_0 A0_2 c0_2 q w hr0_0 hc0_0 hr0_2 hc0_2 hG hm (mayP hp) (textQ q) 0 (if_pos hl)
      · rw [if_neg hl] at h
        simp only [Option.some.injEq, Prod.mk.injEq] at h
        obtain ⟨rfl, rfl⟩ := h
        exact print_true k A0_0 c0_0 A0_2 c0_2 q w hr0_0 hc0_0 hr0_2 hc0_2 hG hm (mayP hp) [] 320 (if_neg hl)
    · rw [if_neg hp] at h; cases h
end Go.Proofs.YthhemephaabblaaGreatDoor.Hq
namespace Go.Proofs.YthhemephaabblaaGreatDoor.Hq
open Go.RowKit Go.Proofs.YthhemephaabblaaGreatDoorW.PrintWords Go.Proofs.YthhemephaabblaaGreatDoorW.PrintLast Go.Proofs.YthhemephaabblaaGreatDoorW.PrintMore Go.Proofs.YthhemephaabblaaGreatDoor Go.Proofs.YthhemephaabblaaGreatDoor.Q
set_option linter.unusedVariables false
set_option linter.unusedSimpArgs false

def hdT (L : List Tk) : Tk := L.headD ⟨0, [], 0⟩
/-- Is the next token this one? Then it is taken. -/
def passL (k : Nat) (w : List UInt8) (L : List Tk) : Bool × List Tk := if (hdT L).kind = k ∧ (hdT L).says = w then (true, L.tail) else (false, L)
/-- A name. -/
def nameL (L : List Tk) : Option (List UInt8) × List Tk := if (hdT L).kind = 2 ∧ (hdT L).says.length ≤ 16 then (some (hdT L).says, L.tail) else (none, L)
def wComma : List UInt8 := [44]
def wStar : List UInt8 := [42]
def wAnd : List UInt8 := [97, 110, 100]
def wBy : List UInt8 := [98, 121]
def wDown : List UInt8 := [100, 111, 119, 110]
def wSelect : List UInt8 := [115, 101, 108, 101, 99, 116]
def wFrom : List UInt8 := [102, 114, 111, 109]
def wWhere : List UInt8 := [119, 104, 101, 114, 101]
def wOrder : List UInt8 := [111, 114, 100, 101, 114]
def wLimit : List UInt8 := [108, 105, 109, 105, 116]
/-- Names with commas between, at most n more. -/
def colsL : Nat → List (List UInt8) → List Tk → Option (List (List UInt8)) × List Tk
  | 0, _, L => (none, L)
  | n + 1, acc, L => match nameL L with
    | (none, L1) => (none, L1)
    | (some c, L1) => if (passL 5 wComma L1).1 = true then colsL n (acc ++ [c]) (passL 5 wComma L1).2 else (some (acc ++ [c]), L1)
def columnsL (L : List Tk) : Option (List (List UInt8)) × List Tk := if (passL 5 wStar L).1 = true then (some [], (passL 5 wStar L).2) else colsL 8 [] L
/-- The number of a comparison among the first j ones; 0: none. -/
def opF (w : List UInt8) : Nat → Nat
  | 0 => 0
  | j + 1 => if opsL.getD j [] = w then j + 1 else opF w j
def opN (w : List UInt8) : Nat := opF w 6
theorem opF_le (w : List UInt8) : ∀ j, opF w j ≤ j
  | 0 => Nat.le_refl _
  | j + 1 => by
    unfold opF
    split
    · exact Nat.le_refl _
    · exact Nat.le_succ_of_le (opF_le w j)
/-- A test. -/
def testL (L : List Tk) : Option Tst × List Tk := match nameL L with
  | (none, L1) => (none, L1)
  | (some c, L1) => if (hdT L1).kind = 5 ∧ opN (hdT L1).says ≠ 0 then (if (hdT L1.tail).kind = 4 then (some ⟨c, (opN (hdT L1).says : Nat), (hdT L1.tail).says⟩, L1.tail.tail) else (none, L1.tail)) else (none, L1)
/-- Tests with 'and' between, at most n more. -/
def whL : Nat → List Tst → List Tk → Option (List Tst) × List Tk
  | 0, _, L => (none, L)
  | n + 1, acc, L => match testL L with
    | (none, L1) => (none, L1)
    | (some t, L1) => if (passL 2 wAnd L1).1 = true then whL n (acc ++ [t]) (passL 2 wAnd L1).2 else (some (acc ++ [t]), L1)
/-- What stands behind 'order'. -/
def orderL (L : List Tk) : Option (List UInt8 × Bool) × List Tk := if (passL 2 wBy L).1 = true then (match nameL (passL 2 wBy L).2 with
  | (none, L2) => (none, L2)
  | (some c, L2) => (some (c, (passL 2 wDown L2).1), (passL 2 wDown L2).2)) else (none, L)
/-- What stands behind 'limit'. -/
def limitL (L : List Tk) : Option Int × List Tk := if (hdT L).kind = 3 ∧ (hdT L).says.length ≤ 9 ∧ (hdT L).says.head? ≠ some 48 then (some ((Lib.atoi (hdT L).says).getD 0), L.tail) else (none, L)
/-! ### the rest of a question, from each of its parts on -/
def c5 (cs : List (List UInt8)) (tb : List UInt8) (wh : List Tst) (od : List UInt8) (dn : Bool) (lm : Int) (L : List Tk) : Option Qry × List Tk :=
  if (hdT L).kind = 0 then (some ⟨cs, tb, wh, od, dn, lm⟩, L) else (none, L)
def c4 (cs : List (List UInt8)) (tb : List UInt8) (wh : List Tst) (od : List UInt8) (dn : Bool) (L : List Tk) : Option Qry × List Tk :=
  if (passL 2 wLimit L).1 = true then (match limitL (passL 2 wLimit L).2 with
  | (none, L1) => (none, L1)
  | (some lm, L1) => c5 cs tb wh od dn lm L1) else c5 cs tb wh od dn 0 L
def c3 (cs : List (List UInt8)) (tb : List UInt8) (wh : List Tst) (L : List Tk) : Option Qry × List Tk :=
  if (passL 2 wOrder L).1 = true then (match orderL (passL 2 wOrder L).2 with
  | (none, L1) => (none, L1)
  | (some od, L1) => c4 cs tb wh od.1 od.2 L1) else c4 cs tb wh [] false L
def c2 (cs : List (List UInt8)) (tb : List UInt8) (L : List Tk) : Option Qry × List Tk :=
  if (passL 2 wWhere L).1 = true then (match whL 8 [] (passL 2 wWhere L).2 with
  | (none, L1) => (none, L1)
  | (some wh, L1) => c3 cs tb wh L1) else c3 cs tb [] L
def c1 (cs : List (List UInt8)) (L : List Tk) : Option Qry × List Tk :=
  if (passL 2 wFrom L).1 = true then (match nameL (passL 2 wFrom L).2 with
  | (none, L1) => (none, L1)
  | (some tb, L1) => c2 cs tb L1) else (none, L)
/-- The question that tokens say, or the tokens from the fault on. -/
def parseL (L : List Tk) : Option Qry × List Tk :=
  if (passL 2 wSelect L).1 = true then (match columnsL (passL 2 wSelect L).2 with
  | (none, L1) => (none, L1)
  | (some cs, L1) => c1 cs L1) else (none, L)
/-- What a text says: the question, the fault's place, the error's number. -/
def parseQ (s : List UInt8) : Qry × Nat × Int :=
  if s.length ≤ 1024 then (match parseL (toks s 0) with
    | (none, L) => (⟨[], [], [], [], false, 0⟩, (hdT L).place, 320)
    | (some q, _) => if (printQ q).2 = 0 then (q, 0, 0) else (⟨[], [], [], [], false, 0⟩, 0, 2)) else (⟨[], [], [], [], false, 0⟩, 0, 2)
end Go.Proofs.YthhemephaabblaaGreatDoor.Hq
namespace Go.Proofs.YthhemephaabblaaGreatDoor.Hq
open Go.RowKit Go.Proofs.YthhemephaabblaaGreatDoorW.PrintWords Go.Proofs.YthhemephaabblaaGreatDoorW.PrintLast Go.Proofs.YthhemephaabblaaGreatDoorW.PrintMore Go.Proofs.YthhemephaabblaaGreatDoor Go.Proofs.YthhemephaabblaaGreatDoor.Q
set_option linter.unusedVariables false
set_option linter.unusedSimpArgs false

/-- Words, a blank ahead of each. -/
def jt (l : List (List UInt8)) : List UInt8 := Lib.joinTail [32] l
theorem jt_append (a b : List (List UInt8)) : jt (a ++ b) = jt a ++ jt b := by simp [jt, Lib.joinTail]
theorem jt_cons (a : List UInt8) (b : List (List UInt8)) : jt (a :: b) = [32] ++ a ++ jt b := by simp [jt, Lib.joinTail]
end Go.Proofs.YthhemephaabblaaGreatDoor.Hq
namespace Go.Proofs.YthhemephaabblaaGreatDoor.Hq
open Go.RowKit Go.Proofs.YthhemephaabblaaGreatDoorW.PrintWords Go.Proofs.YthhemephaabblaaGreatDoorW.PrintLast Go.Proofs.YthhemephaabblaaGreatDoorW.PrintMore Go.Proofs.YthhemephaabblaaGreatDoor Go.Proofs.YthhemephaabblaaGreatDoor.Q
set_option linter.unusedVariables false
set_option linter.unusedSimpArgs false

end Go.Proofs.YthhemephaabblaaGreatDoor.Hq
namespace Go.Proofs.YthhemephaabblaaGreatDoor.Hq
open Go.RowKit Go.Proofs.YthhemephaabblaaGreatDoorW.PrintWords Go.Proofs.YthhemephaabblaaGreatDoorW.PrintLast Go.Proofs.YthhemephaabblaaGreatDoorW.PrintMore Go.Proofs.YthhemephaabblaaGreatDoor Go.Proofs.YthhemephaabblaaGreatDoor.Q
set_option linter.unusedVariables false
set_option linter.unusedSimpArgs false

def qOf70 (l0_0 : List ByteArray) (a0_1 : ByteArray) (l0_2 : List S70) (a0_3 : ByteArray) (a0_4 : Bool) (a0_5 : Int) : Qry :=
  ⟨l0_0.map (·.data.toList), a0_1.data.toList, l0_2.map fun t => ⟨t.f0.data.toList, t.f1, t.f2.data.toList⟩, a0_3.data.toList, a0_4, a0_5⟩
def cairnref32_Print.f (k : Nat) (l0_0 : List ByteArray) (a0_1 : ByteArray) (l0_2 : List S70) (a0_3 : ByteArray) (a0_4 : Bool) (a0_5 : Int) : Option (ByteArray × Int) :=
  (cairnref32_may.f k l0_0 a0_1 l0_2 a0_3 a0_4 a0_5).bind fun b => if b = true then (if mayQ (qOf70 l0_0 a0_1 l0_2 a0_3 a0_4 a0_5) then (if (textQ (qOf70 l0_0 a0_1 l0_2 a0_3 a0_4 a0_5)).length ≤ 1024 then some (strB (textQ (qOf70 l0_0 a0_1 l0_2 a0_3 a0_4 a0_5)), 0) else some (strB [], 320)) else none) else some (strB [], 320)
theorem cairnref32_Print.mono : ∀ a0 a1 a2 a3 a4 a5 k, LeO (cairnref32_Print.f k a0 a1 a2 a3 a4 a5) (cairnref32_Print.f (k + 1) a0 a1 a2 a3 a4 a5) := by
  intro a0 a1 a2 a3 a4 a5 k
  unfold cairnref32_Print.f
  exact LeO.bind (cairnref32_may.mono _ _ _ _ _ _ _) (fun _ => LeO.refl _)
end Go.Proofs.YthhemephaabblaaGreatDoor.Hq
namespace Go.Proofs.YthhemephaabblaaGreatDoor.R
open Go.RowKit Go.Proofs.YthhemephaabblaaGreatDoor.Q Go.Proofs.YthhemephaabblaaGreatDoor.Hq  Go.Proofs.YthhemephaabblaaGreatDoorW.PrintWords Go.Proofs.YthhemephaabblaaGreatDoorW.PrintLast Go.Proofs.YthhemephaabblaaGreatDoorW.PrintMore
attribute [local go_sem] max2_int min2_int max_two min_two max_three min_three max_four min_four   -- for this text's walks alone
set_option linter.unusedVariables false
set_option linter.unusedSimpArgs false



-- the values' own types
/-! #### struct type 37 -/
/-! #### struct type 70 -/
/-! #### struct type 74 -/
end Go.Proofs.YthhemephaabblaaGreatDoor.R
namespace Go.Proofs.YthhemephaabblaaGreatDoor.R
open Go.RowKit Go.Proofs.YthhemephaabblaaGreatDoor.Q Go.Proofs.YthhemephaabblaaGreatDoor.Hq  Go.Proofs.YthhemephaabblaaGreatDoorW.PrintWords Go.Proofs.YthhemephaabblaaGreatDoorW.PrintLast Go.Proofs.YthhemephaabblaaGreatDoorW.PrintMore
attribute [local go_sem] max2_int min2_int max_two min_two max_three min_three max_four min_four   -- for this text's walks alone
-- OPAQ: opaq.py made this state's slices any values
set_option linter.unusedVariables false
set_option linter.unusedSimpArgs false

-- function 30 (query_operators): by hand

-- function 64 (query_small): by hand

-- function 66 (query_digit): by hand

-- function 49 (query_named): by hand

-- function 26 (query_Query_may): by hand

-- NOT PRINTED: function 88 (abi_NoEscape)

-- NOT PRINTED: function 74 (strings_Builder_copyCheck)

-- NOT PRINTED: function 89 (bytealg_MakeNoZero)

-- NOT PRINTED: function 75 (strings_Builder_grow)

-- NOT PRINTED: function 50 (strings_Builder_Grow)

-- NOT PRINTED: function 51 (strings_Builder_WriteString)

-- NOT PRINTED: function 52 (strings_Builder_String)

-- NOT PRINTED: function 27 (strings_Join)

-- NOT PRINTED: function 28 (strings_NewReplacer)

-- NOT PRINTED: function 90 (atomic_LoadUint32)

-- NOT PRINTED: function 76 (atomic_Bool_Load)

-- NOT PRINTED: function 117 (race_Disable)

-- NOT PRINTED: function 118 (atomic_CompareAndSwapInt32)

-- NOT PRINTED: function 119 (race_Enable)

-- NOT PRINTED: function 120 (race_Acquire)

-- NOT PRINTED: function 123 (atomic_AddInt32)

-- NOT PRINTED: function 128 (sync_runtime_canSpin)

-- NOT PRINTED: function 129 (sync_runtime_doSpin)

-- NOT PRINTED: function 130 (sync_throw)

-- NOT PRINTED: function 131 (sync_runtime_nanotime)

-- NOT PRINTED: function 132 (sync_runtime_SemacquireMutex)

-- NOT PRINTED: function 121 (sync_Mutex_lockSlow)

-- NOT PRINTED: function 104 (sync_Mutex_Lock_104)

-- NOT PRINTED: function 91 (sync_Mutex_Lock_91)

-- NOT PRINTED: function 122 (race_ReleaseMerge)

-- NOT PRINTED: function 133 (sync_fatal)

-- NOT PRINTED: function 134 (sync_runtime_Semrelease)

-- NOT PRINTED: function 124 (sync_Mutex_unlockSlow)

-- NOT PRINTED: function 105 (sync_Mutex_Unlock_105)

-- NOT PRINTED: function 92 (sync_Mutex_Unlock_92)

-- NOT PRINTED: function 106 (atomic_StoreUint32)

-- function 107 (atomic_b32): by hand

-- NOT PRINTED: function 93 (atomic_Bool_Store)

-- NOT PRINTED: function 77 (sync_Once_doSlow)

-- NOT PRINTED: function 53 (sync_Once_Do)

-- function 100 (stringslite_HasPrefix): by hand

-- function 82 (strings_HasPrefix): by hand

-- function 125 (strings_longestCommonSuffix): by hand

-- NOT PRINTED: function 108 (strings_makeStringFinder)

-- NOT PRINTED: function 94 (strings_makeSingleStringReplacer)

-- NOT PRINTED: function 109 (strings_trieNode_add)

-- NOT PRINTED: function 95 (strings_makeGenericReplacer)

-- NOT PRINTED: function 78 (strings_Replacer_build)

-- NOT PRINTED: function 54 (strings_Replacer_buildOnce)

-- NOT PRINTED: function 29 (strings_Replacer_Replace)

-- function 96 (strconv_small): by hand

-- function 110 (strconv_log10Pow2): by hand

-- function 111 (bits_Len64): by hand

-- function 112 (strconv_bool2_int): by hand

-- NOT PRINTED: function 97 (strconv_numDigits)

-- NOT PRINTED: function 98 (strconv_formatBase10)

-- function 113 (strconv_isPowerOfTwo): by hand

-- NOT PRINTED: function 126 (bits_TrailingZeros32)

-- NOT PRINTED: function 127 (bits_TrailingZeros64)

-- NOT PRINTED: function 114 (bits_TrailingZeros)

-- NOT PRINTED: function 99 (strconv_formatBits)

-- NOT PRINTED: function 79 (strconv_FormatInt)

-- NOT PRINTED: function 55 (strconv_Itoa_55)

-- function 31 (strconv_Itoa_31): by hand

-- function 13 (query_Print): by hand

-- NOT PRINTED: function 62 (query_reader_run)

-- function 67 (query_reader_quoted): by hand

-- function 68 (query_reader_signed): by hand

-- function 44 (query_reader_step): by hand

-- function 69 (query_reader_is): by hand

/-! ### query_reader_pass: function 45 -/
def query_reader_pass.f (k : Nat) (s0_0 : ByteArray) (s0_1 : Int) (s0_2 : Int) (s0_3 : ByteArray) (s0_4 : Int) (s0_5 : Value) (s0_6 : ByteArray) (s0_7 : Value) (s0_8 : ByteArray) (s0_9 : Bool) (s0_10 : Int) (a1 : Int) (a2 : ByteArray) : Option (Bool × ByteArray × Int × Int × ByteArray × Int × ByteArray × ByteArray × Bool × Int) := (query_reader_is.f s0_0 s0_1 s0_2 s0_3 s0_4 s0_5 s0_6 s0_7 s0_8 s0_9 s0_10 a1 a2).bind fun bt121 => (if bt121.1 = true then ((query_reader_step.f k bt121.2.1 bt121.2.2.1 bt121.2.2.2.1 bt121.2.2.2.2.1 bt121.2.2.2.2.2.1 s0_5 bt121.2.2.2.2.2.2.1 s0_7 bt121.2.2.2.2.2.2.2.1 bt121.2.2.2.2.2.2.2.2.1 bt121.2.2.2.2.2.2.2.2.2).bind fun bt131 => (some (true, bt131.1, bt131.2.1, bt131.2.2.1, bt131.2.2.2.1, bt131.2.2.2.2.1, bt131.2.2.2.2.2.1, bt131.2.2.2.2.2.2.1, bt131.2.2.2.2.2.2.2.1, bt131.2.2.2.2.2.2.2.2))) else (some (false, bt121.2.1, bt121.2.2.1, bt121.2.2.2.1, bt121.2.2.2.2.1, bt121.2.2.2.2.2.1, bt121.2.2.2.2.2.2.1, bt121.2.2.2.2.2.2.2.1, bt121.2.2.2.2.2.2.2.2.1, bt121.2.2.2.2.2.2.2.2.2)))
theorem query_reader_pass.mono : ∀ a0 a1 a2 a3 a4 a5 a6 a7 a8 a9 a10 a11 a12 k, LeO (query_reader_pass.f k a0 a1 a2 a3 a4 a5 a6 a7 a8 a9 a10 a11 a12) (query_reader_pass.f (k + 1) a0 a1 a2 a3 a4 a5 a6 a7 a8 a9 a10 a11 a12) := by
 intro a0 a1 a2 a3 a4 a5 a6 a7 a8 a9 a10 a11 a12 k
 unfold query_reader_pass.f
 repeat' first
   | (with_reducible exact query_reader_step.mono _ _ _ _ _ _ _ _ _ _ _ _)
   | (with_reducible exact LeO.refl _)
   | (with_reducible exact LeO.none _)
   | (with_reducible refine LeO.ite ?_ ?_)
   | (with_reducible refine LeO.bind ?_ (fun _ => ?_))
   | exact query_reader_step.mono _ _ _ _ _ _ _ _ _ _ _ _
   | exact LeO.none _
   | refine LeO.ite ?_ ?_
   | refine LeO.bind ?_ (fun _ => ?_)
set_option maxHeartbeats 8000000 in
set_option maxRecDepth 100000 in
theorem query_reader_pass.calls (k : Nat) (g : Nat) (s0_0 : ByteArray) (s0_1 : Int) (s0_2 : Int) (s0_3 : ByteArray) (s0_4 : Int) (s0_5 : Value) (s0_6 : ByteArray) (s0_7 : Value) (s0_8 : ByteArray) (s0_9 : Bool) (s0_10 : Int) (a1 : Int) (a2 : ByteArray) (r1 : Bool) (r2 : ByteArray) (r3 : Int) (r4 : Int) (r5 : ByteArray) (r6 : Int) (r7 : ByteArray) (r8 : ByteArray) (r9 : Bool) (r10 : Int) (w0 w : World) (hI : IsS60 w0 w g s0_0 s0_1 s0_2 s0_3 s0_4 s0_5 s0_6 s0_7 s0_8 s0_9 s0_10) (hB : Below w0.heap.size w0 w) (h : query_reader_pass.f k s0_0 s0_1 s0_2 s0_3 s0_4 s0_5 s0_6 s0_7 s0_8 s0_9 s0_10 a1 a2 = some (r1, r2, r3, r4, r5, r6, r7, r8, r9, r10)) :
  Calls Tryz.prog 45 #[.pointer (some ⟨g, 0, none⟩), .int .i64 a1, .string a2] w fun e w' => e = .returned (.bool r1) ∧ IsS60 w0 w' g r2 r3 r4 r5 r6 s0_5 r7 s0_7 r8 r9 r10 ∧ Below w0.heap.size w0 w' ∧ KeepBut w w' g none := by
 have HI0 := Aside0.mk hI
 have HK := Aside0.mk (KeepBut.refl w g none)
 have HL := Aside0.mk hB.size
 clear hI
 have HW0 := Aside0.mk hB.size
 have HB := Aside0.mk hB
 clear hB
 have H : ((query_reader_is.f s0_0 s0_1 s0_2 s0_3 s0_4 s0_5 s0_6 s0_7 s0_8 s0_9 s0_10 a1 a2).bind fun bt121 => (if bt121.1 = true then ((query_reader_step.f k bt121.2.1 bt121.2.2.1 bt121.2.2.2.1 bt121.2.2.2.2.1 bt121.2.2.2.2.2.1 s0_5 bt121.2.2.2.2.2.2.1 s0_7 bt121.2.2.2.2.2.2.2.1 bt121.2.2.2.2.2.2.2.2.1 bt121.2.2.2.2.2.2.2.2.2).bind fun bt131 => (some (true, bt131.1, bt131.2.1, bt131.2.2.1, bt131.2.2.2.1, bt131.2.2.2.2.1, bt131.2.2.2.2.2.1, bt131.2.2.2.2.2.2.1, bt131.2.2.2.2.2.2.2.1, bt131.2.2.2.2.2.2.2.2))) else (some (false, bt121.2.1, bt121.2.2.1, bt121.2.2.2.1, bt121.2.2.2.2.1, bt121.2.2.2.2.2.1, bt121.2.2.2.2.2.2.1, bt121.2.2.2.2.2.2.2.1, bt121.2.2.2.2.2.2.2.2.1, bt121.2.2.2.2.2.2.2.2.2)))) = some (r1, r2, r3, r4, r5, r6, r7, r8, r9, r10) := h
 clear h
 replace H := Option.bind_eq_some_iff.mp H
 obtain ⟨⟨t121, t122, t123, t124, t125, t126, t127, t128, t129, t130⟩, A40, H⟩ := H
 replace H : (if t121 = true then ((query_reader_step.f k t122 t123 t124 t125 t126 s0_5 t127 s0_7 t128 t129 t130).bind fun bt131 => (some (true, bt131.1, bt131.2.1, bt131.2.2.1, bt131.2.2.2.1, bt131.2.2.2.2.1, bt131.2.2.2.2.2.1, bt131.2.2.2.2.2.2.1, bt131.2.2.2.2.2.2.2.1, bt131.2.2.2.2.2.2.2.2))) else (some (false, t122, t123, t124, t125, t126, t127, t128, t129, t130))) = some (r1, r2, r3, r4, r5, r6, r7, r8, r9, r10) := H
 have A4 := Aside0.mk A40
 clear A40
 by_cases c5 : t121 = true
 ·
  subst c5
  have H1 : ((query_reader_step.f k t122 t123 t124 t125 t126 s0_5 t127 s0_7 t128 t129 t130).bind fun bt131 => (some (true, bt131.1, bt131.2.1, bt131.2.2.1, bt131.2.2.2.1, bt131.2.2.2.2.1, bt131.2.2.2.2.2.1, bt131.2.2.2.2.2.2.1, bt131.2.2.2.2.2.2.2.1, bt131.2.2.2.2.2.2.2.2))) = some (r1, r2, r3, r4, r5, r6, r7, r8, r9, r10) := by rw [if_pos rfl] at H; exact H
  clear H
  have H := H1
  clear H1
  replace H := Option.bind_eq_some_iff.mp H
  obtain ⟨⟨t131, t132, t133, t134, t135, t136, t137, t138, t139⟩, A60, H⟩ := H
  replace H : (some (true, t131, t132, t133, t134, t135, t136, t137, t138, t139)) = some (r1, r2, r3, r4, r5, r6, r7, r8, r9, r10) := H
  have A6 := Aside0.mk A60
  clear A60
  simp only [Option.some.injEq, Prod.mk.injEq] at H
  obtain ⟨rfl, rfl, rfl, rfl, rfl, rfl, rfl, rfl, rfl, rfl⟩ := H
  go_enter Tryz.func45, Tryz.ntmps45
  go_wp2_with (first | ((with_reducible refine gate_callee (f := 69) rfl ?_); refine goesL_ (some 10) rfl rfl Tryz.func69 (by kernel_rfl) rfl #[.pointer (some ⟨g, 0, none⟩), .int .i64 a1, .string a2] rfl (by (try simp only [List.map_toArray, List.map_cons, List.map_nil]); first | done | rfl | (simp only [List.length_drop, List.length_take]; rfl)) ?_; (with_reducible refine (query_reader_is.calls g s0_0 s0_1 s0_2 s0_3 s0_4 s0_5 s0_6 s0_7 s0_8 s0_9 s0_10 a1 a2 true t122 t123 t124 t125 t126 t127 t128 t129 t130 w0 _ ?side1 ?side2 A4.out).mono ?_); (case side1 => repeat (first | (with_reducible first | exact HI0.out | apply IsS60.alloc | apply IsS60.drewN | apply IsS60.drew | apply IsS60.set_0 | apply IsS60.set_1 | apply IsS60.set_2 | apply IsS60.set_3 | apply IsS60.set_4 | apply IsS60.set_6 | apply IsS60.set_8 | apply IsS60.set_9 | apply IsS60.set_10) | exact HI0.out)); (case side2 => repeat (first | (with_reducible first | exact HB.out | apply below_alloc | apply pw_below_drewN | apply below_drew1 | refine below_set ?_ (IsS60.ge HI0.out)) | exact HB.out)); rintro e w7 ⟨rfl, hi, hb, hk⟩; refine ⟨_, rfl, ?_⟩; have n0_ := Aside0.mk (KeepBut.trans (by repeat (first | (with_reducible first | exact HK.out | apply KeepBut.set_ | apply keep_drewN | apply keep_drew | apply keep_alloc) | exact HK.out)) hk (.inl rfl)); have n1_ := Aside0.mk (hb); have n2_ := Aside0.mk (hi); clear HK; clear HB; clear HI0; have HK := n0_; have HB := n1_; have HI0 := n2_; clear n0_ n1_ n2_; (try clear hb); (try clear hb2); (try clear hk); (try clear hi)) | ((with_reducible refine gate_callee (f := 44) rfl ?_); refine goesL_ (some 13) rfl rfl Tryz.func44 (by kernel_rfl) rfl #[.pointer (some ⟨g, 0, none⟩)] rfl (by (try simp only [List.map_toArray, List.map_cons, List.map_nil]); first | done | rfl | (simp only [List.length_drop, List.length_take]; rfl)) ?_; (with_reducible refine (query_reader_step.calls k g t122 t123 t124 t125 t126 s0_5 t127 s0_7 t128 t129 t130 t131 t132 t133 t134 t135 t136 t137 t138 t139 w0 _ ?side1 ?side2 A6.out).mono ?_); (case side1 => repeat (first | (with_reducible first | exact HI0.out | apply IsS60.alloc | apply IsS60.drewN | apply IsS60.drew | apply IsS60.set_0 | apply IsS60.set_1 | apply IsS60.set_2 | apply IsS60.set_3 | apply IsS60.set_4 | apply IsS60.set_6 | apply IsS60.set_8 | apply IsS60.set_9 | apply IsS60.set_10) | exact HI0.out)); (case side2 => repeat (first | (with_reducible first | exact HB.out | apply below_alloc | apply pw_below_drewN | apply below_drew1 | refine below_set ?_ (IsS60.ge HI0.out)) | exact HB.out)); rintro e w8 ⟨rfl, hi, hb, hk⟩; refine ⟨_, rfl, ?_⟩; have n0_ := Aside0.mk (KeepBut.trans (by repeat (first | (with_reducible first | exact HK.out | apply KeepBut.set_ | apply keep_drewN | apply keep_drew | apply keep_alloc) | exact HK.out)) hk (.inl rfl)); have n1_ := Aside0.mk (hb); have n2_ := Aside0.mk (hi); clear HK; clear HB; clear HI0; have HK := n0_; have HB := n1_; have HI0 := n2_; clear n0_ n1_ n2_; (try clear hb); (try clear hb2); (try clear hk); (try clear hi)))
  go_ret
  exact ⟨by first | rfl | (simp [errW_none, errW_some] <;> rfl) | (simp [*, errW_none, errW_some] <;> rfl), by repeat (first | (with_reducible first | exact HI0.out | apply IsS60.alloc | apply IsS60.drewN | apply IsS60.drew | apply IsS60.set_0 | apply IsS60.set_1 | apply IsS60.set_2 | apply IsS60.set_3 | apply IsS60.set_4 | apply IsS60.set_6 | apply IsS60.set_8 | apply IsS60.set_9 | apply IsS60.set_10) | exact HI0.out), by repeat (first | (with_reducible first | exact HB.out | apply below_alloc | apply pw_below_drewN | apply below_drew1 | refine below_set ?_ (IsS60.ge HI0.out)) | exact HB.out), by repeat (first | (with_reducible first | exact HK.out | apply KeepBut.set_ | apply keep_drewN | apply keep_drew | apply keep_alloc) | exact HK.out)⟩
 ·
  replace c5 := Bool.eq_false_iff.mpr c5
  subst c5
  have H1 : (some (false, t122, t123, t124, t125, t126, t127, t128, t129, t130)) = some (r1, r2, r3, r4, r5, r6, r7, r8, r9, r10) := by rw [if_neg (show ¬ (false = true) by decide)] at H; exact H
  clear H
  have H := H1
  clear H1
  simp only [Option.some.injEq, Prod.mk.injEq] at H
  obtain ⟨rfl, rfl, rfl, rfl, rfl, rfl, rfl, rfl, rfl, rfl⟩ := H
  go_enter Tryz.func45, Tryz.ntmps45
  go_wp2_with (first | ((with_reducible refine gate_callee (f := 69) rfl ?_); refine goesL_ (some 10) rfl rfl Tryz.func69 (by kernel_rfl) rfl #[.pointer (some ⟨g, 0, none⟩), .int .i64 a1, .string a2] rfl (by (try simp only [List.map_toArray, List.map_cons, List.map_nil]); first | done | rfl | (simp only [List.length_drop, List.length_take]; rfl)) ?_; (with_reducible refine (query_reader_is.calls g s0_0 s0_1 s0_2 s0_3 s0_4 s0_5 s0_6 s0_7 s0_8 s0_9 s0_10 a1 a2 false t122 t123 t124 t125 t126 t127 t128 t129 t130 w0 _ ?side1 ?side2 A4.out).mono ?_); (case side1 => repeat (first | (with_reducible first | exact HI0.out | apply IsS60.alloc | apply IsS60.drewN | apply IsS60.drew | apply IsS60.set_0 | apply IsS60.set_1 | apply IsS60.set_2 | apply IsS60.set_3 | apply IsS60.set_4 | apply IsS60.set_6 | apply IsS60.set_8 | apply IsS60.set_9 | apply IsS60.set_10) | exact HI0.out)); (case side2 => repeat (first | (with_reducible first | exact HB.out | apply below_alloc | apply pw_below_drewN | apply below_drew1 | refine below_set ?_ (IsS60.ge HI0.out)) | exact HB.out)); rintro e w9 ⟨rfl, hi, hb, hk⟩; refine ⟨_, rfl, ?_⟩; have n0_ := Aside0.mk (KeepBut.trans (by repeat (first | (with_reducible first | exact HK.out | apply KeepBut.set_ | apply keep_drewN | apply keep_drew | apply keep_alloc) | exact HK.out)) hk (.inl rfl)); have n1_ := Aside0.mk (hb); have n2_ := Aside0.mk (hi); clear HK; clear HB; clear HI0; have HK := n0_; have HB := n1_; have HI0 := n2_; clear n0_ n1_ n2_; (try clear hb); (try clear hb2); (try clear hk); (try clear hi)))
  go_ret
  exact ⟨by first | rfl | (simp [errW_none, errW_some] <;> rfl) | (simp [*, errW_none, errW_some] <;> rfl), by repeat (first | (with_reducible first | exact HI0.out | apply IsS60.alloc | apply IsS60.drewN | apply IsS60.drew | apply IsS60.set_0 | apply IsS60.set_1 | apply IsS60.set_2 | apply IsS60.set_3 | apply IsS60.set_4 | apply IsS60.set_6 | apply IsS60.set_8 | apply IsS60.set_9 | apply IsS60.set_10) | exact HI0.out), by repeat (first | (with_reducible first | exact HB.out | apply below_alloc | apply pw_below_drewN | apply below_drew1 | refine below_set ?_ (IsS60.ge HI0.out)) | exact HB.out), by repeat (first | (with_reducible first | exact HK.out | apply KeepBut.set_ | apply keep_drewN | apply keep_drew | apply keep_alloc) | exact HK.out)⟩

-- NOT PRINTED: function 18 (query_reader_question)

-- NOT PRINTED: function 7 (query_Parse)

-- function 70 (cairnref32_small): by hand

-- function 71 (cairnref32_digit): by hand

-- function 47 (cairnref32_Name): by hand

-- function 32 (cairnref32_may): by hand

-- function 33 (cairnref32_Signs): by hand

-- function 34 (cairnref32_quoted): by hand

-- function 14 (cairnref32_Print): by hand

-- function 46 (cairnref32_next): by hand

-- function 19 (cairnref32_Tokens): by hand

-- NOT PRINTED: function 23 (cairnref32_Reader_is)

-- NOT PRINTED: function 20 (cairnref32_Reader_must)

-- NOT PRINTED: function 22 (cairnref32_Reader_name)

-- NOT PRINTED: function 21 (cairnref32_Reader_columns)

-- NOT PRINTED: function 24 (cairnref32_Reader_test)

-- function 115 (strconv_lower): by hand

-- function 116 (strconv_underscoreOK): by hand

-- NOT PRINTED: function 101 (strconv_ParseUint)

-- NOT PRINTED: function 83 (strconv_ParseInt)

-- NOT PRINTED: function 72 (strconv_Atoi_72)

-- NOT PRINTED: function 102 (stringslite_Clone)

-- NOT PRINTED: function 84 (strconv_syntaxError)

-- NOT PRINTED: function 85 (strconv_rangeError)

-- NOT PRINTED: function 103 (errors_New)

-- NOT PRINTED: function 86 (strconv_baseError)

-- NOT PRINTED: function 87 (strconv_bitSizeError)

-- NOT PRINTED: function 73 (strconv_toError)

-- function 48 (strconv_Atoi): by hand

/-! ### cairnref32_limit: function 25 -/
-- NOT PRINTED: function 8 (cairnref32_Parse)

-- function 9 (cairnlaw32_num): by hand

-- function 10 (cairnlaw32_same): by hand

-- NOT PRINTED: function 11 (cairnlaw32_known)

-- NOT PRINTED: function 3 (cairnlaw32_QueryParses)

-- NOT PRINTED: function 12 (cairnlaw32_mine)

-- function 15 (cairnlaw32_kept): by hand

-- NOT PRINTED: function 4 (cairnlaw32_QueryPrints)

-- NOT PRINTED: function 5 (cairnlaw32_QueryRound)

-- function 80 (slices_Index_string_string): by hand

-- function 56 (query_place): by hand

-- function 81 (query_Query_asked): by hand

-- function 57 (query_Query_values): by hand

-- function 58 (query_key): by hand

end Go.Proofs.YthhemephaabblaaGreatDoor.R
