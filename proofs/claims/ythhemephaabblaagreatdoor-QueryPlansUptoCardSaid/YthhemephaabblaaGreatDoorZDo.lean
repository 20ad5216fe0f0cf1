
import Derived.Test.YthhemephaabblaaGreatDoorZDl
import Derived.Test.YthhemephaabblaaGreatDoorZDm
import Derived.Test.YthhemephaabblaaGreatDoorZDn
import Derived.Test.YthhemephaabblaaGreatDoorCards
import Derived.Test.YthhemephaabblaaGreatDoorTie
import Derived.WalkKit
import Derived.ProofKit
import Derived.OpenShut
import Derived.Deep.DeepHandedRow
namespace Go.Proofs.YthhemephaabblaaGreatDoor.Hq
open Go.RowKit Go.Proofs.YthhemephaabblaaGreatDoorW.PrintWords Go.Proofs.YthhemephaabblaaGreatDoorW.PrintLast Go.Proofs.YthhemephaabblaaGreatDoorW.PrintMore Go.Proofs.YthhemephaabblaaGreatDoor Go.Proofs.YthhemephaabblaaGreatDoor.Q Go.Proofs.YthhemephaabblaaGreatDoor.R
set_option linter.unusedVariables false
set_option linter.unusedSimpArgs false
def MX (i0 e B : Nat) (L : List Value) (m : Value) (i : Nat) (W W' : World) : Prop := Ext W W' ∨ (i = i0 ∧ MkR e B L m W W')
theorem MX.ne {i0 e B i : Nat} {L : List Value} {m : Value} {W W' : World} (h : MX i0 e B L m i W W') (hi : i ≠ i0) : Ext W W' := h.elim id (fun h => absurd h.1 hi)
theorem MX.below {i0 e B i : Nat} {L : List Value} {m : Value} {W W' : World} (h : MX i0 e B L m i W W') (hB : B ≤ W.heap.size) : Below B W W' := h.elim (fun h => h.mono hB) (fun h => h.2.below hB)
theorem MX.or {i0 e B i : Nat} {L : List Value} {m : Value} {W W' : World} (h : MX i0 e B L m i W W') {u : Value} {L' : List Value} (hL : L'.length ≤ L.length ∨ L' = [m] ∨ L' = L ++ [m]) (hu : Or e B W u L') : Or e B W' u L' := h.elim (fun h => hu.ext h) (fun h => h.2.or hL hu)
theorem MX.other {i0 e B i : Nat} {L : List Value} {m : Value} {W W' : World} (h : MX i0 e B L m i W W') {k t : Nat} {cs : Array Value} (hk : W.heap[k]? = some (.cells cs t (0, 0))) (ht : t ≠ e) : W'.heap[k]? = some (.cells cs t (0, 0)) := h.elim (fun h => heap_below hk h) (fun h => h.2.other hk ht)
theorem goodJ_ext {P : Program} {Ri : World → World → Prop} {o : Oper} {a : Act} {w : World} {Gi : World → Value → Prop} (hR : ∀ W W', Ext W W' → Ri W W') (h : Go.Proofs.YthhemephaabblaaGreatDoorW.PrintLast.Good P o a w Gi) : GoodR Ri P o a w Gi := by
 rcases h with ⟨v, w', hr, hE, hg⟩ | ⟨f, vs, hr, hc⟩
 ·
  exact Or.inl ⟨v, w', hr, hR _ _ hE, hg⟩
 ·
  exact Or.inr ⟨f, vs, hr, hc.mono (fun e w' ⟨v, h1, h2, h3⟩ => ⟨v, h1, hR _ _ h2, h3⟩)⟩
theorem strC_or {w : World} {A : Option Addr} {xs : List (List UInt8)} (h : Kd.C Kd.string w A xs.length (xs.map strB)) : 0 < (xs.map sv).length → ∃ a, A = some a ∧ ∀ j u, (xs.map sv)[j]? = some u → w.cell? (a.add j) = some u := by
 intro hp
 obtain ⟨hn, bk, o, rfl, hbk, hcell⟩ := strC_cells h (by simpa using hp)
 refine ⟨_, rfl, fun j u hu => ?_⟩
 rw [List.getElem?_map] at hu
 cases hx : xs[j]? with
 | none => rw [hx] at hu; cases hu
 | some x =>
  rw [hx] at hu
  obtain rfl := Option.some.inj hu
  rw [addr_add]
  exact hcell j x hx
theorem grown_ext {W W' : World} (h : Ext W W') (row : Option Nat) : W.grownBy W' row := ⟨h.os, h.tape, h.output, h.size, fun k hk _ => h.block k hk⟩
theorem KB.ext0 {w w4 W : World} {g : Nat} (h : KB w4 W g) (hE : Ext w w4) (hg : w.heap.size ≤ g) : Ext w W :=
 ⟨h.2.2.1.trans hE.os, h.2.2.2.1.trans hE.tape, h.2.2.2.2.trans hE.output, Nat.le_trans hE.size h.1, fun k hk => (h.2.1 k (Nat.lt_of_lt_of_le hk hE.size) (by omega) (by simp)).trans (hE.block k hk)⟩
structure PS (w4 : World) (ib : Nat) (nm : ByteArray) (V1 : Value) (ks : Int) (ls : List (List Int)) (V : Value) (U : List Value) (W : World) : Prop where
 kb : KB w4 W ib
 zi : W.heap[ib]? = some (.cells #[.string nm, V1, .int .i64 ks, V] 49 (0, 0))
 xr : Xr w4.heap.size W V ls U
def PX (B1 B6 : Nat) (l : List Int) (V : Value) (U : List Value) (i : Nat) (W W' : World) : Prop :=
 Ext W W' ∨ (i = 6 ∧ MkR 3 B1 (l.map iv) (iv 77) W W') ∨ (i = 11 ∧ W.grownBy W' V.ownBlock ∧ (Or 50 B6 W V U → Or 50 B6 W' V U))
def PJ (B6 : Nat) (V : Value) (U : List Value) (wo W : World) : Prop := wo.grownBy W V.ownBlock ∧ Or 50 B6 W V U
section
variable {B1 B6 i : Nat} {l : List Int} {V : Value} {U : List Value} {W W' wo : World}
theorem PX.or3 (h : PX B1 B6 l V U i W W') (hV : ∀ k, V.ownBlock = some k → k < B1) {u : Value} {L' : List Value} (hL : L'.length ≤ (l.map iv).length ∨ L' = [(iv 77)] ∨ L' = (l.map iv) ++ [(iv 77)]) (hu : Or 3 B1 W u L') : Or 3 B1 W' u L' := by
 rcases h with h | ⟨_, h⟩ | ⟨_, h, _⟩
 ·
  exact hu.ext h
 ·
  exact h.or hL hu
 ·
  refine hu.move (fun k hk => h.block k (own_lt hu k hk).2 (fun e => ?_))
  have h1 := own_base hu k hk
  have h2 := hV k e.symm
  omega
theorem PX.rv (h : PX B1 B6 l V U i W W') (hV : ∀ k, V.ownBlock = some k → k < B1) {u : Value} (hu : Rv B1 W l u) : Rv B1 W' l u := by
 obtain ⟨b, c, h1, h2⟩ := hu
 exact ⟨b, c, h1, h.or3 hV (.inr (.inr rfl)) h2⟩
theorem PX.blk (h : PX B1 B6 l V U i W W') (hV : ∀ k, V.ownBlock = some k → k < B1) {b : Nat} {cs : Array Value} (hb : B1 ≤ b) (hu : W.heap[b]? = some (.cells cs 50 (0, 0))) : W'.heap[b]? = some (.cells cs 50 (0, 0)) := by
 rcases h with h | ⟨_, h⟩ | ⟨_, h, _⟩
 ·
  exact heap_below hu h
 ·
  exact h.other hu (by decide)
 ·
  refine (h.block b (blk_lt hu) (fun e => ?_)).trans hu
  have h2 := hV b e.symm
  omega
theorem or50_mark {u : Value} {L : List Value} (hu : Or 50 B6 W u L) (h : MkR 3 B1 (l.map iv) (iv 77) W W') : Or 50 B6 W' u L := by
 refine hu.move (fun k hk => ?_)
 obtain ⟨cs, hc⟩ := own_typed hu k hk
 rw [hc]
 exact h.other hc (by decide)
theorem PX.or50 (h : PX B1 B6 l V U i W W') (hi : i ≠ 11) {u : Value} {L : List Value} (hu : Or 50 B6 W u L) : Or 50 B6 W' u L := by
 rcases h with h | ⟨_, h⟩ | ⟨h0, _, _⟩
 ·
  exact hu.ext h
 ·
  exact or50_mark hu h
 ·
  exact absurd h0 hi
theorem PX.pj (hB : B1 = wo.heap.size) (hJ : PJ B6 V U wo W) (h : PX B1 B6 l V U i W W') : PJ B6 V U wo W' := by
 rcases h with h | ⟨_, h⟩ | ⟨_, h, h2⟩
 ·
  exact ⟨hJ.1.trans (grown_ext h _), hJ.2.ext h⟩
 ·
  obtain ⟨v, hO, hG, _⟩ := id h
  refine ⟨⟨hG.os.trans hJ.1.os, hG.tape.trans hJ.1.tape, hG.output.trans hJ.1.output, Nat.le_trans hJ.1.size hG.size, fun k hk hne => (hG.block k (Nat.lt_of_lt_of_le hk hJ.1.size) (fun e => ?_)).trans (hJ.1.block k hk hne)⟩, or50_mark hJ.2 h⟩
  have := own_base hO k e.symm
  omega
 ·
  exact ⟨hJ.1.trans h, h2 hJ.2⟩
theorem PJ.size (hJ : PJ B6 V U wo W) : wo.heap.size ≤ W.heap.size := hJ.1.size
theorem PJ.blk (hJ : PJ B6 V U wo W) {b t : Nat} {cs : Array Value} (hb : b < B6) (hu : wo.heap[b]? = some (.cells cs t (0, 0))) : W.heap[b]? = some (.cells cs t (0, 0)) := by
 refine (hJ.1.block b (blk_lt hu) (fun e => ?_)).trans hu
 have := own_base hJ.2 b e.symm
 omega
theorem PJ.ext {w : World} (hJ : PJ B6 V U wo W) (hE : Ext w wo) (hB : w.heap.size ≤ B6) : Ext w W := by
 refine ⟨hJ.1.os.trans hE.os, hJ.1.tape.trans hE.tape, hJ.1.output.trans hE.output, Nat.le_trans hE.size hJ.1.size, fun k hk => (hJ.1.block k (Nat.lt_of_lt_of_le hk hE.size) (fun e => ?_)).trans (hE.block k hk)⟩
 have := own_base hJ.2 k e.symm
 omega
theorem Or.far {e B g k : Nat} {w : World} {v u : Value} {L : List Value} (h : Or e B w v L) (hg : g < B) : Or e B (w.setCell ⟨g, k, none⟩ u) v L := by
 refine h.move (fun b hb => Below.heap_setCell _ _ _ _ ?_)
 have := own_base h b hb
 show b ≠ g
 omega
theorem PS.next {w4 wz : World} {ib : Nat} {nm : ByteArray} {V1 : Value} {ks : Int} {ls : List (List Int)} {v u : Value} (hS : PS w4 ib nm V1 ks ls V U wo) (hi : ib < w4.heap.size) (hJ : PJ w4.heap.size V U wo wz) (hO : Or 50 w4.heap.size wz v (U ++ [u])) (hR : Rv wo.heap.size wz l u) :
  PS w4 ib nm V1 ks (ls ++ [l]) v (U ++ [u]) (wz.setCell ⟨ib, 3, none⟩ v) := by
 have hz := hJ.blk hi hS.zi
 refine ⟨⟨by have := Nat.le_trans hS.kb.1 hJ.size; simpa [World.setCell] using this, fun k hk hne hn => ?_, ?_, ?_, ?_⟩, ?_, hO.far hi, by simp [hS.xr.len], fun j x y hx hy => ?_⟩
 ·
  refine (Below.heap_setCell _ _ _ _ hne).trans ((hJ.1.block k (Nat.lt_of_lt_of_le hk hS.kb.1) (fun e => ?_)).trans (hS.kb.2.1 k hk hne hn))
  have := own_base hJ.2 k e.symm
  omega
 ·
  exact hJ.1.os.trans hS.kb.2.2.1
 ·
  exact hJ.1.tape.trans hS.kb.2.2.2.1
 ·
  exact hJ.1.output.trans hS.kb.2.2.2.2
 ·
  have := blk_set hz 3 v
  simpa using this
 ·
  by_cases hj : j < ls.length
  ·
   rw [List.getElem?_append_left hj] at hx
   rw [List.getElem?_append_left (by rw [hS.xr.len]; exact hj)] at hy
   obtain ⟨b, c, h1, h2⟩ := hS.xr.each j x y hx hy
   refine ⟨b, c, h1, Or.far (h2.move (fun k hk => hJ.1.block k (own_lt h2 k hk).2 (fun e => ?_))) hi⟩
   obtain ⟨c1, e1⟩ := own_typed h2 k hk
   obtain ⟨c2, e2⟩ := own_typed hS.xr.own k e.symm
   rw [e1] at e2
   injection e2 with e2
   injection e2 with _ e3 _
   exact absurd e3 (by decide)
  ·
   have hjl : j = ls.length := by
    have := (List.getElem?_eq_some_iff.1 hx).1
    rw [List.length_append] at this
    simp at this
    omega
   subst hjl
   rw [List.getElem?_append_right (Nat.le_refl _)] at hx
   rw [List.getElem?_append_right (by rw [hS.xr.len]; exact Nat.le_refl _)] at hy
   simp [hS.xr.len] at hx hy
   subst hx hy
   obtain ⟨b, c, h1, h2⟩ := hR.less hS.kb.1
   exact ⟨b, c, h1, h2.far hi⟩
end
set_option maxRecDepth 100000 in
set_option maxHeartbeats 6400000 in
theorem queryPlans_calls (nm : ByteArray) (cols : List (List UInt8)) (ks : Int) (idx : List (List Int)) (q : Qry) (hok : okQ q) (A1 : Option Addr) (c1 : Nat) (A3 : Option Addr) (c3 : Nat) (A5 : Option Addr) (c5 : Nat) (A7 : Option Addr) (c7 : Nat) (w : World) (hG : Glob w)
  (h1 : Kd.C Kd.string w A1 cols.length (cols.map strB)) (hc1 : cols.length ≤ c1) (h3 : Kd.C (Kd.slice 3 (Kd.int .i64)) w A3 idx.length idx) (hc3 : idx.length ≤ c3) (h5 : Kd.C Kd.string w A5 q.cols.length (q.cols.map strB)) (hc5 : q.cols.length ≤ c5) (h7 : Kd.C k70 w A7 q.wh.length (q.wh.map t70)) (hc7 : q.wh.length ≤ c7)
  (hl1 : cols.length ≤ 2000000) (hl3 : idx.length ≤ 2000000) (hle : ∀ x ∈ idx, x.length ≤ 2000000) (hl5 : q.cols.length ≤ 2000000) (hl7 : q.wh.length ≤ 2000000) :
  Calls Tryz.prog 6 #[.agg #[.string nm, .slice A1 cols.length c1, .int .i64 ks, .slice A3 idx.length c3], qval q (.slice A5 q.cols.length c5) (.slice A7 q.wh.length c7)] w fun e w' => e = .returned (.bool true) ∧ Ext w w' := by
 unfold qval
 have H1 := Aside0.mk h1
 have H3 := Aside0.mk h3
 have H5 := Aside0.mk h5
 have H7 := Aside0.mk h7
 have HG := Aside0.mk hG
 have HOK := Aside0.mk hok
 have HLE := Aside0.mk hle
 clear h1 h3 h5 h7 hG hok hle
 go_enter Tryz.func6, Tryz.ntmps6
 go_upto_region 1 with fail
 obtain ⟨w1, hw1⟩ : ∃ W, W = (w.alloc (.cells #[.string nm, .slice A1 cols.length c1, .int .i64 ks, .slice A3 idx.length c3] 49)).alloc (.cells #[.slice A5 q.cols.length c5, .string (strB q.tab), .slice A7 q.wh.length c7, .string (strB q.ord), .bool q.down, .int .i64 q.lim] 31) := ⟨_, rfl⟩
 have hE1 : Ext w w1 := by rw [hw1]; exact ((Ext.refl w).alloc _).alloc _
 have hzs : w1.heap[w.heap.size]? = some (.cells #[.string nm, .slice A1 cols.length c1, .int .i64 ks, .slice A3 idx.length c3] 49 (0, 0)) := by rw [hw1]; exact heap_alloc2_old w _ _
 have hz : w1.heap[w.heap.size + 1]? = some (.cells #[.slice A5 q.cols.length c5, .string (strB q.tab), .slice A7 q.wh.length c7, .string (strB q.ord), .bool q.down, .int .i64 q.lim] 31 (0, 0)) := by rw [hw1]; have := heap_alloc_new (w.alloc (.cells #[.string nm, .slice A1 cols.length c1, .int .i64 ks, .slice A3 idx.length c3] 49)) (.cells #[.slice A5 q.cols.length c5, .string (strB q.tab), .slice A7 q.wh.length c7, .string (strB q.ord), .bool q.down, .int .i64 q.lim] 31); simpa using this
 rw [← hw1]
 obtain ⟨sb, hsb⟩ : ∃ n, n = w.heap.size := ⟨_, rfl⟩
 obtain ⟨ab, hab⟩ : ∃ n, n = w.heap.size + 1 := ⟨_, rfl⟩
 rw [← hab] at hz ⊢
 rw [← hsb] at hzs ⊢
 clear hw1 hab hsb
 have s1 : w1.cell? ⟨sb, 1, none⟩ = some (.slice A1 cols.length c1) := blk_cell hzs 1
 have y0 := blk_cell hz 0
 have y1 := blk_cell hz 1
 have y2 := blk_cell hz 2
 have y3 := blk_cell hz 3
 have y4 := blk_cell hz 4
 have y5 := blk_cell hz 5
 have HZS0 := Aside0.mk hzs
 have HZA0 := Aside0.mk hz
 have HX := Aside0.mk hE1
 clear hE1 hz hzs
 have hm : Calls Tryz.prog 12 #[.agg #[.slice A5 q.cols.length c5, .string (strB q.tab), .slice A7 q.wh.length c7, .string (strB q.ord), .bool q.down, .int .i64 q.lim]] w1 _ := mine_calls q A5 c5 A7 c7 w1 (Kd.C_below H5.out HX.out) hc5 (Kd.C_below H7.out HX.out) hc7 hl5 hl7
 go_upto_region 2 with (go_at_call 12; (with_reducible refine hm.mono ?_); rintro e w2 ⟨v5, v7, rfl, ⟨⟨b5, d5, rfl, hs5⟩, ⟨b7, d7, rfl, hs7⟩⟩, hE2⟩; unfold qval; have HX := Aside0.mk (HX.out.trans hE2); have HS5 := Aside0.mk hs5; have HS7 := Aside0.mk hs7; have y0 := cell_ext hE2 y0; have y1 := cell_ext hE2 y1; have y2 := cell_ext hE2 y2; have y3 := cell_ext hE2 y3; have y4 := cell_ext hE2 y4; have y5 := cell_ext hE2 y5; have s1 := cell_ext hE2 s1; have HZS0 := Aside0.mk (heap_below HZS0.out hE2); have HZA0 := Aside0.mk (heap_below HZA0.out hE2); clear hE2 hs5 hs7)
 clear hm
 obtain ⟨w3, hw3⟩ : ∃ W, W = w2.alloc (.cells #[.slice (some ⟨b5, 0, none⟩) q.cols.length d5, .string (strB q.tab), .slice (some ⟨b7, 0, none⟩) q.wh.length d7, .string (strB q.ord), .bool q.down, .int .i64 q.lim] 25) := ⟨_, rfl⟩
 have hE3 : Ext w2 w3 := by rw [hw3]; exact (Ext.refl w2).alloc _
 have hz : w3.heap[w2.heap.size]? = some (.cells #[.slice (some ⟨b5, 0, none⟩) q.cols.length d5, .string (strB q.tab), .slice (some ⟨b7, 0, none⟩) q.wh.length d7, .string (strB q.ord), .bool q.down, .int .i64 q.lim] 25 (0, 0)) := by rw [hw3]; exact heap_alloc_new _ _
 obtain ⟨pb, hpb⟩ : ∃ n, n = w2.heap.size := ⟨_, rfl⟩
 rw [← hpb] at hz
 rw [← hw3, ← hpb]
 have HX := Aside0.mk (HX.out.trans hE3)
 have HS5 := Aside0.mk (HS5.out.ext hE3)
 have HS7 := Aside0.mk (HS7.out.ext hE3)
 have HZS0 := Aside0.mk (heap_below HZS0.out hE3)
 have HZA0 := Aside0.mk (heap_below HZA0.out hE3)
 have HZP0 := Aside0.mk hz
 clear hw3 hpb hz hE3 y0 y1 y2 y3 y4 y5 s1
 obtain ⟨B, hB⟩ : ∃ n, n = w3.heap.size := ⟨_, rfl⟩
 have hsB : sb < B := by rw [hB]; exact blk_lt HZS0.out
 have HZS : Aside0 (∀ W, Below B w3 W → W.heap[sb]? = some (.cells #[.string nm, .slice A1 cols.length c1, .int .i64 ks, .slice A3 idx.length c3] 49 (0, 0))) := ⟨fun W hW => (hW.block sb hsB).trans HZS0.out⟩
 have HSZ : Aside0 (∀ W, Below B w3 W → B ≤ W.heap.size) := ⟨fun W hW => by have := hW.size; omega⟩
 have HKC : Aside0 (∀ W, Below B w3 W → 0 < (cols.map sv).length → ∃ a, A1 = some a ∧ ∀ j u, (cols.map sv)[j]? = some u → W.cell? (a.add j) = some u) := ⟨fun W hW => strC_or (Kd.C_below H1.out (below_ext HX.out (by rw [hB] at hW; exact hW)))⟩
 have HJ2 : Aside0 (Below B w3 w3.drew) := ⟨(Below.refl _ _).drew⟩
 have HB := Aside0.mk hB
 clear hsB hB
 refine exj_tail (Below B w3) (MX 7 9 B (cols.map sv) (sv wMark)) 17 [(0, 21), (1, 22), (2, 23), (3, 24), (4, 25), (5, 26), (6, 27), (7, 28), (8, 29), (9, 30), (10, 31), (11, 32), (12, 33), (13, 34), (14, 35), (15, 6)] [0, 1, 2, 3, 4, 5, 6, 7, 8, 9, 10, 11, 12, 13, 14, 15] (fun i w v => match i with | 0 => v = .pointer (some ⟨sb, 0, none⟩) | 1 => v = .string nm | 2 => ∃ b, v = .slice (some ⟨b, 0, none⟩) 0 0 ∧ Or 9 B w v [] | 3 => v = .pointer (some ⟨sb, 1, none⟩) | 4 => v = .slice A1 cols.length c1 | 5 => Or 9 B w v (cols.map sv) | 6 => Or 9 B w v [(sv wMark)] | 7 => Or 9 B w v ((cols.map sv) ++ [(sv wMark)]) | 8 => v = .pointer (some ⟨sb, 1, none⟩) | 9 => v = .slice A1 cols.length c1 | 10 => v = .int .i64 (cols.length : Nat) | 11 => ∃ b cp, v = .slice (some ⟨b, 0, none⟩) cols.length cp ∧ Or 9 B w (.slice (some ⟨b, 0, none⟩) (cols.length + 1) cp) ((cols.map sv) ++ [(sv wMark)]) | 12 => v = .pointer (some ⟨sb, 2, none⟩) | 13 => v = .int .i64 ks | 14 => ∃ b cp, v = .agg #[.string nm, .slice (some ⟨b, 0, none⟩) cols.length cp, .int .i64 ks, .slice none 0 0] ∧ Or 9 B w (.slice (some ⟨b, 0, none⟩) (cols.length + 1) cp) ((cols.map sv) ++ [(sv wMark)]) | 15 => ∃ b, v = .pointer (some ⟨b, 0, none⟩) ∧ B ≤ b ∧ w.heap[b]? = some (.cells #[.string ⟨#[]⟩, .slice none 0 0, .int .i64 0, .slice none 0 0] 49 (0, 0)) | _ => True) (by kernel_rfl) (by kernel_rfl) (by rfl) rfl ?j2 ?rj2 ?r2 ?mono2 ?steps2 ?fin2
 case j2 => exact HJ2.out
 case rj2 =>
  intro i W W' hJ hR
  exact hJ.trans (hR.below (HSZ.out W hJ))
 case r2 => exact fun i W => Or.inl (Ext.refl W)
 case mono2 =>
  intro i j w w' v hne h hR
  match j with
  | 0 => exact h
  | 1 => exact h
  | 2 => exact (by obtain ⟨b, h1, h2⟩ := h; exact ⟨b, h1, hR.or (.inl (Nat.zero_le _)) h2⟩)
  | 3 => exact h
  | 4 => exact h
  | 5 => exact hR.or (.inl (Nat.le_refl _)) h
  | 6 => exact hR.or (.inr (.inl rfl)) h
  | 7 => exact Or.ext h (hR.ne hne.symm)
  | 8 => exact h
  | 9 => exact h
  | 10 => exact h
  | 11 => exact (by obtain ⟨b, cp, h1, h2⟩ := h; exact ⟨b, cp, h1, hR.or (.inr (.inr rfl)) h2⟩)
  | 12 => exact h
  | 13 => exact h
  | 14 => exact (by obtain ⟨b, cp, h1, h2⟩ := h; exact ⟨b, cp, h1, hR.or (.inr (.inr rfl)) h2⟩)
  | 15 => exact (by obtain ⟨b, h1, h2, h3⟩ := h; exact ⟨b, h1, h2, hR.other h3 (by decide)⟩)
  | _ + 16 => trivial
 case steps2 =>
  refine stepJ_cons ⟨_, rfl, fun a w hE hH => ?_⟩ ?_
  ·
   have e2 : a.tmps[2]? = some (.pointer (some ⟨sb, 0, none⟩)) := hH.old 2 rfl
   exact Or.inl ⟨rfl, goodJ_ext (fun W W' h => Or.inl h) (goodE_val (.pointer (some ⟨sb, 0, none⟩)) (by simp [execOp, Act.eval, e2, go_sem]) rfl)⟩
  refine stepJ_cons ⟨_, rfl, fun a w hE hH => ?_⟩ ?_
  ·
   obtain ⟨v21, e21, g21⟩ := hH.dep 0 21 rfl (by kernel_rfl)
   have q21 : v21 = .pointer (some ⟨sb, 0, none⟩) := g21
   subst q21
   have hc : w.cell? ⟨sb, 0, none⟩ = some (.string nm) := blk_cell (HZS.out w hE) 0
   exact Or.inl ⟨(rfl), goodJ_ext (fun W W' h => Or.inl h) (goodE_val (.string nm) (by simp [execOp, Act.eval, e21, hc, go_sem]) rfl)⟩
  refine stepJ_cons ⟨_, rfl, fun a w hE hH => ?_⟩ ?_
  ·
   exact Or.inl ⟨(rfl), goodJ_new (.slice (some ⟨w.heap.size, 0, none⟩) 0 0) (w.alloc (.cells #[] 9)) (by simp [execOp, Act.eval, go_sem]) (Or.inl ((Ext.refl w).alloc _)) ⟨_, rfl, Or.lit #[] (L := []) (HSZ.out w hE) rfl (by simp)⟩⟩
  refine stepJ_cons ⟨_, rfl, fun a w hE hH => ?_⟩ ?_
  ·
   have e2 : a.tmps[2]? = some (.pointer (some ⟨sb, 0, none⟩)) := hH.old 2 rfl
   exact Or.inl ⟨rfl, goodJ_ext (fun W W' h => Or.inl h) (goodE_val (.pointer (some ⟨sb, 1, none⟩)) (by simp [execOp, Act.eval, e2, go_sem]) rfl)⟩
  refine stepJ_cons ⟨_, rfl, fun a w hE hH => ?_⟩ ?_
  ·
   obtain ⟨v24, e24, g24⟩ := hH.dep 3 24 rfl (by kernel_rfl)
   have q24 : v24 = .pointer (some ⟨sb, 1, none⟩) := g24
   subst q24
   have hc : w.cell? ⟨sb, 1, none⟩ = some (.slice A1 cols.length c1) := blk_cell (HZS.out w hE) 1
   exact Or.inl ⟨(rfl), goodJ_ext (fun W W' h => Or.inl h) (goodE_val (.slice A1 cols.length c1) (by simp [execOp, Act.eval, e24, hc, go_sem]) rfl)⟩
  refine stepJ_cons ⟨_, rfl, fun a w hE hH => ?_⟩ ?_
  ·
   obtain ⟨v23, e23, g23⟩ := hH.dep 2 23 rfl (by kernel_rfl)
   obtain ⟨v25, e25, g25⟩ := hH.dep 4 25 rfl (by kernel_rfl)
   have q25 : v25 = .slice A1 cols.length c1 := g25
   subst q25
   obtain ⟨b, rfl, hO⟩ := g23
   obtain ⟨v1, w1, hr, hS1, hE1⟩ := copy_app (c0 := c1) 22 Tryz.underlying22 Hq.info9 rfl (by decide) (by decide) hO (HKC.out w hE) (sv_one cols) (HSZ.out w hE) (by simp; omega)
   rw [List.length_map] at hr
   exact Or.inl ⟨(rfl), goodJ_new v1 w1 (exec_append (s := .tmp 23) (x := .tmp 25) rfl (by simpa [Act.eval, e23, e25] using hr)) (Or.inl hE1) hS1⟩
  refine stepJ_cons ⟨_, rfl, fun a w hE hH => ?_⟩ ?_
  ·
   exact Or.inl ⟨(rfl), goodJ_new (.slice (some ⟨w.heap.size, 0, none⟩) 1 1) (w.alloc (.cells #[.string ⟨#[109, 97, 114, 107]⟩] 9)) (by simp [execOp, Act.eval, go_sem]) (Or.inl ((Ext.refl w).alloc _)) (Or.lit #[.string ⟨#[109, 97, 114, 107]⟩] (L := [(sv wMark)]) (HSZ.out w hE) rfl (by simp))⟩
  refine stepJ_cons ⟨_, rfl, fun a w hE hH => ?_⟩ ?_
  ·
   obtain ⟨v26, e26, g26⟩ := hH.dep 5 26 rfl (by kernel_rfl)
   obtain ⟨v27, e27, g27⟩ := hH.dep 6 27 rfl (by kernel_rfl)
   obtain ⟨v1, w1, hr, hS1, hM1⟩ := mark_app 22 Tryz.underlying22 Hq.info9 rfl (by decide) (by decide) g26 g27 rfl (HSZ.out w hE) (by simp; omega)
   exact Or.inl ⟨(rfl), goodJ_new v1 w1 (exec_append (s := .tmp 26) (x := .tmp 27) rfl (by simpa [Act.eval, e26, e27] using hr)) (Or.inr ⟨rfl, hM1⟩) hS1⟩
  refine stepJ_cons ⟨_, rfl, fun a w hE hH => ?_⟩ ?_
  ·
   have e2 : a.tmps[2]? = some (.pointer (some ⟨sb, 0, none⟩)) := hH.old 2 rfl
   exact Or.inl ⟨rfl, goodJ_ext (fun W W' h => Or.inl h) (goodE_val (.pointer (some ⟨sb, 1, none⟩)) (by simp [execOp, Act.eval, e2, go_sem]) rfl)⟩
  refine stepJ_cons ⟨_, rfl, fun a w hE hH => ?_⟩ ?_
  ·
   obtain ⟨v29, e29, g29⟩ := hH.dep 8 29 rfl (by kernel_rfl)
   have q29 : v29 = .pointer (some ⟨sb, 1, none⟩) := g29
   subst q29
   have hc : w.cell? ⟨sb, 1, none⟩ = some (.slice A1 cols.length c1) := blk_cell (HZS.out w hE) 1
   exact Or.inl ⟨(rfl), goodJ_ext (fun W W' h => Or.inl h) (goodE_val (.slice A1 cols.length c1) (by simp [execOp, Act.eval, e29, hc, go_sem]) rfl)⟩
  refine stepJ_cons ⟨_, rfl, fun a w hE hH => ?_⟩ ?_
  ·
   obtain ⟨v30, e30, g30⟩ := hH.dep 9 30 rfl (by kernel_rfl)
   have q30 : v30 = .slice A1 cols.length c1 := g30
   subst q30
   exact Or.inl ⟨rfl, goodJ_ext (fun W W' h => Or.inl h) (goodE_val (.int .i64 (cols.length : Nat)) (by simp [execOp, Act.eval, e30, go_sem]) rfl)⟩
  refine stepJ_cons ⟨_, rfl, fun a w hE hH => ?_⟩ ?_
  ·
   obtain ⟨v28, e28, g28⟩ := hH.dep 7 28 rfl (by kernel_rfl)
   obtain ⟨v31, e31, g31⟩ := hH.dep 10 31 rfl (by kernel_rfl)
   have q31 : v31 = .int .i64 (cols.length : Nat) := g31
   subst q31
   obtain ⟨b, cp, rfl, hcp, _⟩ := Or.form g28 (by simp)
   rw [show ((cols.map sv) ++ [(sv wMark)]).length = cols.length + 1 by simp] at g28 e28 hcp
   exact Or.inl ⟨(rfl), goodJ_new (.slice (some ⟨b, 0, none⟩) cols.length cp) w (exec_sliceT elem22 rfl (by simpa [Act.eval, e28, e31] using sr_cut (W := w) (some ⟨b, 0, none⟩) (cols.length + 1) cp cols.length (by omega))) (Or.inl (Ext.refl w)) ⟨b, cp, rfl, g28⟩⟩
  refine stepJ_cons ⟨_, rfl, fun a w hE hH => ?_⟩ ?_
  ·
   have e2 : a.tmps[2]? = some (.pointer (some ⟨sb, 0, none⟩)) := hH.old 2 rfl
   exact Or.inl ⟨rfl, goodJ_ext (fun W W' h => Or.inl h) (goodE_val (.pointer (some ⟨sb, 2, none⟩)) (by simp [execOp, Act.eval, e2, go_sem]) rfl)⟩
  refine stepJ_cons ⟨_, rfl, fun a w hE hH => ?_⟩ ?_
  ·
   obtain ⟨v33, e33, g33⟩ := hH.dep 12 33 rfl (by kernel_rfl)
   have q33 : v33 = .pointer (some ⟨sb, 2, none⟩) := g33
   subst q33
   have hc : w.cell? ⟨sb, 2, none⟩ = some (.int .i64 ks) := blk_cell (HZS.out w hE) 2
   exact Or.inl ⟨(rfl), goodJ_ext (fun W W' h => Or.inl h) (goodE_val (.int .i64 ks) (by simp [execOp, Act.eval, e33, hc, go_sem]) rfl)⟩
  refine stepJ_cons ⟨_, rfl, fun a w hE hH => ?_⟩ ?_
  ·
   obtain ⟨v22, e22, g22⟩ := hH.dep 1 22 rfl (by kernel_rfl)
   have q22 : v22 = .string nm := g22
   subst q22
   obtain ⟨v32, e32, g32⟩ := hH.dep 11 32 rfl (by kernel_rfl)
   obtain ⟨v34, e34, g34⟩ := hH.dep 13 34 rfl (by kernel_rfl)
   have q34 : v34 = .int .i64 ks := g34
   subst q34
   obtain ⟨b, cp, rfl, hO⟩ := g32
   exact Or.inl ⟨(rfl), goodJ_new (.agg #[.string nm, .slice (some ⟨b, 0, none⟩) cols.length cp, .int .i64 ks, .slice none 0 0]) w (by simp [execOp, Act.eval, e22, e32, e34, go_sem]) (Or.inl (Ext.refl w)) ⟨b, cp, rfl, hO⟩⟩
  refine stepJ_cons ⟨_, rfl, fun a w hE hH => ?_⟩ ?_
  ·
   exact Or.inl ⟨(rfl), goodJ_new (.pointer (some ⟨w.heap.size, 0, none⟩)) (w.alloc (.cells #[.string ⟨#[]⟩, .slice none 0 0, .int .i64 0, .slice none 0 0] 49)) (by simp [execOp, Act.eval, go_sem]) (Or.inl ((Ext.refl w).alloc _)) ⟨_, rfl, HSZ.out w hE, heap_alloc_new _ _⟩⟩
  exact stepJ_nil
 refine ⟨⟨none, .store 49 (.tmp 6) (.tmp 35), _, _, _, none⟩, rfl, ?_⟩
 rintro vals wz hE hV
 have k6 : ∃ b, (vals 15) = .pointer (some ⟨b, 0, none⟩) ∧ B ≤ b ∧ wz.heap[b]? = some (.cells #[.string ⟨#[]⟩, .slice none 0 0, .int .i64 0, .slice none 0 0] 49 (0, 0)) := hV 15 (by simp) rfl
 have k35 : ∃ b cp, (vals 14) = .agg #[.string nm, .slice (some ⟨b, 0, none⟩) cols.length cp, .int .i64 ks, .slice none 0 0] ∧ Or 9 B wz (.slice (some ⟨b, 0, none⟩) (cols.length + 1) cp) ((cols.map sv) ++ [(sv wMark)]) := hV 14 (by simp) rfl
 refine ⟨rfl, ?_⟩
 intro KK hKK
 simp only [List.map_cons, List.map_nil, putAll, Act.put, List.setIfInBounds_toArray, List.set_cons_zero, List.set_cons_succ]
 obtain ⟨ib, hv6, hiB, hzi⟩ := k6
 obtain ⟨b1, e1, hv35, hO1⟩ := k35
 rw [hv6, hv35]
 have hi0 := blk_cell hzi 0
 have hi1 := blk_cell hzi 1
 have hi2 := blk_cell hzi 2
 have hi3 := blk_cell hzi 3
 have hf0 := blk_frozen hzi 0
 have hf1 := blk_frozen hzi 1
 have hf2 := blk_frozen hzi 2
 have hf3 := blk_frozen hzi 3
 refine finE_skip (w1 := (((wz.setCell ⟨ib, 0, none⟩ (.string nm)).setCell ⟨ib, 1, none⟩ (.slice (some ⟨b1, 0, none⟩) cols.length e1)).setCell ⟨ib, 2, none⟩ (.int .i64 ks)).setCell ⟨ib, 3, none⟩ (.slice none 0 0)) (by simp [execOp, Act.eval, hi0, hi1, hi2, hi3, hf0, hf1, hf2, hf3, go_sem]) (hKK _ _ ?_)
 have hz4 : ((((wz.setCell ⟨ib, 0, none⟩ (.string nm)).setCell ⟨ib, 1, none⟩ (.slice (some ⟨b1, 0, none⟩) cols.length e1)).setCell ⟨ib, 2, none⟩ (.int .i64 ks)).setCell ⟨ib, 3, none⟩ (.slice none 0 0)).heap[ib]? = some (.cells #[.string nm, .slice (some ⟨b1, 0, none⟩) cols.length e1, .int .i64 ks, .slice none 0 0] 49 (0, 0)) := by
  have := blk_set (blk_set (blk_set (blk_set hzi 0 (.string nm)) 1 (.slice (some ⟨b1, 0, none⟩) cols.length e1)) 2 (.int .i64 ks)) 3 (.slice none 0 0)
  simpa using this
 have hne : b1 ≠ ib := by
  obtain ⟨cs, hcs⟩ := own_typed hO1 b1 (by simp [Value.ownBlock])
  intro e
  rw [e, hzi] at hcs
  injection hcs with hcs
  injection hcs with _ h3 _
  exact absurd h3 (by decide)
 have hO4 : Or 9 B ((((wz.setCell ⟨ib, 0, none⟩ (.string nm)).setCell ⟨ib, 1, none⟩ (.slice (some ⟨b1, 0, none⟩) cols.length e1)).setCell ⟨ib, 2, none⟩ (.int .i64 ks)).setCell ⟨ib, 3, none⟩ (.slice none 0 0)) (.slice (some ⟨b1, 0, none⟩) (cols.length + 1) e1) ((cols.map sv) ++ [(sv wMark)]) := by
  refine hO1.move (fun k hk => ?_)
  have hk2 : k = b1 := by simpa [Value.ownBlock] using hk.symm
  subst hk2
  exact (Below.heap_setCell _ _ _ _ hne).trans ((Below.heap_setCell _ _ _ _ hne).trans ((Below.heap_setCell _ _ _ _ hne).trans (Below.heap_setCell _ _ _ _ hne)))
 have hE4 : Below B w3 ((((wz.setCell ⟨ib, 0, none⟩ (.string nm)).setCell ⟨ib, 1, none⟩ (.slice (some ⟨b1, 0, none⟩) cols.length e1)).setCell ⟨ib, 2, none⟩ (.int .i64 ks)).setCell ⟨ib, 3, none⟩ (.slice none 0 0)) := (((hE.setCell hiB _).setCell hiB _).setCell hiB _).setCell hiB _
 generalize ((((wz.setCell ⟨ib, 0, none⟩ (.string nm)).setCell ⟨ib, 1, none⟩ (.slice (some ⟨b1, 0, none⟩) cols.length e1)).setCell ⟨ib, 2, none⟩ (.int .i64 ks)).setCell ⟨ib, 3, none⟩ (.slice none 0 0)) = w4 at hz4 hO4 hE4 ⊢
 rw [HB.out] at hE4
 have HX4 := Aside0.mk (HX.out.trans hE4)
 have HO4 := Aside0.mk hO4
 have HE4 := Aside0.mk hE4
 have hib : ib < w4.heap.size := blk_lt hz4
 have hiw : w.heap.size ≤ ib := by have h1 := HX.out.size; have h2 := HB.out; omega
 have HIB := Aside0.mk (And.intro hib (And.intro hiw (And.intro (show B ≤ ib from hiB) hne)))
 obtain ⟨V1, hV1⟩ : ∃ v, v = Value.slice (some ⟨b1, 0, none⟩) cols.length e1 := ⟨_, rfl⟩
 rw [← hV1] at hz4
 have HS : Aside0 (PS w4 ib nm V1 ks [] (.slice none 0 0) [] w4) := ⟨⟨⟨Nat.le_refl _, fun _ _ _ _ => rfl, rfl, rfl, rfl⟩, hz4, ⟨World.ownsRow_nil _ _ _ _, rfl, fun j l u h => by simp at h⟩⟩⟩
 have HV1 := Aside0.mk hV1
 have hs3 : w4.cell? ⟨sb, 3, none⟩ = some (.slice A3 idx.length c3) := blk_cell (HZS.out w4 (by rw [HB.out]; exact hE4)) 3
 clear hKK hv6 hv35 hiB hzi hO1 hi0 hi1 hi2 hi3 hf0 hf1 hf2 hf3 hz4 hne hO4 hE4 hib hiw hV1 hE hV HJ2 HKC
 go_wp2_with fail
 go_loopw [39] (fun s39 W => ∃ (j : Nat) (V : Value) (U : List Value), j ≤ idx.length ∧ s39 = .int .i64 j ∧ PS w4 ib nm V1 ks (idx.take j) V U W) (fun v _ => idx.length - (intOf v).toNat)
 case atStart => exact ⟨0, .slice none 0 0, [], by omega, rfl, HS.out⟩
 case round =>
 clear HS hs3
 obtain ⟨wo, hwo⟩ : ∃ wo : World, wo = wr := ⟨_, rfl⟩
 subst hwo
 obtain ⟨j, V, U, hj, rfl, hS⟩ := hrel
 have HS := Aside0.mk hS
 have HXo := Aside0.mk (hS.kb.ext0 HX4.out HIB.out.2.1)
 clear hS
 by_cases hlt : j < idx.length
 ·
  have hb : (j : Int) < idx.length := by omega
  have hb0 : (0 : Int) ≤ j := by omega
  obtain ⟨l, hl⟩ : ∃ l, l = idx[j] := ⟨_, rfl⟩
  obtain ⟨ad, A0, c0, hA, hcell, hcl, hint⟩ := at_L6 H3.out (j : Int) (by omega) hb
  rw [rdL6_get _ _ hlt, ← hl] at hcell hcl hint
  rw [Int.toNat_natCast] at hcell
  subst hA
  have hcell := cell_ext HXo.out hcell
  have hll : l.length ≤ 2000000 := HLE.out l (by rw [hl]; exact List.getElem_mem hlt)
  have HL := Aside0.mk hl
  have HIN := Aside0.mk hint
  clear hl hint
  go_upto_region 6 with fail
  obtain ⟨B1, hB1⟩ : ∃ n, n = wo.heap.size := ⟨_, rfl⟩
  obtain ⟨B6, hB6⟩ : ∃ n, n = w4.heap.size := ⟨_, rfl⟩
  have hlen : U.length ≤ 2000000 := by have := HS.out.xr.len; rw [List.length_take] at this; omega
  have HVB : Aside0 (∀ k, V.ownBlock = some k → k < B1) := ⟨fun k hk => by rw [hB1]; exact (own_lt HS.out.xr.own k hk).2⟩
  have HJ6 : Aside0 (PJ B6 V U wo wo.drew) := ⟨by rw [hB6]; exact ⟨grown_ext (Ext.to_drew _) _, HS.out.xr.own.ext (Ext.to_drew _)⟩⟩
  have HZI : Aside0 (∀ W, PJ B6 V U wo W → W.heap[ib]? = some (.cells #[.string nm, V1, .int .i64 ks, V] 49 (0, 0))) := ⟨fun W hW => hW.blk (by rw [hB6]; exact HIB.out.1) HS.out.zi⟩
  have HSZ1 : Aside0 (∀ W, PJ B6 V U wo W → B1 ≤ W.heap.size ∧ B6 ≤ W.heap.size) := ⟨fun W hW => by have h1 := hW.size; have h2 := HS.out.kb.1; omega⟩
  have HKI : Aside0 (∀ W, PJ B6 V U wo W → 0 < (l.map iv).length → ∃ a, A0 = some a ∧ ∀ j u, (l.map iv)[j]? = some u → W.cell? (a.add j) = some u) := ⟨fun W hW hp => (intC_cells (Kd.C_below HIN.out (hW.ext HXo.out (by rw [hB6]; exact HX4.out.size)))).2 (by simpa using hp)⟩
  have HB1 := Aside0.mk hB1
  have HB6 := Aside0.mk hB6
  clear hB1 hB6 hcell hb hb0
  refine exj_tail (PJ B6 V U wo) (PX B1 B6 l V U) 14 [(0, 43), (1, 44), (2, 45), (3, 46), (4, 47), (5, 48), (6, 49), (7, 50), (8, 51), (9, 52), (10, 53), (11, 54), (12, 55)] [0, 1, 2, 3, 4, 5, 6, 7, 8, 9, 10, 11, 12] (fun i w v => match i with | 0 => v = .pointer (some ⟨ib, 3, none⟩) | 1 => v = V | 2 => ∃ b, v = .slice (some ⟨b, 0, none⟩) 0 0 ∧ Or 3 B1 w v [] | 3 => v = .slice A0 l.length c0 | 4 => Or 3 B1 w v (l.map iv) | 5 => Or 3 B1 w v [(iv 77)] | 6 => Or 3 B1 w v ((l.map iv) ++ [(iv 77)]) | 7 => v = .slice A0 l.length c0 | 8 => v = .int .i64 (l.length : Nat) | 9 => Rv B1 w l v | 10 => ∃ b u, v = .slice (some ⟨b, 0, none⟩) 1 1 ∧ B1 ≤ b ∧ w.heap[b]? = some (.cells #[u] 50 (0, 0)) ∧ Rv B1 w l u | 11 => ∃ u, Or 50 B6 w v (U ++ [u]) ∧ Rv B1 w l u | 12 => v = .pointer (some ⟨ib, 3, none⟩) | _ => True) (by kernel_rfl) (by kernel_rfl) (by rfl) rfl ?j6 ?rj6 ?r6 ?mono6 ?steps6 ?fin6
  case j6 => exact HJ6.out
  case rj6 => exact fun i W W' hJ hR => PX.pj HB1.out hJ hR
  case r6 => exact fun i W => Or.inl (Ext.refl W)
  case mono6 =>
   intro i j w w' v hne h hR
   match j with
   | 0 => exact h
   | 1 => exact h
   | 2 => exact (by obtain ⟨b, h1, h2⟩ := h; exact ⟨b, h1, hR.or3 HVB.out (.inl (Nat.zero_le _)) h2⟩)
   | 3 => exact h
   | 4 => exact hR.or3 HVB.out (.inl (Nat.le_refl _)) h
   | 5 => exact hR.or3 HVB.out (.inr (.inl rfl)) h
   | 6 => exact hR.or3 HVB.out (.inr (.inr rfl)) h
   | 7 => exact h
   | 8 => exact h
   | 9 => exact hR.rv HVB.out h
   | 10 => exact (by obtain ⟨b, u, h1, h2, h3, h4⟩ := h; exact ⟨b, u, h1, h2, hR.blk HVB.out h2 h3, hR.rv HVB.out h4⟩)
   | 11 => exact (by obtain ⟨u, h1, h2⟩ := h; exact ⟨u, hR.or50 hne.symm h1, hR.rv HVB.out h2⟩)
   | 12 => exact h
   | _ + 13 => trivial
  case steps6 =>
   refine stepJ_cons ⟨_, rfl, fun a w hE hH => ?_⟩ ?_
   ·
    have e6 : a.tmps[6]? = some (.pointer (some ⟨ib, 0, none⟩)) := hH.old 6 rfl
    exact Or.inl ⟨rfl, goodJ_ext (fun W W' h => Or.inl h) (goodE_val (.pointer (some ⟨ib, 3, none⟩)) (by simp [execOp, Act.eval, e6, go_sem]) rfl)⟩
   refine stepJ_cons ⟨_, rfl, fun a w hE hH => ?_⟩ ?_
   ·
    obtain ⟨v43, e43, g43⟩ := hH.dep 0 43 rfl (by kernel_rfl)
    have q43 : v43 = .pointer (some ⟨ib, 3, none⟩) := g43
    subst q43
    have hc : w.cell? ⟨ib, 3, none⟩ = some V := blk_cell (HZI.out w hE) 3
    exact Or.inl ⟨(rfl), goodJ_ext (fun W W' h => Or.inl h) (goodE_val V (by simp [execOp, Act.eval, e43, hc, go_sem]) rfl)⟩
   refine stepJ_cons ⟨_, rfl, fun a w hE hH => ?_⟩ ?_
   ·
    exact Or.inl ⟨(rfl), goodJ_new (.slice (some ⟨w.heap.size, 0, none⟩) 0 0) (w.alloc (.cells #[] 3)) (by simp [execOp, Act.eval, go_sem]) (Or.inl ((Ext.refl w).alloc _)) ⟨_, rfl, Or.lit #[] (L := []) (HSZ1.out w hE).1 rfl (by simp)⟩⟩
   refine stepJ_cons ⟨_, rfl, fun a w hE hH => ?_⟩ ?_
   ·
    have e8 : a.tmps[8]? = some (.slice A0 l.length c0) := hH.old 8 rfl
    exact Or.inl ⟨(rfl), goodJ_ext (fun W W' h => Or.inl h) (goodE_move (.slice A0 l.length c0) rfl (eval_of e8) rfl)⟩
   refine stepJ_cons ⟨_, rfl, fun a w hE hH => ?_⟩ ?_
   ·
    obtain ⟨v45, e45, g45⟩ := hH.dep 2 45 rfl (by kernel_rfl)
    obtain ⟨v46, e46, g46⟩ := hH.dep 3 46 rfl (by kernel_rfl)
    have q46 : v46 = .slice A0 l.length c0 := g46
    subst q46
    obtain ⟨b, rfl, hO⟩ := g45
    obtain ⟨v1, w1, hr, hS1, hE1⟩ := copy_app (c0 := c0) 50 und50 info3' rfl (by decide) (by decide) hO (HKI.out w hE) (iv_one l) (HSZ1.out w hE).1 (by simp; omega)
    rw [List.length_map] at hr
    exact Or.inl ⟨(rfl), goodJ_new v1 w1 (exec_append (s := .tmp 45) (x := .tmp 46) rfl (by simpa [Act.eval, e45, e46] using hr)) (Or.inl hE1) hS1⟩
   refine stepJ_cons ⟨_, rfl, fun a w hE hH => ?_⟩ ?_
   ·
    exact Or.inl ⟨(rfl), goodJ_new (.slice (some ⟨w.heap.size, 0, none⟩) 1 1) (w.alloc (.cells #[.int .i64 77] 3)) (by simp [execOp, Act.eval, go_sem]) (Or.inl ((Ext.refl w).alloc _)) (Or.lit #[.int .i64 77] (L := [(iv 77)]) (HSZ1.out w hE).1 rfl (by simp))⟩
   refine stepJ_cons ⟨_, rfl, fun a w hE hH => ?_⟩ ?_
   ·
    obtain ⟨v47, e47, g47⟩ := hH.dep 4 47 rfl (by kernel_rfl)
    obtain ⟨v48, e48, g48⟩ := hH.dep 5 48 rfl (by kernel_rfl)
    obtain ⟨v1, w1, hr, hS1, hM1⟩ := mark_app 50 und50 info3' rfl (by decide) (by decide) g47 g48 rfl (HSZ1.out w hE).1 (by simp; omega)
    exact Or.inl ⟨(rfl), goodJ_new v1 w1 (exec_append (s := .tmp 47) (x := .tmp 48) rfl (by simpa [Act.eval, e47, e48] using hr)) (Or.inr (Or.inl ⟨rfl, hM1⟩)) hS1⟩
   refine stepJ_cons ⟨_, rfl, fun a w hE hH => ?_⟩ ?_
   ·
    have e8 : a.tmps[8]? = some (.slice A0 l.length c0) := hH.old 8 rfl
    exact Or.inl ⟨(rfl), goodJ_ext (fun W W' h => Or.inl h) (goodE_move (.slice A0 l.length c0) rfl (eval_of e8) rfl)⟩
   refine stepJ_cons ⟨_, rfl, fun a w hE hH => ?_⟩ ?_
   ·
    obtain ⟨v50, e50, g50⟩ := hH.dep 7 50 rfl (by kernel_rfl)
    have q50 : v50 = .slice A0 l.length c0 := g50
    subst q50
    exact Or.inl ⟨rfl, goodJ_ext (fun W W' h => Or.inl h) (goodE_val (.int .i64 (l.length : Nat)) (by simp [execOp, Act.eval, e50, go_sem]) rfl)⟩
   refine stepJ_cons ⟨_, rfl, fun a w hE hH => ?_⟩ ?_
   ·
    obtain ⟨v49, e49, g49⟩ := hH.dep 6 49 rfl (by kernel_rfl)
    obtain ⟨v51, e51, g51⟩ := hH.dep 8 51 rfl (by kernel_rfl)
    have q51 : v51 = .int .i64 (l.length : Nat) := g51
    subst q51
    obtain ⟨b, cp, rfl, hcp, _⟩ := Or.form g49 (by simp)
    rw [show ((l.map iv) ++ [(iv 77)]).length = l.length + 1 by simp] at g49 e49 hcp
    exact Or.inl ⟨(rfl), goodJ_new (.slice (some ⟨b, 0, none⟩) l.length cp) w (exec_sliceT elem50 rfl (by simpa [Act.eval, e49, e51] using ir_cut (W := w) (some ⟨b, 0, none⟩) (l.length + 1) cp l.length (by omega))) (Or.inl (Ext.refl w)) ⟨b, cp, rfl, g49⟩⟩
   refine stepJ_cons ⟨_, rfl, fun a w hE hH => ?_⟩ ?_
   ·
    obtain ⟨v52, e52, g52⟩ := hH.dep 9 52 rfl (by kernel_rfl)
    exact Or.inl ⟨(rfl), goodJ_new (.slice (some ⟨w.heap.size, 0, none⟩) 1 1) (w.alloc (.cells #[v52] 50)) (by obtain ⟨b, cp, rfl, _⟩ := g52; simp [execOp, Act.eval, e52, go_sem]) (Or.inl ((Ext.refl w).alloc _)) ⟨_, _, rfl, (HSZ1.out w hE).1, heap_alloc_new _ _, g52.ext ((Ext.refl w).alloc _)⟩⟩
   refine stepJ_cons ⟨_, rfl, fun a w hE hH => ?_⟩ ?_
   ·
    obtain ⟨v44, e44, g44⟩ := hH.dep 1 44 rfl (by kernel_rfl)
    have q44 : v44 = V := g44
    subst q44
    obtain ⟨v53, e53, g53⟩ := hH.dep 10 53 rfl (by kernel_rfl)
    obtain ⟨b, u, rfl, hb1, hbk, hRv⟩ := g53
    have hu1 : u.oneCell' = true := by obtain ⟨b, cp, rfl, _⟩ := hRv; rfl
    obtain ⟨v1, w1, hr, hS1, hV1, hG1⟩ := one_app (c := 1) 47 und47 info50 rfl (by decide) (by decide) hE.2 (blk_cell hbk 0) hu1 (HSZ1.out w hE).2 (by omega)
    have hP : PX B1 B6 l v44 U 11 w w1 := Or.inr (Or.inr ⟨rfl, hG1, fun _ => hV1⟩)
    exact Or.inl ⟨(rfl), goodJ_new v1 w1 (exec_append (s := .tmp 44) (x := .tmp 53) rfl (by simpa [Act.eval, e44, e53] using hr)) hP ⟨u, hS1, hP.rv HVB.out hRv⟩⟩
   refine stepJ_cons ⟨_, rfl, fun a w hE hH => ?_⟩ ?_
   ·
    have e6 : a.tmps[6]? = some (.pointer (some ⟨ib, 0, none⟩)) := hH.old 6 rfl
    exact Or.inl ⟨rfl, goodJ_ext (fun W W' h => Or.inl h) (goodE_val (.pointer (some ⟨ib, 3, none⟩)) (by simp [execOp, Act.eval, e6, go_sem]) rfl)⟩
   exact stepJ_nil
  refine ⟨⟨none, .store 47 (.tmp 55) (.tmp 54), _, _, _, none⟩, rfl, ?_⟩
  rintro vals wz hE hV
  have k54 : ∃ u, Or 50 B6 wz (vals 11) (U ++ [u]) ∧ Rv B1 wz l u := hV 11 (by simp) rfl
  have k55 : vals 12 = .pointer (some ⟨ib, 3, none⟩) := hV 12 (by simp) rfl
  refine ⟨rfl, ?_⟩
  intro KK hKK
  simp only [List.map_cons, List.map_nil, putAll, Act.put, List.setIfInBounds_toArray, List.set_cons_zero, List.set_cons_succ, k55]
  obtain ⟨u, hO6, hR6⟩ := k54
  have hzi := HZI.out wz hE
  have hi3 := blk_cell hzi 3
  have hf3 := blk_frozen hzi 3
  obtain ⟨v54, hv54⟩ : ∃ v, v = vals 11 := ⟨_, rfl⟩
  rw [← hv54] at hO6
  rw [← hv54]
  refine finE_skip (w1 := wz.setCell ⟨ib, 3, none⟩ v54) (by obtain ⟨A, c, rfl, _⟩ := own_form hO6; simp [execOp, Act.eval, hi3, hf3, go_sem]) (hKK _ _ ?_)
  have hN : PS w4 ib nm V1 ks (idx.take (j + 1)) v54 (U ++ [u]) (wz.setCell ⟨ib, 3, none⟩ v54) := by
   rw [List.take_succ_eq_append_getElem hlt, ← HL.out]
   exact HS.out.next HIB.out.1 (by have := hE; rw [HB6.out] at this; exact this) (by rw [← HB6.out]; exact hO6) (by rw [← HB1.out]; exact hR6)
  generalize (wz.setCell ⟨ib, 3, none⟩ v54) = w5 at hN ⊢
  have HN := Aside0.mk hN
  clear hKK hE hV k55 hO6 hR6 hzi hi3 hf3 hv54 hN
  go_wp2_with fail
  go_roundw
  case rel => exact ⟨j + 1, _, _, by omega, by go_num, HN.out⟩
  case measure => simp [intOf]; omega
 obtain rfl : j = idx.length := by omega
 rw [List.take_length] at HS
 have hS := HS.out
 have hib := HIB.out
 have hE3 : Ext w3 wo := hS.kb.ext0 HE4.out (by have h1 := HB.out; rw [← h1]; exact hib.2.2.1)
 have hO1 : Or 9 B wo (.slice (some ⟨b1, 0, none⟩) (cols.length + 1) e1) ((cols.map sv) ++ [(sv wMark)]) := HO4.out.move (fun k hk => by
  have hk2 : k = b1 := by simpa [Value.ownBlock] using hk.symm
  subst hk2
  exact hS.kb.2.1 k (own_lt HO4.out k hk).2 hib.2.2.2 (by simp))
 have hS1 : Sr B wo (.slice (some ⟨b1, 0, none⟩) (cols.length + 1) e1) (cols ++ [wMark]) := by
  have e : (cols ++ [wMark]).map sv = (cols.map sv) ++ [(sv wMark)] := by simp
  have e2 : (cols ++ [wMark]).length = ((cols.map sv) ++ [(sv wMark)]).length := by simp
  unfold Sr
  rw [e, e2]
  exact hO1
 have hp1 := sr_pre hS1 (by omega)
 obtain ⟨A, cV, hVe, hcV, hCV⟩ := hS.xr.C (by omega) (fun l hl => by have := HLE.out l hl; omega)
 have hs5 := HS5.out.ext hE3
 have hs7 := HS7.out.ext hE3
 have hp5 := sr_pre hs5 (by omega)
 have hp7 := tr_pre hs7 (by omega)
 have hl1' : (cols.map strB).length ≤ 2000000 := by simpa using hl1
 obtain ⟨r1, hf1, hf2, hr1⟩ := key_l0 nm (cols.map strB) ks idx (by omega) _ 2000001 0 [] rfl (by omega) (by omega) (by simp)
 obtain ⟨X, hX⟩ : ∃ X, X = planR q (cols.map strB) idx r1 := ⟨_, rfl⟩
 have hpl : Calls Tryz.prog 16 #[.agg #[.string nm, .slice (some ⟨b1, 0, none⟩) cols.length e1, .int .i64 ks, .slice A idx.length cV], .agg #[.slice (some ⟨b5, 0, none⟩) q.cols.length d5, .string (strB q.tab), .slice (some ⟨b7, 0, none⟩) q.wh.length d7, .string (strB q.ord), .bool q.down, .int .i64 q.lim]] wo (fun e w' => e = .returned (.tuple #[.int .i64 X.1, .int .i64 X.2.1, .int .i64 X.2.2]) ∧ Ext wo w') := by
  have := qPlan_calls nm (cols.map strB) ks idx r1 q HOK.out (some ⟨b1, 0, none⟩) e1 A cV (some ⟨b5, 0, none⟩) d5 (some ⟨b7, 0, none⟩) d7 wo (Glob.of_below HG.out HXo.out) (by rw [List.length_map]; exact hp1.1) (by rw [List.length_map]; omega) hCV hcV hp5.1 (by omega) hp7.1 (by omega) hl1' hl3 HLE.out hl5 hl7 (by omega) 2000001 hf1
  rw [List.length_map, ← hX] at this
  exact this
 have hdl : ∀ W, Ext w W → Calls Tryz.prog 17 #[.agg #[.string nm, .slice A1 cols.length c1, .int .i64 ks, .slice A3 idx.length c3], .agg #[.slice A5 q.cols.length c5, .string (strB q.tab), .slice A7 q.wh.length c7, .string (strB q.ord), .bool q.down, .int .i64 q.lim]] W (fun e w' => e = .returned (.tuple #[.int .i64 X.1, .int .i64 X.2.1, .int .i64 X.2.2]) ∧ Ext W w') := fun W hW => by
  have := rplan_calls nm (cols.map strB) ks idx r1 q HOK.out A1 c1 A3 c3 A5 c5 A7 c7 W (Glob.of_below HG.out hW) (by rw [List.length_map]; exact Kd.C_below H1.out hW) (by rw [List.length_map]; omega) (Kd.C_below H3.out hW) hc3 (Kd.C_below H5.out hW) hc5 (Kd.C_below H7.out hW) hc7 hl1' hl3 HLE.out hl5 hl7 (by omega) 2000001 hf2
  rw [List.length_map, ← hX] at this
  exact this
 obtain ⟨ra, hra⟩ : ∃ x, x = X.1 := ⟨_, rfl⟩
 obtain ⟨rb, hrb⟩ : ∃ x, x = X.2.1 := ⟨_, rfl⟩
 obtain ⟨rc, hrc⟩ : ∃ x, x = X.2.2 := ⟨_, rfl⟩
 rw [← hra, ← hrb, ← hrc] at hpl hdl
 clear hra hrb hrc hX hl1' hr1
 have hkp : ∀ W, Ext wo W → Calls Tryz.prog 15 #[.agg #[.slice (some ⟨b5, 0, none⟩) q.cols.length d5, .string (strB q.tab), .slice (some ⟨b7, 0, none⟩) q.wh.length d7, .string (strB q.ord), .bool q.down, .int .i64 q.lim], .agg #[.slice A5 q.cols.length c5, .string (strB q.tab), .slice A7 q.wh.length c7, .string (strB q.ord), .bool q.down, .int .i64 q.lim]] W (fun e w' => e = .returned (.bool true) ∧ Ext W w') := fun W hW =>
  kept_calls q A5 c5 A7 c7 b5 d5 b7 d7 _ W (Kd.C_below H5.out (HXo.out.trans hW)) hc5 (Kd.C_below H7.out (HXo.out.trans hW)) hc7 hl5 hl7 (hs5.ext hW) (hs7.ext hW)
 have hzi := hS.zi
 rw [HV1.out, hVe] at hzi
 have hzs := heap_below HZS0.out hE3
 have hza := heap_below HZA0.out hE3
 have hzp := heap_below HZP0.out hE3
 have i0 := blk_cell hzi 0
 have i1 := blk_cell hzi 1
 have i2 := blk_cell hzi 2
 have i3 := blk_cell hzi 3
 have s0 := blk_cell hzs 0
 have s1 := blk_cell hzs 1
 have s2 := blk_cell hzs 2
 have s3 := blk_cell hzs 3
 have y0 := blk_cell hza 0
 have y1 := blk_cell hza 1
 have y2 := blk_cell hza 2
 have y3 := blk_cell hza 3
 have y4 := blk_cell hza 4
 have y5 := blk_cell hza 5
 have z0 := blk_cell hzp 0
 have z1 := blk_cell hzp 1
 have z2 := blk_cell hzp 2
 have z3 := blk_cell hzp 3
 have z4 := blk_cell hzp 4
 have z5 := blk_cell hzp 5
 have HZI := Aside0.mk hzi
 have HZS := Aside0.mk hzs
 have HZA := Aside0.mk hza
 have HZP := Aside0.mk hzp
 have HDL := Aside0.mk hdl
 have HKP := Aside0.mk hkp
 have HP1 := Aside0.mk hp1
 have HSR1 := Aside0.mk hS1
 have HVE := Aside0.mk hVe
 have HY := Aside0.mk (Ext.refl wo)
 have hb : ¬ ((idx.length : Int) < idx.length) := by omega
 clear hS hib hE3 hO1 hS1 hp1 hVe hcV hCV hs5 hs7 hp5 hp7 hf1 hf2 hdl hkp hzi hzs hza hzp hlt hj
 go_upto_region 10 with (first
  | (go_at_call 16; (with_reducible refine hpl.mono ?_); rintro e w5 ⟨rfl, hE5⟩; have HY := Aside0.mk (HY.out.trans hE5); have s0 := cell_ext hE5 s0; have s1 := cell_ext hE5 s1; have s2 := cell_ext hE5 s2; have s3 := cell_ext hE5 s3; have y0 := cell_ext hE5 y0; have y1 := cell_ext hE5 y1; have y2 := cell_ext hE5 y2; have y3 := cell_ext hE5 y3; have y4 := cell_ext hE5 y4; have y5 := cell_ext hE5 y5; clear hE5)
  | (go_at_call 17; (with_reducible refine (HDL.out _ (HXo.out.trans HY.out)).mono ?_); rintro e w5 ⟨rfl, hE5⟩; have HY := Aside0.mk (HY.out.trans hE5); clear hE5))
 obtain ⟨w6, hw6⟩ : ∃ W : World, W = w5 := ⟨_, rfl⟩
 rw [← hw6] at HY ⊢
 have HZI := Aside0.mk (heap_below HZI.out HY.out)
 have HZS := Aside0.mk (heap_below HZS.out HY.out)
 have HZA := Aside0.mk (heap_below HZA.out HY.out)
 have HZP := Aside0.mk (heap_below HZP.out HY.out)
 have HMK : Aside0 (w6.cell? ⟨b1, cols.length, none⟩ = some (.string ⟨#[109, 97, 114, 107]⟩)) := ⟨cell_ext HY.out HP1.out.2.2⟩
 clear hb i0 i1 i2 i3 s0 s1 s2 s3 y0 y1 y2 y3 y4 y5 z0 z1 z2 z3 z4 z5 hpl hw6
 refine ext_region 44 [(0, 71), (1, 72), (2, 73), (3, 74), (4, 75), (5, 76), (6, 77), (7, 78), (8, 79), (9, 80), (10, 81), (11, 82), (12, 83), (13, 84), (14, 85), (15, 86), (16, 87), (17, 88), (18, 89), (19, 90), (20, 91), (21, 92), (22, 93), (23, 94), (24, 95), (25, 96), (26, 97), (27, 98), (28, 99), (29, 100), (30, 101), (31, 102), (32, 103), (33, 104), (34, 105), (35, 106), (36, 107), (37, 108), (38, 109), (39, 110), (40, 111), (41, 112), (42, 113), (43, 114)] [0, 1, 2, 3, 4, 5, 6, 7, 8, 9, 10, 11, 12, 13, 14, 15, 16, 17, 18, 19, 20, 21, 22, 23, 24, 25, 26, 27, 28, 29, 30, 31, 32, 33, 34, 35, 36, 37, 38, 39, 40, 41, 42, 43] (fun i w v => match i with | 0 => v = .int .i64 rc | 1 => v = .int .i64 rc | 2 => v = .int .i64 rc | 3 => v = .bool false | 4 => v = .bool false | 5 => v = .int .i64 ra | 6 => v = .int .i64 ra | 7 => v = .bool false | 8 => v = .bool false | 9 => v = .bool false | 10 => v = .int .i64 rb | 11 => v = .int .i64 rb | 12 => v = .bool false | 13 => v = .bool false | 14 => v = .bool false | 15 => v = .agg #[.slice (some ⟨b5, 0, none⟩) q.cols.length d5, .string (strB q.tab), .slice (some ⟨b7, 0, none⟩) q.wh.length d7, .string (strB q.ord), .bool q.down, .int .i64 q.lim] | 16 => v = .agg #[.slice A5 q.cols.length c5, .string (strB q.tab), .slice A7 q.wh.length c7, .string (strB q.ord), .bool q.down, .int .i64 q.lim] | 17 => v = .bool true | 18 => v = .bool false | 19 => v = .bool false | 20 => v = .bool false | 21 => v = .pointer (some ⟨ib, 1, none⟩) | 22 => v = .slice (some ⟨b1, 0, none⟩) cols.length e1 | 23 => v = .int .i64 (cols.length : Nat) | 24 => v = .pointer (some ⟨sb, 1, none⟩) | 25 => v = .slice A1 cols.length c1 | 26 => v = .int .i64 (cols.length : Nat) | 27 => v = .bool false | 28 => v = .bool false | 29 => v = .bool false | 30 => v = .pointer (some ⟨ib, 1, none⟩) | 31 => v = .slice (some ⟨b1, 0, none⟩) cols.length e1 | 32 => v = .pointer (some ⟨sb, 1, none⟩) | 33 => v = .slice A1 cols.length c1 | 34 => v = .int .i64 (cols.length : Nat) | 35 => v = .int .i64 ((cols.length + 1 : Nat) : Int) | 36 => v = .slice (some ⟨b1, 0, none⟩) (cols.length + 1) e1 | 37 => v = .pointer (some ⟨sb, 1, none⟩) | 38 => v = .slice A1 cols.length c1 | 39 => v = .int .i64 (cols.length : Nat) | 40 => v = .pointer (some ⟨b1, cols.length, none⟩) | 41 => v = .string ⟨#[109, 97, 114, 107]⟩ | 42 => v = .bool false | 43 => v = .bool false | _ => True) (by kernel_rfl) (by kernel_rfl) (by rfl) rfl ?mono10 ?steps10 ?fin10
 case mono10 =>
  intro i w w' v h hE
  match i with
  | 0 => exact h
  | 1 => exact h
  | 2 => exact h
  | 3 => exact h
  | 4 => exact h
  | 5 => exact h
  | 6 => exact h
  | 7 => exact h
  | 8 => exact h
  | 9 => exact h
  | 10 => exact h
  | 11 => exact h
  | 12 => exact h
  | 13 => exact h
  | 14 => exact h
  | 15 => exact h
  | 16 => exact h
  | 17 => exact h
  | 18 => exact h
  | 19 => exact h
  | 20 => exact h
  | 21 => exact h
  | 22 => exact h
  | 23 => exact h
  | 24 => exact h
  | 25 => exact h
  | 26 => exact h
  | 27 => exact h
  | 28 => exact h
  | 29 => exact h
  | 30 => exact h
  | 31 => exact h
  | 32 => exact h
  | 33 => exact h
  | 34 => exact h
  | 35 => exact h
  | 36 => exact h
  | 37 => exact h
  | 38 => exact h
  | 39 => exact h
  | 40 => exact h
  | 41 => exact h
  | 42 => exact h
  | 43 => exact h
  | _ + 44 => trivial
 case steps10 =>
  refine stepE_cons ⟨_, rfl, fun a w hE hH => ?_⟩ ?_
  ·
   have e11 : a.tmps[11]? = some (.int .i64 rc) := hH.old 11 rfl
   exact Or.inl ⟨rfl, goodE_move _ rfl (eval_of e11) rfl⟩
  refine stepE_cons ⟨_, rfl, fun a w hE hH => ?_⟩ ?_
  ·
   obtain ⟨v71, e71, g71⟩ := hH.dep 0 71 rfl (by kernel_rfl)
   have q71 : v71 = .int .i64 rc := g71
   subst q71
   exact Or.inl ⟨(rfl), goodE_call rfl #[.int .i64 rc] (by simp [Act.eval, e71]) _ Tryz.func9 (by kernel_rfl) (by kernel_rfl) ((num_calls rc w).mono (fun e w' h => ⟨_, h.1, h.2, rfl⟩))⟩
  refine stepE_cons ⟨_, rfl, fun a w hE hH => ?_⟩ ?_
  ·
   have e14 : a.tmps[14]? = some (.int .i64 rc) := hH.old 14 rfl
   exact Or.inl ⟨rfl, goodE_move _ rfl (eval_of e14) rfl⟩
  refine stepE_cons ⟨_, rfl, fun a w hE hH => ?_⟩ ?_
  ·
   obtain ⟨v72, e72, g72⟩ := hH.dep 1 72 rfl (by kernel_rfl)
   have q72 : v72 = .int .i64 rc := g72
   subst q72
   obtain ⟨v73, e73, g73⟩ := hH.dep 2 73 rfl (by kernel_rfl)
   have q73 : v73 = .int .i64 rc := g73
   subst q73
   exact Or.inl ⟨rfl, goodE_val (.bool false) (by simp [execOp, Act.eval, e72, e73, go_sem]) rfl⟩
  refine stepE_cons ⟨_, rfl, fun a w hE hH => ?_⟩ ?_
  ·
   obtain ⟨v74, e74, g74⟩ := hH.dep 3 74 rfl (by kernel_rfl)
   exact Or.inl ⟨rfl, goodE_move v74 rfl (eval_of e74) g74⟩
  refine stepE_cons ⟨_, rfl, fun a w hE hH => ?_⟩ ?_
  ·
   have e9 : a.tmps[9]? = some (.int .i64 ra) := hH.old 9 rfl
   obtain ⟨v75, e75, g75⟩ := hH.dep 4 75 rfl (by kernel_rfl)
   have q75 : v75 = .bool false := g75
   subst q75
   exact Or.inl ⟨wanted_on rfl rfl rfl e75, goodE_move _ rfl (eval_of e9) rfl⟩
  refine stepE_cons ⟨_, rfl, fun a w hE hH => ?_⟩ ?_
  ·
   have e12 : a.tmps[12]? = some (.int .i64 ra) := hH.old 12 rfl
   obtain ⟨v75, e75, g75⟩ := hH.dep 4 75 rfl (by kernel_rfl)
   have q75 : v75 = .bool false := g75
   subst q75
   exact Or.inl ⟨wanted_on rfl rfl rfl e75, goodE_move _ rfl (eval_of e12) rfl⟩
  refine stepE_cons ⟨_, rfl, fun a w hE hH => ?_⟩ ?_
  ·
   obtain ⟨v76, e76, g76⟩ := hH.dep 5 76 rfl (by kernel_rfl)
   have q76 : v76 = .int .i64 ra := g76
   subst q76
   obtain ⟨v77, e77, g77⟩ := hH.dep 6 77 rfl (by kernel_rfl)
   have q77 : v77 = .int .i64 ra := g77
   subst q77
   obtain ⟨v75, e75, g75⟩ := hH.dep 4 75 rfl (by kernel_rfl)
   have q75 : v75 = .bool false := g75
   subst q75
   exact Or.inl ⟨wanted_on rfl rfl rfl e75, goodE_val (.bool false) (by simp [execOp, Act.eval, e75, e76, e77, go_sem]) rfl⟩
  refine stepE_cons ⟨_, rfl, fun a w hE hH => ?_⟩ ?_
  ·
   obtain ⟨v75, e75, g75⟩ := hH.dep 4 75 rfl (by kernel_rfl)
   have q75 : v75 = .bool false := g75
   subst q75
   obtain ⟨v78, e78, g78⟩ := hH.dep 7 78 rfl (by kernel_rfl)
   have q78 : v78 = .bool false := g78
   subst q78
   exact Or.inl ⟨rfl, goodE_pick _ (.bool false) rfl (eval_of e75) (by simp [Act.eval, e75, e78]) rfl⟩
  refine stepE_cons ⟨_, rfl, fun a w hE hH => ?_⟩ ?_
  ·
   obtain ⟨v79, e79, g79⟩ := hH.dep 8 79 rfl (by kernel_rfl)
   exact Or.inl ⟨rfl, goodE_move v79 rfl (eval_of e79) g79⟩
  refine stepE_cons ⟨_, rfl, fun a w hE hH => ?_⟩ ?_
  ·
   have e10 : a.tmps[10]? = some (.int .i64 rb) := hH.old 10 rfl
   obtain ⟨v80, e80, g80⟩ := hH.dep 9 80 rfl (by kernel_rfl)
   have q80 : v80 = .bool false := g80
   subst q80
   exact Or.inl ⟨wanted_on rfl rfl rfl e80, goodE_move _ rfl (eval_of e10) rfl⟩
  refine stepE_cons ⟨_, rfl, fun a w hE hH => ?_⟩ ?_
  ·
   have e13 : a.tmps[13]? = some (.int .i64 rb) := hH.old 13 rfl
   obtain ⟨v80, e80, g80⟩ := hH.dep 9 80 rfl (by kernel_rfl)
   have q80 : v80 = .bool false := g80
   subst q80
   exact Or.inl ⟨wanted_on rfl rfl rfl e80, goodE_move _ rfl (eval_of e13) rfl⟩
  refine stepE_cons ⟨_, rfl, fun a w hE hH => ?_⟩ ?_
  ·
   obtain ⟨v81, e81, g81⟩ := hH.dep 10 81 rfl (by kernel_rfl)
   have q81 : v81 = .int .i64 rb := g81
   subst q81
   obtain ⟨v82, e82, g82⟩ := hH.dep 11 82 rfl (by kernel_rfl)
   have q82 : v82 = .int .i64 rb := g82
   subst q82
   obtain ⟨v80, e80, g80⟩ := hH.dep 9 80 rfl (by kernel_rfl)
   have q80 : v80 = .bool false := g80
   subst q80
   exact Or.inl ⟨wanted_on rfl rfl rfl e80, goodE_val (.bool false) (by simp [execOp, Act.eval, e80, e81, e82, go_sem]) rfl⟩
  refine stepE_cons ⟨_, rfl, fun a w hE hH => ?_⟩ ?_
  ·
   obtain ⟨v80, e80, g80⟩ := hH.dep 9 80 rfl (by kernel_rfl)
   have q80 : v80 = .bool false := g80
   subst q80
   obtain ⟨v83, e83, g83⟩ := hH.dep 12 83 rfl (by kernel_rfl)
   have q83 : v83 = .bool false := g83
   subst q83
   exact Or.inl ⟨rfl, goodE_pick _ (.bool false) rfl (eval_of e80) (by simp [Act.eval, e80, e83]) rfl⟩
  refine stepE_cons ⟨_, rfl, fun a w hE hH => ?_⟩ ?_
  ·
   obtain ⟨v84, e84, g84⟩ := hH.dep 13 84 rfl (by kernel_rfl)
   exact Or.inl ⟨rfl, goodE_move v84 rfl (eval_of e84) g84⟩
  refine stepE_cons ⟨_, rfl, fun a w hE hH => ?_⟩ ?_
  ·
   have e5 : a.tmps[5]? = some (.pointer (some ⟨pb, 0, none⟩)) := hH.old 5 rfl
   obtain ⟨v85, e85, g85⟩ := hH.dep 14 85 rfl (by kernel_rfl)
   have q85 : v85 = .bool false := g85
   subst q85
   have h0 := cell_ext ((Ext.to_drew _).trans hE) (blk_cell HZP.out 0)
   have h1 := cell_ext ((Ext.to_drew _).trans hE) (blk_cell HZP.out 1)
   have h2 := cell_ext ((Ext.to_drew _).trans hE) (blk_cell HZP.out 2)
   have h3 := cell_ext ((Ext.to_drew _).trans hE) (blk_cell HZP.out 3)
   have h4 := cell_ext ((Ext.to_drew _).trans hE) (blk_cell HZP.out 4)
   have h5 := cell_ext ((Ext.to_drew _).trans hE) (blk_cell HZP.out 5)
   exact Or.inl ⟨(wanted_on rfl rfl rfl e85), goodE_val (.agg #[.slice (some ⟨b5, 0, none⟩) q.cols.length d5, .string (strB q.tab), .slice (some ⟨b7, 0, none⟩) q.wh.length d7, .string (strB q.ord), .bool q.down, .int .i64 q.lim]) (by simp [execOp, Act.eval, e5, h0, h1, h2, h3, h4, h5, go_sem]) rfl⟩
  refine stepE_cons ⟨_, rfl, fun a w hE hH => ?_⟩ ?_
  ·
   have e3 : a.tmps[3]? = some (.pointer (some ⟨ab, 0, none⟩)) := hH.old 3 rfl
   obtain ⟨v85, e85, g85⟩ := hH.dep 14 85 rfl (by kernel_rfl)
   have q85 : v85 = .bool false := g85
   subst q85
   have h0 := cell_ext ((Ext.to_drew _).trans hE) (blk_cell HZA.out 0)
   have h1 := cell_ext ((Ext.to_drew _).trans hE) (blk_cell HZA.out 1)
   have h2 := cell_ext ((Ext.to_drew _).trans hE) (blk_cell HZA.out 2)
   have h3 := cell_ext ((Ext.to_drew _).trans hE) (blk_cell HZA.out 3)
   have h4 := cell_ext ((Ext.to_drew _).trans hE) (blk_cell HZA.out 4)
   have h5 := cell_ext ((Ext.to_drew _).trans hE) (blk_cell HZA.out 5)
   exact Or.inl ⟨(wanted_on rfl rfl rfl e85), goodE_val (.agg #[.slice A5 q.cols.length c5, .string (strB q.tab), .slice A7 q.wh.length c7, .string (strB q.ord), .bool q.down, .int .i64 q.lim]) (by simp [execOp, Act.eval, e3, h0, h1, h2, h3, h4, h5, go_sem]) rfl⟩
  refine stepE_cons ⟨_, rfl, fun a w hE hH => ?_⟩ ?_
  ·
   obtain ⟨v86, e86, g86⟩ := hH.dep 15 86 rfl (by kernel_rfl)
   have q86 : v86 = .agg #[.slice (some ⟨b5, 0, none⟩) q.cols.length d5, .string (strB q.tab), .slice (some ⟨b7, 0, none⟩) q.wh.length d7, .string (strB q.ord), .bool q.down, .int .i64 q.lim] := g86
   subst q86
   obtain ⟨v87, e87, g87⟩ := hH.dep 16 87 rfl (by kernel_rfl)
   have q87 : v87 = .agg #[.slice A5 q.cols.length c5, .string (strB q.tab), .slice A7 q.wh.length c7, .string (strB q.ord), .bool q.down, .int .i64 q.lim] := g87
   subst q87
   obtain ⟨v85, e85, g85⟩ := hH.dep 14 85 rfl (by kernel_rfl)
   have q85 : v85 = .bool false := g85
   subst q85
   exact Or.inl ⟨(wanted_on rfl rfl rfl e85), goodE_call rfl #[.agg #[.slice (some ⟨b5, 0, none⟩) q.cols.length d5, .string (strB q.tab), .slice (some ⟨b7, 0, none⟩) q.wh.length d7, .string (strB q.ord), .bool q.down, .int .i64 q.lim], .agg #[.slice A5 q.cols.length c5, .string (strB q.tab), .slice A7 q.wh.length c7, .string (strB q.ord), .bool q.down, .int .i64 q.lim]] (by simp [Act.eval, e86, e87]) _ Tryz.func15 (by kernel_rfl) (by kernel_rfl) ((HKP.out w (HY.out.trans ((Ext.to_drew _).trans hE))).mono (fun e w' h => ⟨_, h.1, h.2, rfl⟩))⟩
  refine stepE_cons ⟨_, rfl, fun a w hE hH => ?_⟩ ?_
  ·
   obtain ⟨v88, e88, g88⟩ := hH.dep 17 88 rfl (by kernel_rfl)
   have q88 : v88 = .bool true := g88
   subst q88
   obtain ⟨v85, e85, g85⟩ := hH.dep 14 85 rfl (by kernel_rfl)
   have q85 : v85 = .bool false := g85
   subst q85
   exact Or.inl ⟨wanted_on rfl rfl rfl e85, goodE_val (.bool false) (by simp [execOp, Act.eval, e88, e85, go_sem]) rfl⟩
  refine stepE_cons ⟨_, rfl, fun a w hE hH => ?_⟩ ?_
  ·
   obtain ⟨v85, e85, g85⟩ := hH.dep 14 85 rfl (by kernel_rfl)
   have q85 : v85 = .bool false := g85
   subst q85
   obtain ⟨v89, e89, g89⟩ := hH.dep 18 89 rfl (by kernel_rfl)
   have q89 : v89 = .bool false := g89
   subst q89
   exact Or.inl ⟨rfl, goodE_pick _ (.bool false) rfl (eval_of e85) (by simp [Act.eval, e89, e85]) rfl⟩
  refine stepE_cons ⟨_, rfl, fun a w hE hH => ?_⟩ ?_
  ·
   obtain ⟨v90, e90, g90⟩ := hH.dep 19 90 rfl (by kernel_rfl)
   exact Or.inl ⟨rfl, goodE_move v90 rfl (eval_of e90) g90⟩
  refine stepE_cons ⟨_, rfl, fun a w hE hH => ?_⟩ ?_
  ·
   have e6 : a.tmps[6]? = some (.pointer (some ⟨ib, 0, none⟩)) := hH.old 6 rfl
   obtain ⟨v91, e91, g91⟩ := hH.dep 20 91 rfl (by kernel_rfl)
   have q91 : v91 = .bool false := g91
   subst q91
   exact Or.inl ⟨wanted_on rfl rfl rfl e91, goodE_val (.pointer (some ⟨ib, 1, none⟩)) (by simp [execOp, Act.eval, e91, e6, go_sem]) rfl⟩
  refine stepE_cons ⟨_, rfl, fun a w hE hH => ?_⟩ ?_
  ·
   obtain ⟨v92, e92, g92⟩ := hH.dep 21 92 rfl (by kernel_rfl)
   have q92 : v92 = .pointer (some ⟨ib, 1, none⟩) := g92
   subst q92
   obtain ⟨v91, e91, g91⟩ := hH.dep 20 91 rfl (by kernel_rfl)
   have q91 : v91 = .bool false := g91
   subst q91
   have hc := cell_ext ((Ext.to_drew _).trans hE) (blk_cell HZI.out 1)
   exact Or.inl ⟨(wanted_on rfl rfl rfl e91), goodE_val (.slice (some ⟨b1, 0, none⟩) cols.length e1) (by simp [execOp, Act.eval, e92, hc, go_sem]) rfl⟩
  refine stepE_cons ⟨_, rfl, fun a w hE hH => ?_⟩ ?_
  ·
   obtain ⟨v93, e93, g93⟩ := hH.dep 22 93 rfl (by kernel_rfl)
   have q93 : v93 = .slice (some ⟨b1, 0, none⟩) cols.length e1 := g93
   subst q93
   obtain ⟨v91, e91, g91⟩ := hH.dep 20 91 rfl (by kernel_rfl)
   have q91 : v91 = .bool false := g91
   subst q91
   exact Or.inl ⟨wanted_on rfl rfl rfl e91, goodE_val (.int .i64 (cols.length : Nat)) (by simp [execOp, Act.eval, e91, e93, go_sem]) rfl⟩
  refine stepE_cons ⟨_, rfl, fun a w hE hH => ?_⟩ ?_
  ·
   have e2 : a.tmps[2]? = some (.pointer (some ⟨sb, 0, none⟩)) := hH.old 2 rfl
   obtain ⟨v91, e91, g91⟩ := hH.dep 20 91 rfl (by kernel_rfl)
   have q91 : v91 = .bool false := g91
   subst q91
   exact Or.inl ⟨wanted_on rfl rfl rfl e91, goodE_val (.pointer (some ⟨sb, 1, none⟩)) (by simp [execOp, Act.eval, e2, e91, go_sem]) rfl⟩
  refine stepE_cons ⟨_, rfl, fun a w hE hH => ?_⟩ ?_
  ·
   obtain ⟨v95, e95, g95⟩ := hH.dep 24 95 rfl (by kernel_rfl)
   have q95 : v95 = .pointer (some ⟨sb, 1, none⟩) := g95
   subst q95
   obtain ⟨v91, e91, g91⟩ := hH.dep 20 91 rfl (by kernel_rfl)
   have q91 : v91 = .bool false := g91
   subst q91
   have hc := cell_ext ((Ext.to_drew _).trans hE) (blk_cell HZS.out 1)
   exact Or.inl ⟨(wanted_on rfl rfl rfl e91), goodE_val (.slice A1 cols.length c1) (by simp [execOp, Act.eval, e95, hc, go_sem]) rfl⟩
  refine stepE_cons ⟨_, rfl, fun a w hE hH => ?_⟩ ?_
  ·
   obtain ⟨v96, e96, g96⟩ := hH.dep 25 96 rfl (by kernel_rfl)
   have q96 : v96 = .slice A1 cols.length c1 := g96
   subst q96
   obtain ⟨v91, e91, g91⟩ := hH.dep 20 91 rfl (by kernel_rfl)
   have q91 : v91 = .bool false := g91
   subst q91
   exact Or.inl ⟨wanted_on rfl rfl rfl e91, goodE_val (.int .i64 (cols.length : Nat)) (by simp [execOp, Act.eval, e96, e91, go_sem]) rfl⟩
  refine stepE_cons ⟨_, rfl, fun a w hE hH => ?_⟩ ?_
  ·
   obtain ⟨v94, e94, g94⟩ := hH.dep 23 94 rfl (by kernel_rfl)
   have q94 : v94 = .int .i64 (cols.length : Nat) := g94
   subst q94
   obtain ⟨v97, e97, g97⟩ := hH.dep 26 97 rfl (by kernel_rfl)
   have q97 : v97 = .int .i64 (cols.length : Nat) := g97
   subst q97
   obtain ⟨v91, e91, g91⟩ := hH.dep 20 91 rfl (by kernel_rfl)
   have q91 : v91 = .bool false := g91
   subst q91
   exact Or.inl ⟨wanted_on rfl rfl rfl e91, goodE_val (.bool false) (by simp [execOp, Act.eval, e97, e91, e94, go_sem]) rfl⟩
  refine stepE_cons ⟨_, rfl, fun a w hE hH => ?_⟩ ?_
  ·
   obtain ⟨v91, e91, g91⟩ := hH.dep 20 91 rfl (by kernel_rfl)
   have q91 : v91 = .bool false := g91
   subst q91
   obtain ⟨v98, e98, g98⟩ := hH.dep 27 98 rfl (by kernel_rfl)
   have q98 : v98 = .bool false := g98
   subst q98
   exact Or.inl ⟨rfl, goodE_pick _ (.bool false) rfl (eval_of e91) (by simp [Act.eval, e98, e91]) rfl⟩
  refine stepE_cons ⟨_, rfl, fun a w hE hH => ?_⟩ ?_
  ·
   obtain ⟨v99, e99, g99⟩ := hH.dep 28 99 rfl (by kernel_rfl)
   exact Or.inl ⟨rfl, goodE_move v99 rfl (eval_of e99) g99⟩
  refine stepE_cons ⟨_, rfl, fun a w hE hH => ?_⟩ ?_
  ·
   have e6 : a.tmps[6]? = some (.pointer (some ⟨ib, 0, none⟩)) := hH.old 6 rfl
   obtain ⟨v100, e100, g100⟩ := hH.dep 29 100 rfl (by kernel_rfl)
   have q100 : v100 = .bool false := g100
   subst q100
   exact Or.inl ⟨wanted_on rfl rfl rfl e100, goodE_val (.pointer (some ⟨ib, 1, none⟩)) (by simp [execOp, Act.eval, e100, e6, go_sem]) rfl⟩
  refine stepE_cons ⟨_, rfl, fun a w hE hH => ?_⟩ ?_
  ·
   obtain ⟨v101, e101, g101⟩ := hH.dep 30 101 rfl (by kernel_rfl)
   have q101 : v101 = .pointer (some ⟨ib, 1, none⟩) := g101
   subst q101
   obtain ⟨v100, e100, g100⟩ := hH.dep 29 100 rfl (by kernel_rfl)
   have q100 : v100 = .bool false := g100
   subst q100
   have hc := cell_ext ((Ext.to_drew _).trans hE) (blk_cell HZI.out 1)
   exact Or.inl ⟨(wanted_on rfl rfl rfl e100), goodE_val (.slice (some ⟨b1, 0, none⟩) cols.length e1) (by simp [execOp, Act.eval, e101, hc, go_sem]) rfl⟩
  refine stepE_cons ⟨_, rfl, fun a w hE hH => ?_⟩ ?_
  ·
   have e2 : a.tmps[2]? = some (.pointer (some ⟨sb, 0, none⟩)) := hH.old 2 rfl
   obtain ⟨v100, e100, g100⟩ := hH.dep 29 100 rfl (by kernel_rfl)
   have q100 : v100 = .bool false := g100
   subst q100
   exact Or.inl ⟨wanted_on rfl rfl rfl e100, goodE_val (.pointer (some ⟨sb, 1, none⟩)) (by simp [execOp, Act.eval, e2, e100, go_sem]) rfl⟩
  refine stepE_cons ⟨_, rfl, fun a w hE hH => ?_⟩ ?_
  ·
   obtain ⟨v103, e103, g103⟩ := hH.dep 32 103 rfl (by kernel_rfl)
   have q103 : v103 = .pointer (some ⟨sb, 1, none⟩) := g103
   subst q103
   obtain ⟨v100, e100, g100⟩ := hH.dep 29 100 rfl (by kernel_rfl)
   have q100 : v100 = .bool false := g100
   subst q100
   have hc := cell_ext ((Ext.to_drew _).trans hE) (blk_cell HZS.out 1)
   exact Or.inl ⟨(wanted_on rfl rfl rfl e100), goodE_val (.slice A1 cols.length c1) (by simp [execOp, Act.eval, e103, hc, go_sem]) rfl⟩
  refine stepE_cons ⟨_, rfl, fun a w hE hH => ?_⟩ ?_
  ·
   obtain ⟨v104, e104, g104⟩ := hH.dep 33 104 rfl (by kernel_rfl)
   have q104 : v104 = .slice A1 cols.length c1 := g104
   subst q104
   obtain ⟨v100, e100, g100⟩ := hH.dep 29 100 rfl (by kernel_rfl)
   have q100 : v100 = .bool false := g100
   subst q100
   exact Or.inl ⟨wanted_on rfl rfl rfl e100, goodE_val (.int .i64 (cols.length : Nat)) (by simp [execOp, Act.eval, e104, e100, go_sem]) rfl⟩
  refine stepE_cons ⟨_, rfl, fun a w hE hH => ?_⟩ ?_
  ·
   obtain ⟨v105, e105, g105⟩ := hH.dep 34 105 rfl (by kernel_rfl)
   have q105 : v105 = .int .i64 (cols.length : Nat) := g105
   subst q105
   obtain ⟨v100, e100, g100⟩ := hH.dep 29 100 rfl (by kernel_rfl)
   have q100 : v100 = .bool false := g100
   subst q100
   exact Or.inl ⟨(wanted_on rfl rfl rfl e100), goodE_val (.int .i64 ((cols.length + 1 : Nat) : Int)) (by simp [execOp, Act.eval, e105, go_sem]; rw [i64_w, w64n _ (by omega)]; omega) rfl⟩
  refine stepE_cons ⟨_, rfl, fun a w hE hH => ?_⟩ ?_
  ·
   obtain ⟨v102, e102, g102⟩ := hH.dep 31 102 rfl (by kernel_rfl)
   have q102 : v102 = .slice (some ⟨b1, 0, none⟩) cols.length e1 := g102
   subst q102
   obtain ⟨v106, e106, g106⟩ := hH.dep 35 106 rfl (by kernel_rfl)
   have q106 : v106 = .int .i64 ((cols.length + 1 : Nat) : Int) := g106
   subst q106
   obtain ⟨v100, e100, g100⟩ := hH.dep 29 100 rfl (by kernel_rfl)
   have q100 : v100 = .bool false := g100
   subst q100
   exact Or.inl ⟨(wanted_on rfl rfl rfl e100), goodE_val (.slice (some ⟨b1, 0, none⟩) (cols.length + 1) e1) (exec_sliceT elem22 rfl (by simpa [Act.eval, e102, e106] using sr_cut (W := w) (some ⟨b1, 0, none⟩) cols.length e1 (cols.length + 1) HP1.out.2.1)) rfl⟩
  refine stepE_cons ⟨_, rfl, fun a w hE hH => ?_⟩ ?_
  ·
   have e2 : a.tmps[2]? = some (.pointer (some ⟨sb, 0, none⟩)) := hH.old 2 rfl
   obtain ⟨v100, e100, g100⟩ := hH.dep 29 100 rfl (by kernel_rfl)
   have q100 : v100 = .bool false := g100
   subst q100
   exact Or.inl ⟨wanted_on rfl rfl rfl e100, goodE_val (.pointer (some ⟨sb, 1, none⟩)) (by simp [execOp, Act.eval, e2, e100, go_sem]) rfl⟩
  refine stepE_cons ⟨_, rfl, fun a w hE hH => ?_⟩ ?_
  ·
   obtain ⟨v108, e108, g108⟩ := hH.dep 37 108 rfl (by kernel_rfl)
   have q108 : v108 = .pointer (some ⟨sb, 1, none⟩) := g108
   subst q108
   obtain ⟨v100, e100, g100⟩ := hH.dep 29 100 rfl (by kernel_rfl)
   have q100 : v100 = .bool false := g100
   subst q100
   have hc := cell_ext ((Ext.to_drew _).trans hE) (blk_cell HZS.out 1)
   exact Or.inl ⟨(wanted_on rfl rfl rfl e100), goodE_val (.slice A1 cols.length c1) (by simp [execOp, Act.eval, e108, hc, go_sem]) rfl⟩
  refine stepE_cons ⟨_, rfl, fun a w hE hH => ?_⟩ ?_
  ·
   obtain ⟨v109, e109, g109⟩ := hH.dep 38 109 rfl (by kernel_rfl)
   have q109 : v109 = .slice A1 cols.length c1 := g109
   subst q109
   obtain ⟨v100, e100, g100⟩ := hH.dep 29 100 rfl (by kernel_rfl)
   have q100 : v100 = .bool false := g100
   subst q100
   exact Or.inl ⟨wanted_on rfl rfl rfl e100, goodE_val (.int .i64 (cols.length : Nat)) (by simp [execOp, Act.eval, e100, e109, go_sem]) rfl⟩
  refine stepE_cons ⟨_, rfl, fun a w hE hH => ?_⟩ ?_
  ·
   obtain ⟨v107, e107, g107⟩ := hH.dep 36 107 rfl (by kernel_rfl)
   have q107 : v107 = .slice (some ⟨b1, 0, none⟩) (cols.length + 1) e1 := g107
   subst q107
   obtain ⟨v110, e110, g110⟩ := hH.dep 39 110 rfl (by kernel_rfl)
   have q110 : v110 = .int .i64 (cols.length : Nat) := g110
   subst q110
   obtain ⟨v100, e100, g100⟩ := hH.dep 29 100 rfl (by kernel_rfl)
   have q100 : v100 = .bool false := g100
   subst q100
   exact Or.inl ⟨(wanted_on rfl rfl rfl e100), goodE_val (.pointer (some ⟨b1, cols.length, none⟩)) (by have h1 : (cols.length : Int) < cols.length + 1 := (by omega); simp [execOp, Act.eval, e107, e110, Addr.add, h1, go_sem]; try (intro h0; rw [h0]; rfl)) rfl⟩
  refine stepE_cons ⟨_, rfl, fun a w hE hH => ?_⟩ ?_
  ·
   obtain ⟨v111, e111, g111⟩ := hH.dep 40 111 rfl (by kernel_rfl)
   have q111 : v111 = .pointer (some ⟨b1, cols.length, none⟩) := g111
   subst q111
   obtain ⟨v100, e100, g100⟩ := hH.dep 29 100 rfl (by kernel_rfl)
   have q100 : v100 = .bool false := g100
   subst q100
   have hc := cell_ext ((Ext.to_drew _).trans hE) HMK.out
   exact Or.inl ⟨(wanted_on rfl rfl rfl e100), goodE_val (.string ⟨#[109, 97, 114, 107]⟩) (by simp [execOp, Act.eval, e111, hc, go_sem]) rfl⟩
  refine stepE_cons ⟨_, rfl, fun a w hE hH => ?_⟩ ?_
  ·
   obtain ⟨v112, e112, g112⟩ := hH.dep 41 112 rfl (by kernel_rfl)
   have q112 : v112 = .string ⟨#[109, 97, 114, 107]⟩ := g112
   subst q112
   obtain ⟨v100, e100, g100⟩ := hH.dep 29 100 rfl (by kernel_rfl)
   have q100 : v100 = .bool false := g100
   subst q100
   exact Or.inl ⟨wanted_on rfl rfl rfl e100, goodE_val (.bool false) (by simp [execOp, Act.eval, e112, e100, go_sem]) rfl⟩
  refine stepE_cons ⟨_, rfl, fun a w hE hH => ?_⟩ ?_
  ·
   obtain ⟨v100, e100, g100⟩ := hH.dep 29 100 rfl (by kernel_rfl)
   have q100 : v100 = .bool false := g100
   subst q100
   obtain ⟨v113, e113, g113⟩ := hH.dep 42 113 rfl (by kernel_rfl)
   have q113 : v113 = .bool false := g113
   subst q113
   exact Or.inl ⟨rfl, goodE_pick _ (.bool false) rfl (eval_of e100) (by simp [Act.eval, e113, e100]) rfl⟩
  exact stepE_nil
 rintro vals wz hE hV
 have k114 : vals 43 = .bool false := hV 43 (by simp) rfl
 simp only [List.map_cons, List.map_nil, putAll, Act.put, List.setIfInBounds_toArray, List.set_cons_zero, List.set_cons_succ, k114]
 have HXz := Aside0.mk (HXo.out.trans (HY.out.trans ((Ext.to_drew _).trans hE)))
 have HZI := Aside0.mk (heap_below HZI.out ((Ext.to_drew _).trans hE))
 have HZS := Aside0.mk (heap_below HZS.out ((Ext.to_drew _).trans hE))
 have HYz := Aside0.mk (HY.out.trans ((Ext.to_drew _).trans hE))
 clear hE hV
 obtain ⟨wq, hwq⟩ : ∃ W : World, W = wz := ⟨_, rfl⟩
 subst hwq
 have s1 := blk_cell HZS.out 1
 go_wp2_with fail
 go_loopw [118] (fun s118 W => ∃ j : Nat, j ≤ cols.length ∧ s118 = .int .i64 j ∧ Ext wq W) (fun v _ => cols.length - (intOf v).toNat)
 case atStart => exact ⟨0, by omega, rfl, Ext.refl _⟩
 case round =>
 clear s1
 obtain ⟨wg, hwg⟩ : ∃ W : World, W = wr := ⟨_, rfl⟩
 subst hwg
 obtain ⟨j, hj, rfl, hX⟩ := hrel
 have HXg := Aside0.mk hX
 clear hX
 by_cases hlt : j < cols.length
 ·
  have hb : (j : Int) < cols.length := by omega
  obtain ⟨_, a1, o1, rfl, _, hcell⟩ := strC_cells (Kd.C_below H1.out (HXz.out.trans HXg.out)) (by omega)
  obtain ⟨x, hx⟩ : ∃ x, cols[j]? = some x := ⟨_, List.getElem?_eq_getElem hlt⟩
  have HC1 : Aside0 (wg.cell? ⟨a1, o1 + j, none⟩ = some (.string (strB x))) := ⟨hcell j x hx⟩
  have HC2 : Aside0 (wg.cell? ⟨b1, j, none⟩ = some (.string (strB x))) := ⟨by
   obtain ⟨g, c, he, _, _, _, hc⟩ := HSR1.out.shape (by simp)
   have hc2 := hc j x (by rw [List.getElem?_append_left hlt]; exact hx)
   simp only [Value.slice.injEq, Option.some.injEq, Addr.mk.injEq, and_true, true_and] at he
   rw [← he.1, Nat.zero_add] at hc2
   exact cell_ext (HYz.out.trans HXg.out) hc2⟩
  have HZ1 : Aside0 (wg.cell? ⟨ib, 1, none⟩ = some (.slice (some ⟨b1, 0, none⟩) cols.length e1)) := ⟨cell_ext HXg.out (blk_cell HZI.out 1)⟩
  have HZ2 : Aside0 (wg.cell? ⟨sb, 1, none⟩ = some (.slice (some ⟨a1, o1, none⟩) cols.length c1)) := ⟨cell_ext HXg.out (blk_cell HZS.out 1)⟩
  have HLT := Aside0.mk hb
  have HLT2 := Aside0.mk (show (0 : Int) ≤ (j : Int) by omega)
  clear hcell hx
  go_upto_region 15 with fail
  clear hb
  refine ext_region 11 [(0, 121), (1, 122), (2, 123), (3, 124), (4, 125), (5, 126), (6, 127), (7, 128), (8, 129), (9, 130), (10, 131)] [0, 1, 2, 3, 4, 5, 6, 7, 8, 9, 10] (fun i w v => match i with | 0 => v = .pointer (some ⟨ib, 1, none⟩) | 1 => v = .slice (some ⟨b1, 0, none⟩) cols.length e1 | 2 => v = .int .i64 (j : Nat) | 3 => v = .pointer (some ⟨b1, j, none⟩) | 4 => v = .string (strB x) | 5 => v = .pointer (some ⟨sb, 1, none⟩) | 6 => v = .slice (some ⟨a1, o1, none⟩) cols.length c1 | 7 => v = .int .i64 (j : Nat) | 8 => v = .pointer (some ⟨a1, o1 + j, none⟩) | 9 => v = .string (strB x) | 10 => v = .bool false | _ => True) (by kernel_rfl) (by kernel_rfl) (by rfl) rfl ?mono15 ?steps15 ?fin15
  case mono15 =>
   intro i w w' v h hE
   match i with
   | 0 => exact h
   | 1 => exact h
   | 2 => exact h
   | 3 => exact h
   | 4 => exact h
   | 5 => exact h
   | 6 => exact h
   | 7 => exact h
   | 8 => exact h
   | 9 => exact h
   | 10 => exact h
   | _ + 11 => trivial
  case steps15 =>
   refine stepE_cons ⟨_, rfl, fun a w hE hH => ?_⟩ ?_
   ·
    have e6 : a.tmps[6]? = some (.pointer (some ⟨ib, 0, none⟩)) := hH.old 6 rfl
    exact Or.inl ⟨rfl, goodE_val (.pointer (some ⟨ib, 1, none⟩)) (by simp [execOp, Act.eval, e6, go_sem]) rfl⟩
   refine stepE_cons ⟨_, rfl, fun a w hE hH => ?_⟩ ?_
   ·
    obtain ⟨v121, e121, g121⟩ := hH.dep 0 121 rfl (by kernel_rfl)
    have q121 : v121 = .pointer (some ⟨ib, 1, none⟩) := g121
    subst q121
    have hc := cell_ext ((Ext.to_drew _).trans hE) HZ1.out
    exact Or.inl ⟨(rfl), goodE_val (.slice (some ⟨b1, 0, none⟩) cols.length e1) (by simp [execOp, Act.eval, e121, hc, go_sem]) rfl⟩
   refine stepE_cons ⟨_, rfl, fun a w hE hH => ?_⟩ ?_
   ·
    have e15 : a.tmps[15]? = some (.int .i64 (j : Nat)) := hH.old 15 rfl
    exact Or.inl ⟨rfl, goodE_move _ rfl (eval_of e15) rfl⟩
   refine stepE_cons ⟨_, rfl, fun a w hE hH => ?_⟩ ?_
   ·
    obtain ⟨v122, e122, g122⟩ := hH.dep 1 122 rfl (by kernel_rfl)
    have q122 : v122 = .slice (some ⟨b1, 0, none⟩) cols.length e1 := g122
    subst q122
    obtain ⟨v123, e123, g123⟩ := hH.dep 2 123 rfl (by kernel_rfl)
    have q123 : v123 = .int .i64 (j : Nat) := g123
    subst q123
    exact Or.inl ⟨(rfl), goodE_val (.pointer (some ⟨b1, j, none⟩)) (by simp [execOp, Act.eval, e122, e123, Addr.add, HLT.out, HLT2.out, go_sem]; try (intro h0; first | (rw [h0]; rfl) | omega)) rfl⟩
   refine stepE_cons ⟨_, rfl, fun a w hE hH => ?_⟩ ?_
   ·
    obtain ⟨v124, e124, g124⟩ := hH.dep 3 124 rfl (by kernel_rfl)
    have q124 : v124 = .pointer (some ⟨b1, j, none⟩) := g124
    subst q124
    have hc := cell_ext ((Ext.to_drew _).trans hE) HC2.out
    exact Or.inl ⟨(rfl), goodE_val (.string (strB x)) (by simp [execOp, Act.eval, e124, hc, go_sem]) rfl⟩
   refine stepE_cons ⟨_, rfl, fun a w hE hH => ?_⟩ ?_
   ·
    have e2 : a.tmps[2]? = some (.pointer (some ⟨sb, 0, none⟩)) := hH.old 2 rfl
    exact Or.inl ⟨rfl, goodE_val (.pointer (some ⟨sb, 1, none⟩)) (by simp [execOp, Act.eval, e2, go_sem]) rfl⟩
   refine stepE_cons ⟨_, rfl, fun a w hE hH => ?_⟩ ?_
   ·
    obtain ⟨v126, e126, g126⟩ := hH.dep 5 126 rfl (by kernel_rfl)
    have q126 : v126 = .pointer (some ⟨sb, 1, none⟩) := g126
    subst q126
    have hc := cell_ext ((Ext.to_drew _).trans hE) HZ2.out
    exact Or.inl ⟨(rfl), goodE_val (.slice (some ⟨a1, o1, none⟩) cols.length c1) (by simp [execOp, Act.eval, e126, hc, go_sem]) rfl⟩
   refine stepE_cons ⟨_, rfl, fun a w hE hH => ?_⟩ ?_
   ·
    have e15 : a.tmps[15]? = some (.int .i64 (j : Nat)) := hH.old 15 rfl
    exact Or.inl ⟨rfl, goodE_move _ rfl (eval_of e15) rfl⟩
   refine stepE_cons ⟨_, rfl, fun a w hE hH => ?_⟩ ?_
   ·
    obtain ⟨v127, e127, g127⟩ := hH.dep 6 127 rfl (by kernel_rfl)
    have q127 : v127 = .slice (some ⟨a1, o1, none⟩) cols.length c1 := g127
    subst q127
    obtain ⟨v128, e128, g128⟩ := hH.dep 7 128 rfl (by kernel_rfl)
    have q128 : v128 = .int .i64 (j : Nat) := g128
    subst q128
    exact Or.inl ⟨(rfl), goodE_val (.pointer (some ⟨a1, o1 + j, none⟩)) (by simp [execOp, Act.eval, e127, e128, Addr.add, HLT.out, HLT2.out, go_sem]; try (intro h0; first | (rw [h0]; rfl) | omega)) rfl⟩
   refine stepE_cons ⟨_, rfl, fun a w hE hH => ?_⟩ ?_
   ·
    obtain ⟨v129, e129, g129⟩ := hH.dep 8 129 rfl (by kernel_rfl)
    have q129 : v129 = .pointer (some ⟨a1, o1 + j, none⟩) := g129
    subst q129
    have hc := cell_ext ((Ext.to_drew _).trans hE) HC1.out
    exact Or.inl ⟨(rfl), goodE_val (.string (strB x)) (by simp [execOp, Act.eval, e129, hc, go_sem]) rfl⟩
   refine stepE_cons ⟨_, rfl, fun a w hE hH => ?_⟩ ?_
   ·
    obtain ⟨v125, e125, g125⟩ := hH.dep 4 125 rfl (by kernel_rfl)
    have q125 : v125 = .string (strB x) := g125
    subst q125
    obtain ⟨v130, e130, g130⟩ := hH.dep 9 130 rfl (by kernel_rfl)
    have q130 : v130 = .string (strB x) := g130
    subst q130
    exact Or.inl ⟨rfl, goodE_val (.bool false) (by simp [execOp, Act.eval, e130, e125, go_sem]) rfl⟩
   exact stepE_nil
  rintro vals wz hE hV
  have k131 : vals 10 = .bool false := hV 10 (by simp) rfl
  simp only [List.map_cons, List.map_nil, putAll, Act.put, List.setIfInBounds_toArray, List.set_cons_zero, List.set_cons_succ, k131]
  have HX2 : Aside0 (Ext wq wz) := ⟨HXg.out.trans ((Ext.to_drew _).trans hE)⟩
  clear hE hV
  go_wp2_with fail
  go_roundw
  case rel => exact ⟨j + 1, by omega, by go_num, HX2.out⟩
  case measure => simp [intOf]; omega
 obtain rfl : j = cols.length := by omega
 have hb : ¬ ((cols.length : Int) < cols.length) := by omega
 have s3 : wg.cell? ⟨sb, 3, none⟩ = some (.slice A3 idx.length c3) := cell_ext HXg.out (blk_cell HZS.out 3)
 clear hlt hj
 go_wp2_with fail
 clear hb s3
 go_loopw [136] (fun s136 W => ∃ j : Nat, j ≤ idx.length ∧ s136 = .int .i64 j ∧ Ext wq W) (fun v _ => idx.length - (intOf v).toNat)
 case atStart => exact ⟨0, by omega, rfl, HXg.out⟩
 case round =>
 clear HXg
 obtain ⟨wh, hwh⟩ : ∃ W : World, W = wr := ⟨_, rfl⟩
 subst hwh
 obtain ⟨j, hj, rfl, hX⟩ := hrel
 have HXh := Aside0.mk hX
 clear hX
 by_cases hlt : j < idx.length
 ·
  have hb : (j : Int) < idx.length := by omega
  have hb0 : (0 : Int) ≤ j := by omega
  obtain ⟨l, hl⟩ : ∃ l, l = idx[j] := ⟨_, rfl⟩
  have hlg : idx[j]? = some l := by rw [hl]; exact List.getElem?_eq_getElem hlt
  have hll : l.length ≤ 2000000 := HLE.out l (by rw [hl]; exact List.getElem_mem hlt)
  obtain ⟨ad, A0, c0, hA, hcell, hcl, hint⟩ := at_L6 H3.out (j : Int) (by omega) hb
  rw [rdL6_get _ _ hlt, ← hl] at hcell hcl hint
  rw [Int.toNat_natCast] at hcell
  subst hA
  have HCE0 := Aside0.mk hcell
  have hcell := cell_ext (HXz.out.trans HXh.out) hcell
  obtain ⟨g, cg, he, _, _, _, hcu⟩ := HS.out.xr.own.form (by rw [HS.out.xr.len]; omega)
  have hA2 : A = some ⟨g, 0, none⟩ := by
   have h0 := HVE.out.symm.trans he
   injection h0
  subst hA2
  obtain ⟨u, hu⟩ : ∃ u, U[j]? = some u := ⟨U[j]'(by rw [HS.out.xr.len]; exact hlt), List.getElem?_eq_getElem _⟩
  obtain ⟨b, cp, hue, hcb, _, _, hcl2, hmk, _⟩ := (HS.out.xr.each j l u hlg hu).cells
  have HK0 : Aside0 (wo.cell? ⟨g, j, none⟩ = some (.slice (some ⟨b, 0, none⟩) l.length cp)) := ⟨by rw [← hue]; exact hcu j u hu⟩
  have k1 : wh.cell? ⟨g, j, none⟩ = some (.slice (some ⟨b, 0, none⟩) l.length cp) := by
   have := cell_ext (HYz.out.trans HXh.out) (hcu j u hu)
   rw [hue] at this
   exact this
  have k2 : wh.cell? ⟨b, l.length, none⟩ = some (.int .i64 77) := cell_ext (HYz.out.trans HXh.out) hmk
  have k1b : wh.cell? ((⟨g, 0, none⟩ : Addr).add j) = some (.slice (some ⟨b, 0, none⟩) l.length cp) := by rw [addr_add, Nat.zero_add]; exact k1
  have k2b : wh.cell? ((⟨b, 0, none⟩ : Addr).add l.length) = some (.int .i64 77) := by rw [addr_add, Nat.zero_add]; exact k2
  have i3 : wh.cell? ⟨ib, 3, none⟩ = some (.slice (some ⟨g, 0, none⟩) idx.length cV) := cell_ext HXh.out (blk_cell HZI.out 3)
  have s3 : wh.cell? ⟨sb, 3, none⟩ = some (.slice (some ad) idx.length c3) := cell_ext HXh.out (blk_cell HZS.out 3)
  have HIN := Aside0.mk hint
  have HCL := Aside0.mk hcl2
  have HK1 := Aside0.mk k1
  have HI3 := Aside0.mk i3
  have HS3 := Aside0.mk s3
  have HCE := Aside0.mk hcell
  have HLT := Aside0.mk hb
  have HLT2 := Aside0.mk hb0
  clear hl hlg hcl he hcu hu hue hcl2 hmk hint
  go_wp2_with fail
  clear hb hb0 k1 k2 k1b k2b i3 s3 hcell
  go_loopw [163] (fun s163 W => ∃ n : Nat, n ≤ l.length ∧ s163 = .int .i64 n ∧ Ext wq W) (fun v _ => l.length - (intOf v).toNat)
  case atStart => exact ⟨0, by omega, rfl, HXh.out⟩
  case round =>
  obtain ⟨wk, hwk⟩ : ∃ W : World, W = wr := ⟨_, rfl⟩
  subst hwk
  obtain ⟨n, hi, rfl, hX⟩ := hrel
  have HXk := Aside0.mk hX
  clear hX
  by_cases hlt2 : n < l.length
  ·
   have hb : (n : Int) < l.length := by omega
   have hb0 : (0 : Int) ≤ n := by omega
   obtain ⟨x, hx⟩ : ∃ x, l[n]? = some x := ⟨_, List.getElem?_eq_getElem hlt2⟩
   obtain ⟨a0, hA0, hc0⟩ := (intC_cells (Kd.C_below HIN.out (HXz.out.trans HXk.out))).2 (by omega)
   subst hA0
   have HC1 : Aside0 (wk.cell? (a0.add n) = some (.int .i64 x)) := ⟨hc0 n (iv x) (by rw [List.getElem?_map, hx]; rfl)⟩
   have HC2 : Aside0 (wk.cell? ⟨b, n, none⟩ = some (.int .i64 x)) := ⟨cell_ext (HYz.out.trans HXk.out) (HCL.out n x hx)⟩
   have HZ1 : Aside0 (wk.cell? ⟨ib, 3, none⟩ = some (.slice (some ⟨g, 0, none⟩) idx.length cV)) := ⟨cell_ext HXk.out (blk_cell HZI.out 3)⟩
   have HZ2 : Aside0 (wk.cell? ⟨sb, 3, none⟩ = some (.slice (some ad) idx.length c3)) := ⟨cell_ext HXk.out (blk_cell HZS.out 3)⟩
   have HD1 : Aside0 (wk.cell? ⟨g, j, none⟩ = some (.slice (some ⟨b, 0, none⟩) l.length cp)) := ⟨cell_ext (HYz.out.trans HXk.out) HK0.out⟩
   have HD2 : Aside0 (wk.cell? (ad.add j) = some (.slice (some a0) l.length c0)) := ⟨cell_ext (HXz.out.trans HXk.out) HCE0.out⟩
   have HLT3 := Aside0.mk hb
   have HLT4 := Aside0.mk hb0
   clear hx hc0
   go_upto_region 27 with fail
   clear hb hb0
   refine ext_region 17 [(0, 166), (1, 167), (2, 168), (3, 169), (4, 170), (5, 171), (6, 172), (7, 173), (8, 174), (9, 175), (10, 176), (11, 177), (12, 178), (13, 179), (14, 180), (15, 181), (16, 182)] [0, 1, 2, 3, 4, 5, 6, 7, 8, 9, 10, 11, 12, 13, 14, 15, 16] (fun i w v => match i with | 0 => v = .pointer (some ⟨ib, 3, none⟩) | 1 => v = .slice (some ⟨g, 0, none⟩) idx.length cV | 2 => v = .int .i64 (j : Nat) | 3 => v = .pointer (some ⟨g, j, none⟩) | 4 => v = .slice (some ⟨b, 0, none⟩) l.length cp | 5 => v = .int .i64 (n : Nat) | 6 => v = .pointer (some ⟨b, n, none⟩) | 7 => v = .int .i64 x | 8 => v = .pointer (some ⟨sb, 3, none⟩) | 9 => v = .slice (some ad) idx.length c3 | 10 => v = .int .i64 (j : Nat) | 11 => v = .pointer (some (ad.add j)) | 12 => v = .slice (some a0) l.length c0 | 13 => v = .int .i64 (n : Nat) | 14 => v = .pointer (some (a0.add n)) | 15 => v = .int .i64 x | 16 => v = .bool false | _ => True) (by kernel_rfl) (by kernel_rfl) (by rfl) rfl ?mono27 ?steps27 ?fin27
   case mono27 =>
    intro i w w' v h hE
    match i with
    | 0 => exact h
    | 1 => exact h
    | 2 => exact h
    | 3 => exact h
    | 4 => exact h
    | 5 => exact h
    | 6 => exact h
    | 7 => exact h
    | 8 => exact h
    | 9 => exact h
    | 10 => exact h
    | 11 => exact h
    | 12 => exact h
    | 13 => exact h
    | 14 => exact h
    | 15 => exact h
    | 16 => exact h
    | _ + 17 => trivial
   case steps27 =>
    refine stepE_cons ⟨_, rfl, fun a w hE hH => ?_⟩ ?_
    ·
     have e6 : a.tmps[6]? = some (.pointer (some ⟨ib, 0, none⟩)) := hH.old 6 rfl
     exact Or.inl ⟨rfl, goodE_val (.pointer (some ⟨ib, 3, none⟩)) (by simp [execOp, Act.eval, e6, go_sem]) rfl⟩
    refine stepE_cons ⟨_, rfl, fun a w hE hH => ?_⟩ ?_
    ·
     obtain ⟨v166, e166, g166⟩ := hH.dep 0 166 rfl (by kernel_rfl)
     have q166 : v166 = .pointer (some ⟨ib, 3, none⟩) := g166
     subst q166
     have hc := cell_ext ((Ext.to_drew _).trans hE) HZ1.out
     exact Or.inl ⟨(rfl), goodE_val (.slice (some ⟨g, 0, none⟩) idx.length cV) (by simp [execOp, Act.eval, e166, hc, go_sem]) rfl⟩
    refine stepE_cons ⟨_, rfl, fun a w hE hH => ?_⟩ ?_
    ·
     have e16 : a.tmps[16]? = some (.int .i64 (j : Nat)) := hH.old 16 rfl
     exact Or.inl ⟨rfl, goodE_move _ rfl (eval_of e16) rfl⟩
    refine stepE_cons ⟨_, rfl, fun a w hE hH => ?_⟩ ?_
    ·
     obtain ⟨v167, e167, g167⟩ := hH.dep 1 167 rfl (by kernel_rfl)
     have q167 : v167 = .slice (some ⟨g, 0, none⟩) idx.length cV := g167
     subst q167
     obtain ⟨v168, e168, g168⟩ := hH.dep 2 168 rfl (by kernel_rfl)
     have q168 : v168 = .int .i64 (j : Nat) := g168
     subst q168
     exact Or.inl ⟨(rfl), goodE_val (.pointer (some ⟨g, j, none⟩)) (by simp [execOp, Act.eval, e167, e168, Addr.add, HLT.out, HLT2.out, HLT3.out, HLT4.out, go_sem]; try (intro h0; first | (rw [h0]; rfl) | omega)) rfl⟩
    refine stepE_cons ⟨_, rfl, fun a w hE hH => ?_⟩ ?_
    ·
     obtain ⟨v169, e169, g169⟩ := hH.dep 3 169 rfl (by kernel_rfl)
     have q169 : v169 = .pointer (some ⟨g, j, none⟩) := g169
     subst q169
     have hc := cell_ext ((Ext.to_drew _).trans hE) HD1.out
     exact Or.inl ⟨(rfl), goodE_val (.slice (some ⟨b, 0, none⟩) l.length cp) (by simp [execOp, Act.eval, e169, hc, go_sem]) rfl⟩
    refine stepE_cons ⟨_, rfl, fun a w hE hH => ?_⟩ ?_
    ·
     have e18 : a.tmps[18]? = some (.int .i64 (n : Nat)) := hH.old 18 rfl
     exact Or.inl ⟨rfl, goodE_move _ rfl (eval_of e18) rfl⟩
    refine stepE_cons ⟨_, rfl, fun a w hE hH => ?_⟩ ?_
    ·
     obtain ⟨v170, e170, g170⟩ := hH.dep 4 170 rfl (by kernel_rfl)
     have q170 : v170 = .slice (some ⟨b, 0, none⟩) l.length cp := g170
     subst q170
     obtain ⟨v171, e171, g171⟩ := hH.dep 5 171 rfl (by kernel_rfl)
     have q171 : v171 = .int .i64 (n : Nat) := g171
     subst q171
     exact Or.inl ⟨(rfl), goodE_val (.pointer (some ⟨b, n, none⟩)) (by simp [execOp, Act.eval, e170, e171, Addr.add, HLT.out, HLT2.out, HLT3.out, HLT4.out, go_sem]; try (intro h0; first | (rw [h0]; rfl) | omega)) rfl⟩
    refine stepE_cons ⟨_, rfl, fun a w hE hH => ?_⟩ ?_
    ·
     obtain ⟨v172, e172, g172⟩ := hH.dep 6 172 rfl (by kernel_rfl)
     have q172 : v172 = .pointer (some ⟨b, n, none⟩) := g172
     subst q172
     have hc := cell_ext ((Ext.to_drew _).trans hE) HC2.out
     exact Or.inl ⟨(rfl), goodE_val (.int .i64 x) (by simp [execOp, Act.eval, e172, hc, go_sem]) rfl⟩
    refine stepE_cons ⟨_, rfl, fun a w hE hH => ?_⟩ ?_
    ·
     have e2 : a.tmps[2]? = some (.pointer (some ⟨sb, 0, none⟩)) := hH.old 2 rfl
     exact Or.inl ⟨rfl, goodE_val (.pointer (some ⟨sb, 3, none⟩)) (by simp [execOp, Act.eval, e2, go_sem]) rfl⟩
    refine stepE_cons ⟨_, rfl, fun a w hE hH => ?_⟩ ?_
    ·
     obtain ⟨v174, e174, g174⟩ := hH.dep 8 174 rfl (by kernel_rfl)
     have q174 : v174 = .pointer (some ⟨sb, 3, none⟩) := g174
     subst q174
     have hc := cell_ext ((Ext.to_drew _).trans hE) HZ2.out
     exact Or.inl ⟨(rfl), goodE_val (.slice (some ad) idx.length c3) (by simp [execOp, Act.eval, e174, hc, go_sem]) rfl⟩
    refine stepE_cons ⟨_, rfl, fun a w hE hH => ?_⟩ ?_
    ·
     have e16 : a.tmps[16]? = some (.int .i64 (j : Nat)) := hH.old 16 rfl
     exact Or.inl ⟨rfl, goodE_move _ rfl (eval_of e16) rfl⟩
    refine stepE_cons ⟨_, rfl, fun a w hE hH => ?_⟩ ?_
    ·
     obtain ⟨v175, e175, g175⟩ := hH.dep 9 175 rfl (by kernel_rfl)
     have q175 : v175 = .slice (some ad) idx.length c3 := g175
     subst q175
     obtain ⟨v176, e176, g176⟩ := hH.dep 10 176 rfl (by kernel_rfl)
     have q176 : v176 = .int .i64 (j : Nat) := g176
     subst q176
     exact Or.inl ⟨(rfl), goodE_val (.pointer (some (ad.add j))) (by simp [execOp, Act.eval, e175, e176, HLT.out, HLT2.out, HLT3.out, HLT4.out, go_sem]) rfl⟩
    refine stepE_cons ⟨_, rfl, fun a w hE hH => ?_⟩ ?_
    ·
     obtain ⟨v177, e177, g177⟩ := hH.dep 11 177 rfl (by kernel_rfl)
     have q177 : v177 = .pointer (some (ad.add j)) := g177
     subst q177
     have hc := cell_ext ((Ext.to_drew _).trans hE) HD2.out
     exact Or.inl ⟨(rfl), goodE_val (.slice (some a0) l.length c0) (by simp [execOp, Act.eval, e177, hc, go_sem]) rfl⟩
    refine stepE_cons ⟨_, rfl, fun a w hE hH => ?_⟩ ?_
    ·
     have e18 : a.tmps[18]? = some (.int .i64 (n : Nat)) := hH.old 18 rfl
     exact Or.inl ⟨rfl, goodE_move _ rfl (eval_of e18) rfl⟩
    refine stepE_cons ⟨_, rfl, fun a w hE hH => ?_⟩ ?_
    ·
     obtain ⟨v178, e178, g178⟩ := hH.dep 12 178 rfl (by kernel_rfl)
     have q178 : v178 = .slice (some a0) l.length c0 := g178
     subst q178
     obtain ⟨v179, e179, g179⟩ := hH.dep 13 179 rfl (by kernel_rfl)
     have q179 : v179 = .int .i64 (n : Nat) := g179
     subst q179
     exact Or.inl ⟨(rfl), goodE_val (.pointer (some (a0.add n))) (by simp [execOp, Act.eval, e178, e179, HLT.out, HLT2.out, HLT3.out, HLT4.out, go_sem]) rfl⟩
    refine stepE_cons ⟨_, rfl, fun a w hE hH => ?_⟩ ?_
    ·
     obtain ⟨v180, e180, g180⟩ := hH.dep 14 180 rfl (by kernel_rfl)
     have q180 : v180 = .pointer (some (a0.add n)) := g180
     subst q180
     have hc := cell_ext ((Ext.to_drew _).trans hE) HC1.out
     exact Or.inl ⟨(rfl), goodE_val (.int .i64 x) (by simp [execOp, Act.eval, e180, hc, go_sem]) rfl⟩
    refine stepE_cons ⟨_, rfl, fun a w hE hH => ?_⟩ ?_
    ·
     obtain ⟨v173, e173, g173⟩ := hH.dep 7 173 rfl (by kernel_rfl)
     have q173 : v173 = .int .i64 x := g173
     subst q173
     obtain ⟨v181, e181, g181⟩ := hH.dep 15 181 rfl (by kernel_rfl)
     have q181 : v181 = .int .i64 x := g181
     subst q181
     exact Or.inl ⟨rfl, goodE_val (.bool false) (by simp [execOp, Act.eval, e173, e181, go_sem]) rfl⟩
    exact stepE_nil
   rintro vals wz hE hV
   have k182 : vals 16 = .bool false := hV 16 (by simp) rfl
   simp only [List.map_cons, List.map_nil, putAll, Act.put, List.setIfInBounds_toArray, List.set_cons_zero, List.set_cons_succ, k182]
   have HX2 : Aside0 (Ext wq wz) := ⟨HXk.out.trans ((Ext.to_drew _).trans hE)⟩
   clear hE hV
   go_wp2_with fail
   go_roundw
   case rel => exact ⟨n + 1, by omega, by go_num, HX2.out⟩
   case measure => simp [intOf]; omega
  obtain rfl : n = l.length := by omega
  have hb : ¬ ((l.length : Int) < l.length) := by omega
  clear hlt2 hi
  go_wp2_with fail
  go_roundw
  case rel => exact ⟨j + 1, by omega, by go_num, HXk.out⟩
  case measure => simp [intOf]; omega
 obtain rfl : j = idx.length := by omega
 have hb : ¬ ((idx.length : Int) < idx.length) := by omega
 clear hlt hj
 have hkn : Calls Tryz.prog 11 #[] wh (fun e w' => e = .returned (.bool true) ∧ Ext wh w') := known_calls wh (Glob.of_below HG.out (HXz.out.trans HXh.out))
 go_wp2_with (go_at_call 11; (with_reducible refine hkn.mono ?_); rintro e w8 ⟨rfl, hE8⟩; have HX8 := Aside0.mk (HXz.out.trans (HXh.out.trans hE8)); clear hE8)
 go_ret
 exact ⟨rfl, HX8.out⟩
end Go.Proofs.YthhemephaabblaaGreatDoor.Hq
set_option linter.unusedVariables false
set_option linter.unusedSimpArgs false
namespace Go.Proofs.YthhemephaabblaaGreatDoor.lawQueryPlans
open Go.ChangeShapes Go.WideShapes Go.ChangeAt Go.RowKit
open Go.Proofs.YthhemephaabblaaGreatDoor Go.Proofs.YthhemephaabblaaGreatDoor.Hq Go.Proofs.YthhemephaabblaaGreatDoorW.PrintWords
theorem own : ownKnob Tryz.prog.godebug = none := by kernel_rfl
theorem laidOut : laidOutB Tryz.prog = true := by kernel_rfl
theorem tables {W : World} (h : laidMetH Tryz.prog Rows.queryPlansUptoRow.laid W) : Glob2 W := glob_of_laid h
set_option maxRecDepth 100000 in
theorem contract (H : Type) (enc : TypeId × Value → H) (W : World) (base : Nat) (args : Array Value) (ds gs : List (DataW H)) (before : List MemPlace)
  (hval : ∀ (j : Nat) t v, Tryz.f6.params[j]? = some t → args[j]? = some v → Value.okWide Tryz.prog W .any base t v)
  (hW : DataW.Whole enc Tryz.prog Tryz.f6.params.toList Rows.queryPlansSpec.vars false W args.toList ds gs before) (hk : Rows.uptoSmall H (ds ++ gs) = true) (hL : laidMetH Tryz.prog Rows.queryPlansUptoRow.laid W) :
  Calls Tryz.prog 6 args W fun e W' => ∃ v, e = .returned v ∧ Rows.queryPlansSpec.post enc Tryz.prog Tryz.f6 false true false false W args v W' := by
 have hW' := hW
 obtain ⟨p, q, hA0, hV, rfl, hfz, hnd⟩ := hW
 have hA : DataW.TrodAll enc Tryz.prog W 0 (fun _ => true) true Tryz.f6.params.toList args.toList ds p := hA0
 rw [Tryz.params6] at hA hval
 obtain ⟨v0, vs0, d0, ds0, p0, q0, hargs, rfl, rfl, h0, r0⟩ := trodAll_cons hA
 obtain ⟨v1, vs1, d1, ds1, p1, q1, rfl, rfl, rfl, h1, r1⟩ := trodAll_cons r0
 obtain ⟨rfl, rfl, rfl⟩ := trodAll_nil r1
 obtain rfl : args = #[v0, v1] := by cases args; simp_all
 obtain ⟨rfl, rfl⟩ := trodVars_none hV
 have k0 := h0
 have lt0 : ∀ x ∈ p0, x.block < W.heap.size := by obtain ⟨m, hm⟩ := k0; exact DataW.trod_lt m _ _ _ hm
 have k1 := h1
 have lt1 : ∀ x ∈ p1, x.block < W.heap.size := by obtain ⟨m, hm⟩ := k1; exact DataW.trod_lt m _ _ _ hm
 have hbulk := of_decide_eq_true hk
 simp only [List.append_nil, List.cons_append, List.nil_append, Rows.uptoBulkAll] at hbulk
 clear hk
 obtain ⟨nm0, cols0, ks0, idx0, A1_0, c1_0, A3_0, c3_0, rfl, hc1_0, hc3_0, hC1_0, hC3_0, hb1_0, hb3_0, hbe_0⟩ := open_arg_s (hval 0 49 v0 rfl rfl) h0
 obtain ⟨q1, A5_1, c5_1, A7_1, c7_1, rfl, hc5_1, hc7_1, hC5_1, hC7_1, hb5_1, hb7_1, hok_1⟩ := open_arg_q (hval 1 31 v1 rfl rfl) h1
 clear hA0 hnd hfz
 have ht := tables hL
 refine Calls.mono (queryPlans_calls nm0 cols0 ks0 idx0 q1 (hok_1 (by omega)) A1_0 c1_0 A3_0 c3_0 A5_1 c5_1 A7_1 c7_1 W ht.tab hC1_0 hc1_0 hC3_0 hc3_0 hC5_1 hc5_1 hC7_1 hc7_1 (by omega) (by omega) (fun x hx => by have := hbe_0 x hx; omega) (by omega) (by omega)) fun e W' ⟨he, bel⟩ => ?_
 subst he
 exact ⟨_, rfl, _, _, _, [], _, [], hW', trodAll_mk1 (shut_bool Tryz.underlying4 _), (trodAll_cons_mk (Below.trod laidOut (by kernel_rfl) (of_decide_eq_true (by kernel_rfl)) k0 bel lt0) (trodAll_cons_mk (Below.trod laidOut (by kernel_rfl) (of_decide_eq_true (by kernel_rfl)) k1 bel lt1) trodAll_mk0)), rfl, bel.frame _, fun h => by cases h⟩
theorem reads (os : Os) {H : Type} (enc : TypeId × Value → H) : ∃ places, DataW.whole enc Tryz.prog ((laidWorld os).forCall (fun _ _ => 0) ⟨#[], #[.agg #[.string ⟨#[]⟩, .slice none 0 0, .int .i64 0, .slice none 0 0], .agg #[.slice none 0 0, .string ⟨#[]⟩, .slice none 0 0, .string ⟨#[]⟩, .bool false, .int .i64 0]], []⟩).memory Tryz.f6.params.toList Rows.queryPlansSpec.vars false (#[.agg #[.string ⟨#[]⟩, .slice none 0 0, .int .i64 0, .slice none 0 0], .agg #[.slice none 0 0, .string ⟨#[]⟩, .slice none 0 0, .string ⟨#[]⟩, .bool false, .int .i64 0]] : Array Value).toList 8 = some ([.agg [.lit (.string []), .nil, .lit (.int .i64 0), .nil], .agg [.nil, .lit (.string []), .nil, .lit (.string []), .lit (.bool false), .lit (.int .i64 0)]], [], places) :=
 ⟨[], by kernel_rfl⟩
set_option maxRecDepth 100000 in
theorem lifted (os : Os) (started : os.Started) (H : Type) (enc : TypeId × Value → H) (F : Stop.Interp) :
  ReturnsInHanded {} Tryz.checked os 6 .any ((Rows.OpenSpec.upto Rows.queryPlansSpec).preRow enc Tryz.prog Tryz.f6 Rows.queryPlansUptoRow.domain false Rows.queryPlansUptoRow.laid) (((Rows.OpenSpec.upto Rows.queryPlansSpec).at F).post enc Tryz.prog Tryz.f6 false true false false) := by
 obtain ⟨places, hx⟩ := reads os enc
 refine returnsInHanded_of_row (C := Tryz.checked) (s := (Rows.OpenSpec.upto Rows.queryPlansSpec)) own started (by kernel_rfl) Tryz.func6
  (witness_row_at (enc := enc) (C := Tryz.checked) false (laidWorld os) #[.agg #[.string ⟨#[]⟩, .slice none 0 0, .int .i64 0, .slice none 0 0], .agg #[.slice none 0 0, .string ⟨#[]⟩, .slice none 0 0, .string ⟨#[]⟩, .bool false, .int .i64 0]] rfl (by kernel_rfl) (by kernel_rfl) (by kernel_rfl)
   (OpenSpec.preRow_of_cond 8 hx (by kernel_rfl) (fun k hk => by cases hk; kernel_rfl) (by kernel_rfl) (laid_met os _))) ?_
 intro W base args ds gs before hval hW _ hcond _ hL _ _
 exact contract H enc W base args ds gs before hval hW (hcond _ rfl) hL
theorem said : Rows.QueryPlansUptoSaid :=
 OpenClaim.holds_of_cond 6 Tryz.f6 rfl rfl rfl rfl rfl rfl rfl ⟨rfl, rfl, rfl, rfl, rfl⟩ rfl rfl rfl rfl rfl (by kernel_rfl) Tryz.func6 (by kernel_rfl)
  (of_decide_eq_true (by kernel_rfl)) (by unfold Func.isWrapper; first | (rw [if_pos (by decide +kernel)]; kernel_rfl) | (rw [if_neg (by decide +kernel)]; exact ⟨rfl, rfl⟩))
  (fun os started H enc _ F => by rw [OpenClaim.pre_eq_preRow]; exact lifted os started H enc F)
theorem plain (f : FuncId) (fn : Func) (hf : Tryz.pinned.checked.prog.funcNamed "cairn/cairnlaw32.QueryPlans" = some f) (hfn : Tryz.pinned.checked.prog.funcs[f]? = some fn) :
  true = Tryz.pinned.checked.prog.looks [] ∧ ∀ (j : Nat) t, fn.params[j]? = some t → Tryz.pinned.checked.prog.wantsStandIn t = false := by
 obtain rfl : f = 6 := Option.some.inj ((show Tryz.prog.funcNamed "cairn/cairnlaw32.QueryPlans" = some 6 by kernel_rfl).symm.trans hf) |>.symm
 obtain rfl : fn = Tryz.f6 := (Option.some.inj (Tryz.func6.symm.trans hfn)).symm
 refine ⟨by kernel_rfl, fun j t ht => ?_⟩
 rw [Tryz.params6] at ht
 match j, ht with
 | 0, ht =>
  obtain rfl : 49 = t := by simpa using ht
  exact (show Tryz.prog.wantsStandIn 49 = false by kernel_rfl)
 | 1, ht =>
  obtain rfl : 31 = t := by simpa using ht
  exact (show Tryz.prog.wantsStandIn 31 = false by kernel_rfl)
 | j + 2, ht => simp at ht
theorem card : Rows.QueryPlansUptoCardSaid :=
 Claim7.holds_tied_plain_at .later [] _ _ _ _ said (fun _ h => by cases h) (by kernel_rfl) (fun _ h => by cases h) queryPlansUpto_row_tie rfl ⟨rfl, rfl⟩ (by kernel_rfl) rfl plain (by kernel_rfl)
#print axioms card
end Go.Proofs.YthhemephaabblaaGreatDoor.lawQueryPlans
