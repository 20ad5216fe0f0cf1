
import Derived.Test.YthhemephaabblaaGreatDoorZCm
import Derived.Test.YthhemephaabblaaGreatDoorZCn
import Derived.Test.YthhemephaabblaaGreatDoorZCl
namespace Go.Proofs.YthhemephaabblaaGreatDoor.Hq
open Go.RowKit Go.Proofs.YthhemephaabblaaGreatDoorW.PrintWords Go.Proofs.YthhemephaabblaaGreatDoorW.PrintLast Go.Proofs.YthhemephaabblaaGreatDoorW.PrintMore Go.Proofs.YthhemephaabblaaGreatDoor Go.Proofs.YthhemephaabblaaGreatDoor.Q Go.Proofs.YthhemephaabblaaGreatDoor.R
set_option linter.unusedVariables false
set_option linter.unusedSimpArgs false
structure DL (B : Nat) (w : World) (g rb qb : Nat) : Prop where
  d1 : w.heap.size ≤ rb
  d2 : rb < qb
  d3 : qb < g
  d4 : g < B
structure DS (B : Nat) (w : World) (g rb qb : Nat) (s : List UInt8) (L : List Tk) (bad : Bool) (v5 : Value) (cs : List (List UInt8)) (tab : List UInt8) (v7 : Value) (ts : List Tst) (ord : List UInt8) (down : Bool) (lim : Int) (W : World) : Prop where
  rd : RD B W g s L bad
  zr : W.heap[rb]? = some (.cells #[.slice none 0 0, .string ⟨#[]⟩, .slice none 0 0, .string ⟨#[]⟩, .bool false, .int .i64 0] 31 (0, 0))
  zq : W.heap[qb]? = some (.cells #[v5, .string (strB tab), v7, .string (strB ord), .bool down, .int .i64 lim] 31 (0, 0))
  s5 : Sr B W v5 cs
  s7 : Te B W v7 ts
  kp : KB w W w.heap.size
theorem keep_far {w w1 w2 : World} {g : Nat} (h : KB w w1 w.heap.size) (hK : KB w1 w2 g) (hg : w.heap.size ≤ g) : KB w w2 w.heap.size :=
  ⟨Nat.le_trans h.1 hK.1, fun i hi hne hn => (hK.2.1 i (Nat.lt_of_lt_of_le hi h.1) (by omega) (by simp)).trans (h.2.1 i hi hne hn), hK.2.2.1.trans h.2.2.1, hK.2.2.2.1.trans h.2.2.2.1, hK.2.2.2.2.trans h.2.2.2.2⟩
section
variable {B : Nat} {w : World} {g rb qb : Nat} {s : List UInt8} {L : List Tk} {bad : Bool} {v5 : Value} {cs : List (List UInt8)} {tab : List UInt8} {v7 : Value} {ts : List Tst} {ord : List UInt8} {down : Bool} {lim : Int} {W : World}
theorem DS.call {W' : World} {L' : List Tk} {bad' : Bool} (D : DL B w g rb qb) (h : DS B w g rb qb s L bad v5 cs tab v7 ts ord down lim W) (hR : RD B W' g s L' bad') (hK : KB W W' g) : DS B w g rb qb s L' bad' v5 cs tab v7 ts ord down lim W' := by
  have d := D.d1; have d2 := D.d2; have d3 := D.d3; have d4 := D.d4
  exact ⟨hR, keep_blk hK (by omega) h.zr, keep_blk hK (by omega) h.zq, h.s5.kb hK d4, h.s7.keep hK d4, keep_far h.kp hK (by omega)⟩
theorem DS.ext {W' : World} (D : DL B w g rb qb) (h : DS B w g rb qb s L bad v5 cs tab v7 ts ord down lim W) (hE : Ext W W') : DS B w g rb qb s L bad v5 cs tab v7 ts ord down lim W' :=
  ⟨h.rd.below (hE.mono h.rd.lt.2), heap_below h.zr hE, heap_below h.zq hE, h.s5.ext hE, h.s7.ext hE, kb_then h.kp (hE.mono h.kp.1)⟩
theorem DS.sets (D : DL B w g rb qb) (h : DS B w g rb qb s L bad v5 cs tab v7 ts ord down lim W) (k : Nat) (u : Value) : RD B (W.setCell ⟨qb, k, none⟩ u) g s L bad ∧ (W.setCell ⟨qb, k, none⟩ u).heap[rb]? = some (.cells #[.slice none 0 0, .string ⟨#[]⟩, .slice none 0 0, .string ⟨#[]⟩, .bool false, .int .i64 0] 31 (0, 0)) ∧ Sr B (W.setCell ⟨qb, k, none⟩ u) v5 cs ∧ Te B (W.setCell ⟨qb, k, none⟩ u) v7 ts ∧ KB w (W.setCell ⟨qb, k, none⟩ u) w.heap.size := by
  have d := D.d1; have d2 := D.d2; have d3 := D.d3; have d4 := D.d4
  refine ⟨?_, blk_far h.zr (by show rb ≠ qb; omega) _, h.s5.far (by omega), Te.far h.s7 (by omega), keep_new h.kp (by omega)⟩
  obtain ⟨p, v, hp, hL, hgB, hR, hg⟩ := h.rd
  refine ⟨p, v, hp, hL, hgB, ?_, blk_far hg (by show g ≠ qb; omega) _⟩
  obtain ⟨tb, o, c, rfl, hc, ht, hBw, hne, ⟨tc, hty⟩, hx⟩ := hR
  have htq : tb ≠ qb := blk_ne hty h.zq (by decide)
  have ht' : (W.setCell ⟨qb, k, none⟩ u).heap[tb]? = W.heap[tb]? := Below.heap_setCell _ _ _ _ (show tb ≠ qb from htq)
  refine ⟨tb, o, c, rfl, hc, ht, by simpa using hBw, hne, ⟨tc, by rw [ht']; exact hty⟩, fun ix x hix => ?_⟩
  have e : ∀ j, (W.setCell ⟨qb, k, none⟩ u).cell? ⟨tb, j, none⟩ = W.cell? ⟨tb, j, none⟩ := fun j => by simp only [World.cell?, ht']
  rw [e, e, e]
  exact hx ix x hix
theorem DS.set1 (D : DL B w g rb qb) (h : DS B w g rb qb s L bad v5 cs tab v7 ts ord down lim W) (x : List UInt8) : DS B w g rb qb s L bad v5 cs x v7 ts ord down lim (W.setCell ⟨qb, 1, none⟩ (.string (strB x))) := by
  obtain ⟨h1, h2, h3, h4, h5⟩ := h.sets D 1 (.string (strB x))
  exact ⟨h1, h2, by simpa using blk_set h.zq 1 (.string (strB x)), h3, h4, h5⟩
theorem DS.set3 (D : DL B w g rb qb) (h : DS B w g rb qb s L bad v5 cs tab v7 ts ord down lim W) (x : List UInt8) : DS B w g rb qb s L bad v5 cs tab v7 ts x down lim (W.setCell ⟨qb, 3, none⟩ (.string (strB x))) := by
  obtain ⟨h1, h2, h3, h4, h5⟩ := h.sets D 3 (.string (strB x))
  exact ⟨h1, h2, by simpa using blk_set h.zq 3 (.string (strB x)), h3, h4, h5⟩
theorem DS.set4 (D : DL B w g rb qb) (h : DS B w g rb qb s L bad v5 cs tab v7 ts ord down lim W) (x : Bool) : DS B w g rb qb s L bad v5 cs tab v7 ts ord x lim (W.setCell ⟨qb, 4, none⟩ (.bool x)) := by
  obtain ⟨h1, h2, h3, h4, h5⟩ := h.sets D 4 (.bool x)
  exact ⟨h1, h2, by simpa using blk_set h.zq 4 (.bool x), h3, h4, h5⟩
theorem DS.set5 (D : DL B w g rb qb) (h : DS B w g rb qb s L bad v5 cs tab v7 ts ord down lim W) (x : Int) : DS B w g rb qb s L bad v5 cs tab v7 ts ord down x (W.setCell ⟨qb, 5, none⟩ (.int .i64 x)) := by
  obtain ⟨h1, h2, h3, h4, h5⟩ := h.sets D 5 (.int .i64 x)
  exact ⟨h1, h2, by simpa using blk_set h.zq 5 (.int .i64 x), h3, h4, h5⟩
theorem DS.set0 (D : DL B w g rb qb) (h : DS B w g rb qb s L bad v5 cs tab v7 ts ord down lim W) {x : Value} {ys : List (List UInt8)} (hx : Sr B W x ys) : DS B w g rb qb s L bad x ys tab v7 ts ord down lim (W.setCell ⟨qb, 0, none⟩ x) := by
  have d := D.d1; have d2 := D.d2; have d3 := D.d3; have d4 := D.d4
  obtain ⟨h1, h2, h3, h4, h5⟩ := h.sets D 0 x
  exact ⟨h1, h2, by simpa using blk_set h.zq 0 x, hx.far (by omega), h4, h5⟩
theorem DS.set2 (D : DL B w g rb qb) (h : DS B w g rb qb s L bad v5 cs tab v7 ts ord down lim W) {x : Value} {ys : List Tst} (hx : Te B W x ys) : DS B w g rb qb s L bad v5 cs tab x ys ord down lim (W.setCell ⟨qb, 2, none⟩ x) := by
  have d := D.d1; have d2 := D.d2; have d3 := D.d3; have d4 := D.d4
  obtain ⟨h1, h2, h3, h4, h5⟩ := h.sets D 2 x
  exact ⟨h1, h2, by simpa using blk_set h.zq 2 x, h3, Te.far hx (by omega), h5⟩
theorem DS.cells (h : DS B w g rb qb s L bad v5 cs tab v7 ts ord down lim W) : (W.cell? ⟨qb, 0, none⟩ = some v5 ∧ W.cell? ⟨qb, 1, none⟩ = some (.string (strB tab)) ∧ W.cell? ⟨qb, 2, none⟩ = some v7 ∧ W.cell? ⟨qb, 3, none⟩ = some (.string (strB ord)) ∧ W.cell? ⟨qb, 4, none⟩ = some (.bool down) ∧ W.cell? ⟨qb, 5, none⟩ = some (.int .i64 lim)) ∧ ∀ k, W.frozen? ⟨qb, k, none⟩ = false :=
  ⟨⟨blk_cell h.zq 0, blk_cell h.zq 1, blk_cell h.zq 2, blk_cell h.zq 3, blk_cell h.zq 4, blk_cell h.zq 5⟩, blk_frozen h.zq⟩
end
def QE (B : Nat) (w : World) (q : Qry) (v5 v7 : Value) : Prop := Sr B w v5 q.cols ∧ Te B w v7 q.wh
def DPa (w : World) (r : Qry × Nat × Int) (e : Ending) (w' : World) : Prop :=
  ∃ v5 v7, e = .returned (.tuple #[qval r.1 v5 v7, .int .i64 (r.2.1 : Int), .int .i64 r.2.2]) ∧ QE w.heap.size w' r.1 v5 v7 ∧ KB w w' w.heap.size
def R1 (cs : List (List UInt8)) (bad : Bool) (L : List Tk) : Option Qry × List Tk := if bad = true then (none, L) else c1 cs L
def R2 (cs : List (List UInt8)) (tb : List UInt8) (bad : Bool) (L : List Tk) : Option Qry × List Tk := if bad = true then (none, L) else c2 cs tb L
def R3 (cs : List (List UInt8)) (tb : List UInt8) (wh : List Tst) (bad : Bool) (L : List Tk) : Option Qry × List Tk := if bad = true then (none, L) else c3 cs tb wh L
def R4 (cs : List (List UInt8)) (tb : List UInt8) (wh : List Tst) (ord : List UInt8) (down : Bool) (bad : Bool) (L : List Tk) : Option Qry × List Tk := if bad = true then (none, L) else c4 cs tb wh ord down L
def R5 (cs : List (List UInt8)) (tb : List UInt8) (wh : List Tst) (ord : List UInt8) (down : Bool) (lm : Int) (bad : Bool) (L : List Tk) : Option Qry × List Tk := if bad = true then (none, L) else c5 cs tb wh ord down lm L
theorem R1_of {L : List Tk} {b : Bool} {L1 : List Tk} (h1 : isD false 2 wSelect L = (b, L1)) {o : Option (List (List UInt8))} {L2 : List Tk} (h2 : colsD (false || !b) L1 = (o, L2)) {cs : List (List UInt8)} (h3 : ∀ cs', o = some cs' → cs = cs') : parseL L = R1 cs (!o.isSome) L2 := by
  rw [isD_false] at h1
  unfold parseL
  rw [h1]
  cases b with
  | false =>
    have : L1 = L := pass_no h1
    have h4 : (none, L1) = (o, L2) := h2
    obtain ⟨rfl, rfl⟩ := Prod.mk.inj h4
    rw [this]; rfl
  | true =>
    rw [if_pos rfl]
    have h4 : columnsL L1 = (o, L2) := h2
    simp only [h4]
    cases o with
    | none => rfl
    | some cs' => rw [h3 cs' rfl]; rfl
theorem R2_of {cs : List (List UInt8)} {bad : Bool} {L : List Tk} {b : Bool} {L1 : List Tk} (h1 : isD bad 2 wFrom L = (b, L1)) {c : List UInt8} {bd : Bool} {L2 : List Tk} (h2 : nameD (bad || !b) L1 = (c, bd, L2)) : R1 cs bad L = R2 cs c bd L2 := by
  cases bad with
  | true =>
    rw [isD_true] at h1
    obtain ⟨rfl, rfl⟩ := Prod.mk.inj h1
    have h4 : ([], true, L) = (c, bd, L2) := h2
    simp only [Prod.mk.injEq] at h4
    obtain ⟨rfl, rfl, rfl⟩ := h4
    rfl
  | false =>
    rw [isD_false] at h1
    unfold R1 c1
    rw [h1, if_neg Bool.false_ne_true]
    cases b with
    | false =>
      have : L1 = L := pass_no h1
      have h4 : ([], true, L1) = (c, bd, L2) := h2
      simp only [Prod.mk.injEq] at h4
      obtain ⟨rfl, rfl, rfl⟩ := h4
      rw [this]; rfl
    | true =>
      have h4 : ((nameL L1).1.getD [], !(nameL L1).1.isSome, (nameL L1).2) = (c, bd, L2) := h2
      rcases hn : nameL L1 with ⟨o, L3⟩
      rw [hn] at h4
      simp only [Prod.mk.injEq] at h4
      obtain ⟨rfl, rfl, rfl⟩ := h4
      cases o with
      | none => simp only [if_true, hn]; rfl
      | some c2 => simp only [if_true, hn]; rfl
theorem R4_of {cs : List (List UInt8)} {tb : List UInt8} {wh : List Tst} {L L1 L2 L3 L4 : List Tk} {b2 bd dn : Bool} {od : List UInt8} (h1 : passL 2 wOrder L = (true, L1)) (h2 : isD false 2 wBy L1 = (b2, L2)) (h3 : nameD (false || !b2) L2 = (od, bd, L3)) (h4 : isD bd 2 wDown L3 = (dn, L4)) : R3 cs tb wh false L = R4 cs tb wh od dn bd L4 := by
  unfold R3 c3
  rw [if_neg Bool.false_ne_true, h1, if_pos rfl]
  rw [isD_false] at h2
  unfold orderL
  rw [h2]
  cases b2 with
  | false =>
    have : L2 = L1 := pass_no h2
    have h5 : ([], true, L2) = (od, bd, L3) := h3
    simp only [Prod.mk.injEq] at h5
    obtain ⟨rfl, rfl, rfl⟩ := h5
    rw [isD_true] at h4
    obtain ⟨rfl, rfl⟩ := Prod.mk.inj h4
    rw [this]; rfl
  | true =>
    have h5 : ((nameL L2).1.getD [], !(nameL L2).1.isSome, (nameL L2).2) = (od, bd, L3) := h3
    rcases hn : nameL L2 with ⟨o, L5⟩
    rw [hn] at h5
    simp only [Prod.mk.injEq] at h5
    obtain ⟨rfl, rfl, rfl⟩ := h5
    cases o with
    | none =>
      obtain ⟨rfl, rfl⟩ := Prod.mk.inj h4
      simp only [if_true, hn]; rfl
    | some c2 =>
      have h6 : passL 2 wDown L5 = (dn, L4) := h4
      simp only [if_true, hn, h6]; rfl
theorem var_keep {P : Program} {n : String} {cs : Array Value} {w W : World} (h : w.var? P n = some cs) (hK : KB w W w.heap.size) : W.var? P n = some cs := by
  unfold World.var? at h ⊢
  cases hg : P.globalNamed n with
  | none => rw [hg] at h; cases h
  | some g =>
    rw [hg] at h
    simp only [Option.bind_some] at h ⊢
    have hlt : g < w.heap.size := by
      by_cases hlt : g < w.heap.size
      · exact hlt
      · rw [Array.getElem?_eq_none (by omega)] at h; cases h
    rw [hK.2.1 g hlt (by omega) (by simp)]
    exact h
theorem Glob2.keep {w W : World} (h : Glob2 w) (hK : KB w W w.heap.size) : Glob2 W := by
  obtain ⟨⟨h1⟩, tp, p, h2⟩ := h
  exact ⟨⟨var_keep h1 hK⟩, tp, p, var_keep h2 hK⟩
theorem lim_some {s : List UInt8} {p : Nat} (hp : p ≤ s.length) {x : Tk} {l : List Tk} (h : toks s p = x :: l) (hk : x.kind = 3) (hn : ¬ limN x.says = 0) : limitL (x :: l) = (some (limN x.says), l) := by
  unfold limN at hn ⊢
  by_cases hc : x.says.length ≤ 9 ∧ x.says.head? ≠ some 48
  · rw [if_pos hc]; unfold limitL; exact if_pos ⟨hk, hc⟩
  · rw [if_neg hc] at hn; exact absurd rfl hn
theorem lim_none {s : List UInt8} {p : Nat} (hp : p ≤ s.length) {x : Tk} {l : List Tk} (h : toks s p = x :: l) (hn : x.kind ≠ 3 ∨ limN x.says = 0) : limitL (x :: l) = (none, x :: l) := by
  unfold limitL
  refine if_neg fun hh => ?_
  have hk : x.kind = 3 := hh.1
  have h9 : x.says.length ≤ 9 ∧ x.says.head? ≠ some 48 := hh.2
  rcases hn with hn | hn
  · exact hn hk
  · have hno := numOk_toks s p hp
    rw [h] at hno
    obtain ⟨h1, h2⟩ := hno hk
    obtain ⟨n, e, _, _, h3⟩ := atoi_digits x.says h1 h2 h9.1
    unfold limN at hn
    rw [if_pos h9, e] at hn
    have := h3 h9.2
    simp at hn
    omega
theorem R5_of {cs : List (List UInt8)} {tb : List UInt8} {wh : List Tst} {ord : List UInt8} {down : Bool} {L L1 L2 : List Tk} {o : Option Int} (h1 : passL 2 wLimit L = (true, L1)) (h2 : limitL L1 = (o, L2)) {lm : Int} (h3 : ∀ n, o = some n → lm = n) : R4 cs tb wh ord down false L = R5 cs tb wh ord down lm (!o.isSome) L2 := by
  unfold R4 c4
  rw [if_neg Bool.false_ne_true, h1, if_pos rfl]
  simp only [h2]
  cases o with
  | none => rfl
  | some n => rw [h3 n rfl]; rfl
theorem zero_six {w wz : World} {rb : Nat} (hz : wz.heap[rb]? = some (.cells #[.slice none 0 0, .string ⟨#[]⟩, .slice none 0 0, .string ⟨#[]⟩, .bool false, .int .i64 0] 31 (0, 0))) (hk : KB w wz w.heap.size) (hb : w.heap.size ≤ rb) :
    ((((((wz.setCell ⟨rb, 0, none⟩ (.slice none 0 0)).setCell ⟨rb, 1, none⟩ (.string ⟨#[]⟩)).setCell ⟨rb, 2, none⟩ (.slice none 0 0)).setCell ⟨rb, 3, none⟩ (.string ⟨#[]⟩)).setCell ⟨rb, 4, none⟩ (.bool false)).setCell ⟨rb, 5, none⟩ (.int .i64 0)).heap[rb]? = some (.cells #[.slice none 0 0, .string ⟨#[]⟩, .slice none 0 0, .string ⟨#[]⟩, .bool false, .int .i64 0] 31 (0, 0)) ∧ KB w ((((((wz.setCell ⟨rb, 0, none⟩ (.slice none 0 0)).setCell ⟨rb, 1, none⟩ (.string ⟨#[]⟩)).setCell ⟨rb, 2, none⟩ (.slice none 0 0)).setCell ⟨rb, 3, none⟩ (.string ⟨#[]⟩)).setCell ⟨rb, 4, none⟩ (.bool false)).setCell ⟨rb, 5, none⟩ (.int .i64 0)) w.heap.size := by
  have h := (blk_set (blk_set (blk_set (blk_set (blk_set (blk_set hz 0 (.slice none 0 0)) 1 (.string ⟨#[]⟩)) 2 (.slice none 0 0)) 3 (.string ⟨#[]⟩)) 4 (.bool false)) 5 (.int .i64 0))
  exact ⟨by simpa using h, (keep_new (keep_new (keep_new (keep_new (keep_new (keep_new hk hb) hb) hb) hb) hb) hb)⟩
theorem Sr.grown_te {B B' : Nat} {W W1 : World} {v u : Value} {xs : List (List UInt8)} {ts : List Tst} (h : Sr B W v xs) (ht : Te B' W u ts) (hG : W.grownBy W1 u.ownBlock) : Sr B W1 v xs := by
  refine World.ownsRow.kept h hG ?_
  rcases h.2 with ⟨rfl, _⟩ | ⟨g, cap, cur, rfl, hb, hh, _⟩
  · exact .inl rfl
  · refine .inr (fun e => ?_)
    rcases ht.2 with ⟨rfl, _⟩ | ⟨g2, cap2, cur2, rfl, hb2, hh2, _⟩
    · cases e
    · have e2 : g = g2 := Option.some.inj e
      subst e2
      rw [hh] at hh2
      cases hh2
def WJ (B : Nat) (w : World) (g rb qb : Nat) (s : List UInt8) (v5 : Value) (cs : List (List UInt8)) (tab : List UInt8) (v7 : Value) (ts : List Tst) (N : Nat) (L0 L1 : List Tk) (b1 : Bool) (d : Bool) (W : World) : Prop :=
  DS B w g rb qb s (if d then L1 else L0) (if d then b1 else false) v5 cs tab v7 ts [] false 0 W ∧ N ≤ W.heap.size
def WR (B g : Nat) (s : List UInt8) (L1 : List Tk) (b1 : Bool) (v7 : Value) (ts : List Tst) (c a : Nat) (i : Nat) (W W' : World) : Prop :=
  if i = c then (RD B W' g s L1 b1 ∧ KB W W' g) else if i = a then (W.grownBy W' v7.ownBlock ∧ (Te B W v7 ts → Te B W' v7 ts)) else Ext W W'
section
variable {B : Nat} {w : World} {g rb qb : Nat} {s : List UInt8} {v5 : Value} {cs : List (List UInt8)} {tab : List UInt8} {v7 : Value} {ts : List Tst} {N : Nat} {L0 L1 : List Tk} {b1 : Bool} {c a i : Nat} {W W' : World}
theorem WR.call (h : RD B W' g s L1 b1 ∧ KB W W' g) : WR B g s L1 b1 v7 ts c a c W W' := by unfold WR; rw [if_pos rfl]; exact h
theorem WR.app (hc : a ≠ c) (h : W.grownBy W' v7.ownBlock ∧ (Te B W v7 ts → Te B W' v7 ts)) : WR B g s L1 b1 v7 ts c a a W W' := by unfold WR; rw [if_neg hc, if_pos rfl]; exact h
theorem WR.ext (hc : i ≠ c) (ha : i ≠ a) (h : Ext W W') : WR B g s L1 b1 v7 ts c a i W W' := by unfold WR; rw [if_neg hc, if_neg ha]; exact h
theorem WR.blk {b : Nat} {o : Obj} (hrow : ∀ k, v7.ownBlock = some k → B ≤ k ∧ k < N) (hg : g < N) (hR : WR B g s L1 b1 v7 ts c a i W W') (hb : N ≤ b) (h : W.heap[b]? = some o) : W'.heap[b]? = some o := by
  unfold WR at hR
  split at hR
  · exact keep_blk hR.2 (by omega) h
  · split at hR
    · rw [hR.1.block b (blk_lt h) (fun e => by have := (hrow b e.symm).2; omega)]; exact h
    · exact heap_below h hR
theorem WR.te {v : Value} {us : List Tst} (hg : g < B) (ha : i ≠ a) (hR : WR B g s L1 b1 v7 ts c a i W W') (h : Te B W v us) : Te B W' v us := by
  unfold WR at hR
  by_cases hi : i = c
  · rw [if_pos hi] at hR; exact h.keep hR.2 hg
  · rw [if_neg hi, if_neg ha] at hR; exact h.ext hR
theorem WJ.step {d : Bool} (D : DL B w g rb qb) (hrow : ∀ k, v7.ownBlock = some k → B ≤ k ∧ k < N) (hd : i = c → d = false) (hJ : WJ B w g rb qb s v5 cs tab v7 ts N L0 L1 b1 d W) (hR : WR B g s L1 b1 v7 ts c a i W W') : WJ B w g rb qb s v5 cs tab v7 ts N L0 L1 b1 (d || i == c) W' := by
  obtain ⟨hS, hN⟩ := hJ
  have d1 := D.d1; have d2 := D.d2; have d3 := D.d3; have d4 := D.d4
  by_cases hi : i = c
  · obtain rfl : d = false := hd hi
    unfold WR at hR
    rw [if_pos hi] at hR
    have e : (false || i == c) = true := by simp [hi]
    rw [e]
    exact ⟨hS.call D hR.1 hR.2, Nat.le_trans hN hR.2.1⟩
  · have e : (d || i == c) = d := by simp [hi]
    rw [e]
    unfold WR at hR
    rw [if_neg hi] at hR
    by_cases hia : i = a
    · rw [if_pos hia] at hR
      have hBe : Below B W W' := ⟨hR.1.os, hR.1.tape, hR.1.output, hR.1.size, fun k hk => hR.1.block k (Nat.lt_of_lt_of_le hk (by have := hS.rd.lt.2; omega)) (fun e2 => by have := (hrow k e2.symm).1; omega)⟩
      exact ⟨⟨hS.rd.below hBe, (hBe.block _ (by omega)).trans hS.zr, (hBe.block _ (by omega)).trans hS.zq, hS.s5.grown_te hS.s7 hR.1, hR.2 hS.s7, kb_then hS.kp (hBe.mono (by omega))⟩, Nat.le_trans hN hR.1.size⟩
    · rw [if_neg hia] at hR
      exact ⟨hS.ext D hR, Nat.le_trans hN hR.size⟩
end
def W2 (cs : List (List UInt8)) (tb : List UInt8) (bad : Bool) (L : List Tk) (ts : List Tst) (n : Nat) : Option Qry × List Tk :=
  if bad = true then (none, L) else if (passL 2 wAnd L).1 = true then (match whL n ts (passL 2 wAnd L).2 with
  | (none, L1) => (none, L1)
  | (some wh, L1) => c3 cs tb wh L1) else c3 cs tb ts L
theorem whL_W2 {cs : List (List UInt8)} {tb : List UInt8} {n : Nat} {acc : List Tst} {L L1 : List Tk} {o : Option Tst} {t : Tst} (h : testL L = (o, L1)) (ht : ∀ t', o = some t' → t = t') :
    (match whL (n + 1) acc L with | (none, L1) => (none, L1) | (some wh, L1) => c3 cs tb wh L1) = W2 cs tb (!o.isSome) L1 (acc ++ [t]) n := by
  rw [whL, h]
  cases o with
  | none => rfl
  | some t' =>
    obtain rfl := ht t' rfl
    unfold W2
    by_cases hp : (passL 2 wAnd L1).1 = true
    · simp only [hp, if_true, Option.isSome_some, Bool.not_true, Bool.false_eq_true, if_false]
    · simp only [hp, Option.isSome_some, Bool.not_true, Bool.false_eq_true, if_false]
theorem W2_first {cs : List (List UInt8)} {tb : List UInt8} {L L5 L6 : List Tk} {o : Option Tst} {t : Tst} (h : passL 2 wWhere L = (true, L5)) (h2 : testD 0 false L5 = (o, L6)) (ht : ∀ t', o = some t' → t = t') : R2 cs tb false L = W2 cs tb (!o.isSome) L6 [t] 7 := by
  unfold R2 c2
  rw [if_neg Bool.false_ne_true, h, if_pos rfl]
  have h3 : testL L5 = (o, L6) := h2
  exact whL_W2 (n := 7) (acc := []) h3 ht
theorem W2_step {cs : List (List UInt8)} {tb : List UInt8} {L L1 L2 : List Tk} {o : Option Tst} {t : Tst} {ts : List Tst} {k : Nat} (h : passL 2 wAnd L = (true, L1)) (hk : ts.length + k = 8) (h2 : testD ts.length false L1 = (o, L2)) (ht : ∀ t', o = some t' → t = t') : W2 cs tb false L ts k = W2 cs tb (!o.isSome) L2 (ts ++ [t]) (k - 1) := by
  have e : W2 cs tb false L ts k = (match whL k ts L1 with | (none, L1) => (none, L1) | (some wh, L1) => c3 cs tb wh L1) := by
    conv => lhs; unfold W2
    rw [if_neg Bool.false_ne_true, h, if_pos rfl]
  rw [e]
  unfold testD at h2
  rw [if_neg Bool.false_ne_true] at h2
  cases k with
  | zero =>
    rw [if_pos (by omega)] at h2
    obtain ⟨rfl, rfl⟩ := Prod.mk.inj h2
    rfl
  | succ k =>
    rw [if_neg (by omega)] at h2
    exact whL_W2 h2 ht
theorem goodR_call {Ri : World → World → Prop} {P : Program} {o : Oper} {a : Act} {w : World} {Gi : World → Value → Prop} {f : FuncId} {args : Array Operand} {argTypes : Array TypeId} (ho : o.op = .call ⟨.value (.func f), args, argTypes⟩) (vs : Array Value) (hvs : args.map a.eval = vs) (fn : Func) (hf : P.funcs[f]? = some fn)
    (hn : (fn.name == "runtime.NumGoroutine") = false) (hb : fn.body.isNone = false) (hc : Calls P f vs w (fun e w' => ∃ v, e = .returned v ∧ Ri w w' ∧ Gi w' v)) : GoodR Ri P o a w Gi := by
  refine Or.inr ⟨f, vs, ?_, hc⟩
  have hn' : ¬ fn.name = "runtime.NumGoroutine" := by simpa using hn
  have hb' : ¬ fn.body = none := fun e => by rw [e] at hb; cases hb
  unfold execOp
  rw [ho]
  simp [resolve, Deferred.ofValue, invoke, callFunc, hvs, hf, hn', hb', go_sem]
set_option maxRecDepth 100000 in
set_option maxHeartbeats 3200000 in
theorem rparse_calls (s : List UInt8) (w : World) (hG : Glob2 w) (hs : s.length ≤ 1000000000000) :
    Calls Tryz.prog 8 #[.string (strB s)] w (DPa w (parseQ s)) := by
  have hsz := strB_size s
  by_cases hl : s.length ≤ 1024
  · have hd : decide ((1024 : Int) < (s.length : Int)) = false := decide_eq_false (by omega)
    have hd2 : ¬ ((1024 : Int) < (s.length : Int)) := by omega
    go_enter Tryz.func8, Tryz.ntmps8
    go_upto_region 4 with fail
    obtain ⟨wq, hwq⟩ : ∃ W, W = (w.alloc (.cells #[.slice none 0 0, .string ⟨#[]⟩, .slice none 0 0, .string ⟨#[]⟩, .bool false, .int .i64 0] 31)).alloc (.cells #[.slice none 0 0, .string ⟨#[]⟩, .slice none 0 0, .string ⟨#[]⟩, .bool false, .int .i64 0] 31) := ⟨_, rfl⟩
    rw [← hwq]
    go_upto_region 5 with (go_at_call 19; refine (tokens_d s hs _).mono ?_; rintro e w3 ⟨v, rfl, hB, tb, o, c, rfl, hc, hge, hlt, hty, hx⟩)
    rw [← hwq] at hB hge
    have hzr : wq.heap[w.heap.size]? = some (.cells #[.slice none 0 0, .string ⟨#[]⟩, .slice none 0 0, .string ⟨#[]⟩, .bool false, .int .i64 0] 31 (0, 0)) := by rw [hwq]; exact (Array.getElem?_push_lt (by simp)).trans (by simpa using heap_alloc_new w _)
    have hzq : wq.heap[w.heap.size + 1]? = some (.cells #[.slice none 0 0, .string ⟨#[]⟩, .slice none 0 0, .string ⟨#[]⟩, .bool false, .int .i64 0] 31 (0, 0)) := by rw [hwq]; have := heap_alloc_new (w.alloc (.cells #[.slice none 0 0, .string ⟨#[]⟩, .slice none 0 0, .string ⟨#[]⟩, .bool false, .int .i64 0] 31)) (.cells #[.slice none 0 0, .string ⟨#[]⟩, .slice none 0 0, .string ⟨#[]⟩, .bool false, .int .i64 0] 31); simpa using this
    have hq2 : wq.heap.size = w.heap.size + 2 := by rw [hwq]; simp
    have hEq : Ext w wq := by rw [hwq]; exact ((Ext.refl w).alloc _).alloc _
    have hE3 : Ext w3 (w3.alloc (.cells #[.slice (some ⟨tb, o, none⟩) (toks s 0).length c, .bool false] 65)) := (Ext.refl w3).alloc _
    have D : DL (w3.heap.size + 1) w w3.heap.size w.heap.size (w.heap.size + 1) := ⟨Nat.le_refl _, by omega, by have := hB.size; omega, by omega⟩
    have S0 : DS (w3.heap.size + 1) w w3.heap.size w.heap.size (w.heap.size + 1) s (toks s 0) false (.slice none 0 0) [] [] (.slice none 0 0) [] [] false 0 (w3.alloc (.cells #[.slice (some ⟨tb, o, none⟩) (toks s 0).length c, .bool false] 65)) :=
      ⟨RD.start hc hlt hty hx, heap_below (heap_below hzr hB) hE3, heap_below (heap_below hzq hB) hE3, World.ownsRow_nil _ _ _ _, World.ownsRow_nil _ _ _ _, kb_then (kb_then (kb_then (keep_refl _ _) hEq) (Below.mono hB (by omega))) (Below.mono hE3 (by have := hB.size; omega))⟩
    obtain ⟨wg, hwg⟩ : ∃ W, W = w3.alloc (.cells #[.slice (some ⟨tb, o, none⟩) (toks s 0).length c, .bool false] 65) := ⟨_, rfl⟩
    rw [← hwg] at S0 ⊢
    obtain ⟨g, hg⟩ : ∃ n, n = w3.heap.size := ⟨_, rfl⟩
    rw [← hg] at S0 D ⊢
    obtain ⟨qb, hqb⟩ : ∃ n, n = w.heap.size + 1 := ⟨_, rfl⟩
    rw [← hqb] at S0 D ⊢
    have hqb2 : wq.heap.size = qb + 1 := by omega
    obtain ⟨B, hB2⟩ : ∃ n, n = g + 1 := ⟨_, rfl⟩
    rw [← hB2] at S0 D
    have HS0 := Aside0.mk S0
    have HD := Aside0.mk D
    have HGG := Aside0.mk hG
    have HEQ := Aside0.mk (And.intro hg (And.intro hqb hB2))
    clear hzr hzq hE3 S0 D hG hwg hx hty hge hc hB hEq hlt hq2 hqb2 hg hqb hB2
    rcases h1 : isD false 2 wSelect (toks s 0) with ⟨b1, L1⟩
    rcases h2 : colsD (false || !b1) L1 with ⟨o2, L2⟩
    rcases h3 : isD (!o2.isSome) 2 wFrom L2 with ⟨b3, L3⟩
    rcases h4 : nameD (!o2.isSome || !b3) L3 with ⟨tab, bd4, L4⟩
    have H1 := Aside0.mk h1
    have H2 := Aside0.mk h2
    have H3 := Aside0.mk h3
    have H4 := Aside0.mk h4
    clear h1 h2 h3 h4
    have hc1 : Calls Tryz.prog 20 #[.pointer (some ⟨g, 0, none⟩), .int .i64 1, .string ⟨#[115, 101, 108, 101, 99, 116]⟩] wg fun e w' => e = .returned (.tuple #[]) ∧ RD B w' g s L1 (false || !b1) ∧ KB wg w' g := by
      have := must_d HS0.out.rd 2 (by omega) (by omega) wSelect
      rw [H1.out] at this
      exact this
    go_upto_region 9 with (first
      | (go_at_call 20; (with_reducible refine hc1.mono ?_); rintro e w4 ⟨rfl, hR, hK⟩; have HS1 := Aside0.mk (HS0.out.call HD.out hR hK); have hc2 := columns_d HS1.out.rd hs; rw [H2.out] at hc2; clear hR hK)
      | (go_at_call 21; (with_reducible refine hc2.mono ?_); rintro e w5 ⟨v5, cs, rfl, hR, hS, hcs, hK⟩; obtain ⟨A5, p5, rfl, hp5⟩ := own_form hS; have HS2 := Aside0.mk (HS1.out.call HD.out hR hK); have HCS := Aside0.mk hcs; have HV5 := Aside0.mk (own_less hS HS1.out.rd.lt.2); have q0 := HS2.out.cells.1.1; have f0 := HS2.out.cells.2 0; have HS3 := Aside0.mk (HS2.out.set0 HD.out HV5.out); have hc3 : Calls Tryz.prog 20 #[.pointer (some ⟨g, 0, none⟩), .int .i64 1, .string ⟨#[102, 114, 111, 109]⟩] (w5.setCell ⟨qb, 0, none⟩ (.slice A5 cs.length p5)) (fun e w' => e = .returned (.tuple #[]) ∧ RD B w' g s L3 (!o2.isSome || !b3) ∧ KB (w5.setCell ⟨qb, 0, none⟩ (.slice A5 cs.length p5)) w' g) := (by have := must_d HS3.out.rd 2 (by omega) (by omega) wFrom; rw [H3.out] at this; exact this); clear hR hK hS hcs hc2 hp5)
      | (go_at_call 20; (with_reducible refine hc3.mono ?_); rintro e w6 ⟨rfl, hR, hK⟩; have HS4 := Aside0.mk (HS3.out.call HD.out hR hK); have hc4 := name_d HS4.out.rd hs; rw [H4.out] at hc4; clear hR hK hc3 q0 f0)
      | (go_at_call 22; (with_reducible refine hc4.mono ?_); rintro e w7 ⟨rfl, hR, hK⟩; have HS5 := Aside0.mk (HS4.out.call HD.out hR hK); have q1 := HS5.out.cells.1.2.1; have f1 := HS5.out.cells.2 1; have HS6 := Aside0.mk (HS5.out.set1 HD.out tab); clear hR hK hc4))
    have hF : parseL (toks s 0) = R2 cs tab bd4 L4 := (R1_of H1.out H2.out HCS.out).trans (R2_of H3.out H4.out)
    have HF := Aside0.mk hF
    obtain ⟨v5, hv5⟩ : ∃ v, v = Value.slice A5 cs.length p5 := ⟨_, rfl⟩
    rw [← hv5] at HS6 ⊢
    clear hF q1 f1 hc1 hv5 HS0 HS1 HS2 HS3 HS4 HS5 HCS HV5 H1 H2 H3 H4
    generalize (w7.setCell ⟨qb, 1, none⟩ (.string (strB tab))) = wx at HS6 ⊢
    rcases h5 : isD bd4 2 wWhere L4 with ⟨b5, L5⟩
    have hc5 : Calls Tryz.prog 23 #[.pointer (some ⟨g, 0, none⟩), .int .i64 1, .string ⟨#[119, 104, 101, 114, 101]⟩] wx fun e w' => e = .returned (.bool b5) ∧ RD B w' g s L5 bd4 ∧ KB wx w' g := by
      have := is_d HS6.out.rd 2 (by omega) (by omega) wWhere
      rw [h5] at this
      exact this
    have H5 := Aside0.mk h5
    clear h5
    go_upto_if 28 with (go_at_call 23; (with_reducible refine hc5.mono ?_); rintro e w8 ⟨rfl, hR, hK⟩; have HS7 := Aside0.mk (HS6.out.call HD.out hR hK); clear hR hK)
    go_cut [6] from 27 to 47 (fun (s6 : Value) wy => s6 = .pointer (some ⟨g, 0, none⟩) ∧ ∃ L bad v7 ts, DS B w g w.heap.size qb s L bad v5 cs tab v7 ts [] false 0 wy ∧ parseL (toks s 0) = R3 cs tab ts bad L)
    case first =>
      cases b5 with
      | false =>
        go_wp2_with fail
        go_meet
        case rel =>
          refine ⟨rfl, L5, bd4, _, _, HS7.out, ?_⟩
          have e := H5.out
          have e2 := isD_rest e
          subst e2
          rw [HF.out]
          unfold R2 R3
          cases bd4 with
          | true => rfl
          | false => rw [isD_false] at e; rw [if_neg Bool.false_ne_true, if_neg Bool.false_ne_true]; unfold c2; rw [e, if_neg Bool.false_ne_true]
      | true =>
        obtain ⟨rfl, hp5⟩ := isD_got H5.out
        rcases ht6 : testD 0 false L5 with ⟨OO, LL⟩
        have HP5 := Aside0.mk hp5
        have HT6 := Aside0.mk ht6
        clear hp5 ht6
        go_upto_region 10 with fail
        obtain ⟨TS, hTS⟩ : ∃ l : List Tst, l = [] := ⟨_, rfl⟩
        obtain ⟨NN, hNN⟩ : ∃ n, n = w8.heap.size := ⟨_, rfl⟩
        obtain ⟨VN, hVN⟩ : ∃ v, v = Value.slice none 0 0 := ⟨_, rfl⟩
        have HJ0 : Aside0 (WJ B w g w.heap.size qb s v5 cs tab VN TS NN L5 LL (!OO.isSome) false w8.drew) := ⟨⟨by rw [hTS, hVN]; exact HS7.out.ext HD.out (Ext.to_drew _), by rw [hNN]; exact Nat.le_refl _⟩⟩
        have HROW : Aside0 (∀ k, VN.ownBlock = some k → B ≤ k ∧ k < NN) := ⟨fun k hk => by rw [hVN] at hk; cases hk⟩
        have HGN : Aside0 (g < NN) := ⟨by rw [hNN]; have := HD.out.d4; have := HS7.out.rd.lt.2; omega⟩
        have HBN : Aside0 (B ≤ NN) := ⟨by rw [hNN]; exact HS7.out.rd.lt.2⟩
        have HLN : TS.length ≤ 9 := by rw [hTS]; simp
        have HCT : Aside0 (∀ W, WJ B w g w.heap.size qb s v5 cs tab VN TS NN L5 LL (!OO.isSome) false W → Calls Tryz.prog 24 #[.pointer (some ⟨g, 0, none⟩), .int .i64 0] W (TeP B W g s (OO, LL))) := ⟨fun W hW => by
          have := test_d hW.1.rd 0 (by omega) hs
          simp only [Bool.false_eq_true, if_false] at this
          rw [HT6.out] at this
          exact this⟩
        have HTS := Aside0.mk hTS
        clear hTS hNN hVN
        refine exs_tail 3 (WJ B w g w.heap.size qb s v5 cs tab VN TS NN L5 LL (!OO.isSome)) (WR B g s LL (!OO.isSome) VN TS 3 5) 8 [(0, 29), (1, 30), (2, 31), (3, 32), (4, 33), (5, 34), (6, 35)] [0, 1, 2, 3, 4, 5, 6] (fun i w v => match i with | 0 => v = .pointer (some ⟨qb, 2, none⟩) | 1 => v = VN | 2 => v = .pointer (some ⟨g, 0, none⟩) | 3 => ∃ t, v = tval t ∧ ∀ t', OO = some t' → t = t' | 4 => ∃ b t, v = .slice (some ⟨b, 0, none⟩) 1 1 ∧ w.heap[b]? = some (.cells #[.string (strB t.col), .int .i64 t.op, .string (strB t.val)] 70 (0, 0)) ∧ NN ≤ b ∧ ∀ t', OO = some t' → t = t' | 5 => ∃ t, Te B w v (TS ++ [t]) ∧ ∀ t', OO = some t' → t = t' | 6 => v = .pointer (some ⟨qb, 2, none⟩) | _ => True) (by kernel_rfl) (by kernel_rfl) (by rfl) rfl (by decide) ?j10 ?rj10 ?mono10 ?steps10 ?fin10
        case j10 => exact HJ0.out
        case rj10 =>
          intro i d W W' hd hJ hR
          exact WJ.step HD.out HROW.out hd hJ hR
        case mono10 =>
          intro i j w w' v hne h hR
          match j with
          | 0 => exact h
          | 1 => exact h
          | 2 => exact h
          | 3 => exact h
          | 4 => exact (by obtain ⟨b, t, h1, h2, h3, h4⟩ := h; exact ⟨b, t, h1, WR.blk HROW.out HGN.out hR h3 h2, h3, h4⟩)
          | 5 => exact (by obtain ⟨t, h1, h2⟩ := h; exact ⟨t, WR.te HD.out.d4 hne.symm hR h1, h2⟩)
          | 6 => exact h
          | _ + 7 => trivial
        case steps10 =>
          refine stepS_cons ⟨_, rfl, fun a w dd hdd hE hH => ?_⟩ ?_
          ·
            have e5 : a.tmps[5]? = some (.pointer (some ⟨qb, 0, none⟩)) := hH.old 5 rfl
            exact ⟨rfl, goodJ_of (by funext W W'; simp [WR]) (goodE_val (.pointer (some ⟨qb, 2, none⟩)) (by simp [execOp, Act.eval, e5, go_sem]) rfl)⟩
          refine stepS_cons ⟨_, rfl, fun a w dd hdd hE hH => ?_⟩ ?_
          ·
            obtain ⟨v29, e29, g29⟩ := hH.dep 0 29 rfl (by kernel_rfl)
            have q29 : v29 = .pointer (some ⟨qb, 2, none⟩) := g29
            subst q29
            have hc : w.cell? ⟨qb, 2, none⟩ = some VN := blk_cell hE.1.zq 2
            exact ⟨(rfl), goodJ_of (by funext W W'; simp [WR]) (goodE_val VN (by simp [execOp, Act.eval, e29, hc, go_sem]) rfl)⟩
          refine stepS_cons ⟨_, rfl, fun a w dd hdd hE hH => ?_⟩ ?_
          ·
            have e6 : a.tmps[6]? = some (.pointer (some ⟨g, 0, none⟩)) := hH.old 6 rfl
            exact ⟨rfl, goodJ_of (by funext W W'; simp [WR]) (goodE_move _ rfl (eval_of e6) rfl)⟩
          refine stepS_cons ⟨_, rfl, fun a w dd hdd hE hH => ?_⟩ ?_
          ·
            obtain ⟨v31, e31, g31⟩ := hH.dep 2 31 rfl (by kernel_rfl)
            have q31 : v31 = .pointer (some ⟨g, 0, none⟩) := g31
            subst q31
            have hd := hdd rfl
            subst hd
            exact ⟨(rfl), goodR_call rfl #[.pointer (some ⟨g, 0, none⟩), .int .i64 0] (by simp [Act.eval, e31]) _ Tryz.func24 (by kernel_rfl) (by kernel_rfl) ((HCT.out w hE).mono (fun e w' h => by obtain ⟨t, h1, h2, h3, h4⟩ := h; exact ⟨_, h1, WR.call ⟨h2, h4⟩, t, rfl, h3⟩))⟩
          refine stepS_cons ⟨_, rfl, fun a w dd hdd hE hH => ?_⟩ ?_
          ·
            obtain ⟨v32, e32, g32⟩ := hH.dep 3 32 rfl (by kernel_rfl)
            obtain ⟨t, rfl, ht⟩ := g32
            exact ⟨(rfl), goodJ_new (.slice (some ⟨w.heap.size, 0, none⟩) 1 1) (w.alloc (.cells #[.string (strB t.col), .int .i64 t.op, .string (strB t.val)] 70)) (by simp [execOp, Act.eval, e32, tval, go_sem]) (WR.ext (by decide) (by decide) ((Ext.refl w).alloc _)) ⟨w.heap.size, t, rfl, heap_alloc_new _ _, hE.2, ht⟩⟩
          refine stepS_cons ⟨_, rfl, fun a w dd hdd hE hH => ?_⟩ ?_
          ·
            obtain ⟨v30, e30, g30⟩ := hH.dep 1 30 rfl (by kernel_rfl)
            have q30 : v30 = VN := g30
            subst q30
            obtain ⟨v33, e33, g33⟩ := hH.dep 4 33 rfl (by kernel_rfl)
            obtain ⟨b, t, rfl, hb, hNb, ht⟩ := g33
            obtain ⟨v1, w1, hr, hT1, hG1, hT0⟩ := te_run_app (c := 1) (t := t) 29 hE.1.s7 hb (Nat.le_trans HBN.out hE.2) (by omega)
            exact ⟨(rfl), goodJ_new v1 w1 (exec_append (s := .tmp 30) (x := .tmp 33) rfl (by simpa [Act.eval, e30, e33] using hr)) (WR.app (by decide) ⟨hG1, fun _ => hT0⟩) ⟨t, hT1, ht⟩⟩
          refine stepS_cons ⟨_, rfl, fun a w dd hdd hE hH => ?_⟩ ?_
          ·
            have e5 : a.tmps[5]? = some (.pointer (some ⟨qb, 0, none⟩)) := hH.old 5 rfl
            exact ⟨rfl, goodJ_of (by funext W W'; simp [WR]) (goodE_val (.pointer (some ⟨qb, 2, none⟩)) (by simp [execOp, Act.eval, e5, go_sem]) rfl)⟩
          exact stepS_nil
        refine ⟨⟨none, .store 29 (.tmp 35) (.tmp 34), _, _, _, none⟩, rfl, ?_⟩
        rintro vals wz hE hV
        have k34 : ∃ t, Te B wz (vals 5) (TS ++ [t]) ∧ ∀ t', OO = some t' → t = t' := hV 5 (by simp) rfl
        have k35 : vals 6 = .pointer (some ⟨qb, 2, none⟩) := hV 6 (by simp) rfl
        refine ⟨rfl, ?_⟩
        intro KK hKK
        simp only [List.map_cons, List.map_nil, putAll, Act.put, List.setIfInBounds_toArray, List.set_cons_zero, List.set_cons_succ, k35]
        obtain ⟨t, hT9, ht9⟩ := k34
        obtain ⟨A9, cp9, ev9, hcp9⟩ := own_form hT9
        rw [show (TS ++ [t]).length = TS.length + 1 by simp] at ev9
        rw [ev9] at hT9
        rw [ev9]
        have q2 := (hE.1.cells).1.2.2.1
        have f2 := (hE.1.cells).2 2
        refine finE_skip (w1 := wz.setCell ⟨qb, 2, none⟩ (.slice A9 (TS.length + 1) cp9)) (by simp [execOp, Act.eval, q2, f2, go_sem]) (hKK _ _ ?_)
        have hE1 : DS B w g w.heap.size qb s LL (!OO.isSome) v5 cs tab VN TS [] false 0 wz := hE.1
        have hS9 := hE1.set2 HD.out hT9
        generalize (wz.setCell ⟨qb, 2, none⟩ (.slice A9 (TS.length + 1) cp9)) = w9 at hS9 ⊢
        have HS9 := Aside0.mk hS9
        have hW9 : parseL (toks s 0) = W2 cs tab (!OO.isSome) LL [t] 7 := by rw [HF.out]; exact W2_first HP5.out HT6.out ht9
        have HW9 := Aside0.mk hW9
        obtain rfl : TS = [] := HTS.out
        clear hE1 hE hV hT9 ht9 ev9 q2 f2 hKK hS9 hW9 k35 HLN
        obtain ⟨T9, hT9⟩ : ∃ l : List Tst, l = [t] := ⟨_, rfl⟩
        have hS9' : DS B w g w.heap.size qb s LL (!OO.isSome) v5 cs tab (.slice A9 1 cp9) T9 [] false 0 w9 := by rw [hT9]; exact HS9.out
        have HS9 := Aside0.mk hS9'
        have HW9 := Aside0.mk (show parseL (toks s 0) = W2 cs tab (!OO.isSome) LL T9 7 by rw [hT9]; exact HW9.out)
        have HT9 := Aside0.mk (show T9.length = 1 by rw [hT9]; rfl)
        obtain ⟨bx, hbx⟩ : ∃ b, b = !OO.isSome := ⟨_, rfl⟩
        rw [← hbx] at HS9 HW9
        clear hS9' hT9 HT6 HP5 HTS hbx HF H5 hc5
        go_wp2_with fail
        simp only [Act.put, List.length_nil, Nat.zero_add]
        go_loopg [] 8 (fun kq wr => ∃ L bad v7 ts, ts.length + kq = 9 ∧ (bad = false → ts.length ≤ 8) ∧ DS B w g w.heap.size qb s L bad v5 cs tab v7 ts [] false 0 wr ∧ parseL (toks s 0) = W2 cs tab bad L ts (8 - ts.length))
        case atStart => exact ⟨LL, bx, _, T9, by rw [HT9.out], fun _ => by rw [HT9.out]; omega, HS9.out, by rw [HT9.out]; exact HW9.out⟩
        case round =>
        clear HS9 HW9 HT9
        obtain ⟨wo, hwo⟩ : ∃ wo : World, wo = wr := ⟨_, rfl⟩
        subst hwo
        obtain ⟨L, bad, v7, ts, hn, hb8, hS, hw⟩ := hrel
        have HS := Aside0.mk hS
        have HW := Aside0.mk hw
        have HB8 := Aside0.mk hb8
        clear hS hw hb8
        rcases h6 : isD bad 2 wAnd L with ⟨b6, L6⟩
        have hc6 : Calls Tryz.prog 23 #[.pointer (some ⟨g, 0, none⟩), .int .i64 1, .string ⟨#[97, 110, 100]⟩] wo fun e w' => e = .returned (.bool b6) ∧ RD B w' g s L6 bad ∧ KB wo w' g := by
          have := is_d HS.out.rd 2 (by omega) (by omega) wAnd
          rw [h6] at this
          exact this
        have H6 := Aside0.mk h6
        clear h6
        cases b6 with
        | false =>
          go_wp2_with (go_at_call 23; (with_reducible refine hc6.mono ?_); rintro e wy ⟨rfl, hR, hK⟩; have HS7 := Aside0.mk (HS.out.call HD.out hR hK); clear hR hK)
          go_meet
          case rel =>
            refine ⟨rfl, L6, bad, v7, ts, HS7.out, ?_⟩
            have e := H6.out
            have e2 := isD_rest e
            subst e2
            rw [HW.out]
            unfold W2 R3
            cases bad with
            | true => rfl
            | false => rw [isD_false] at e; rw [if_neg Bool.false_ne_true, if_neg Bool.false_ne_true, e, if_neg Bool.false_ne_true]
        | true =>
          obtain ⟨rfl, hp6⟩ := isD_got H6.out
          have h8 := HB8.out rfl
          cases gk with
          | zero => omega
          | succ kk =>
            rcases ht7 : testD ts.length false L6 with ⟨OO, LL⟩
            have HP6 := Aside0.mk hp6
            have HT7 := Aside0.mk ht7
            clear hp6 ht7
            go_upto_region 12 with (go_at_call 23; (with_reducible refine hc6.mono ?_); rintro e wy ⟨rfl, hR, hK⟩; have HS7 := Aside0.mk (HS.out.call HD.out hR hK); clear hR hK)
            clear hc6
            obtain ⟨TS, hTS⟩ : ∃ l : List Tst, l = ts := ⟨_, rfl⟩
            obtain ⟨NN, hNN⟩ : ∃ n, n = wy.heap.size := ⟨_, rfl⟩
            obtain ⟨VN, hVN⟩ : ∃ v, v = v7 := ⟨_, rfl⟩
            rw [← hTS, ← hVN] at HS7
            rw [← hTS] at HT7
            have HJ0 : Aside0 (WJ B w g w.heap.size qb s v5 cs tab VN TS NN L6 LL (!OO.isSome) false wy.drew) := ⟨⟨HS7.out.ext HD.out (Ext.to_drew _), by rw [hNN]; exact Nat.le_refl _⟩⟩
            have HROW : Aside0 (∀ k, VN.ownBlock = some k → B ≤ k ∧ k < NN) := ⟨fun k hk => by rw [hNN]; exact own_lt HS7.out.s7 k hk⟩
            have HGN : Aside0 (g < NN) := ⟨by rw [hNN]; have := HD.out.d4; have := HS7.out.rd.lt.2; omega⟩
            have HBN : Aside0 (B ≤ NN) := ⟨by rw [hNN]; exact HS7.out.rd.lt.2⟩
            have HLN : TS.length ≤ 9 := by rw [hTS]; omega
            have HV7 : Aside0 (∃ A c, VN = .slice A TS.length c) := ⟨by obtain ⟨A, c, e, _⟩ := own_form HS7.out.s7; exact ⟨A, c, e⟩⟩
            have HCT : Aside0 (∀ W, WJ B w g w.heap.size qb s v5 cs tab VN TS NN L6 LL (!OO.isSome) false W → Calls Tryz.prog 24 #[.pointer (some ⟨g, 0, none⟩), .int .i64 (TS.length : Nat)] W (TeP B W g s (OO, LL))) := ⟨fun W hW => by
              have := test_d hW.1.rd TS.length (by rw [hTS]; omega) hs
              simp only [Bool.false_eq_true, if_false] at this
              rw [HT7.out] at this
              exact this⟩
            have HTS := Aside0.mk hTS
            clear hTS hNN hVN
            refine exs_tail 6 (WJ B w g w.heap.size qb s v5 cs tab VN TS NN L6 LL (!OO.isSome)) (WR B g s LL (!OO.isSome) VN TS 6 8) 11 [(0, 38), (1, 39), (2, 40), (3, 41), (4, 42), (5, 43), (6, 44), (7, 45), (8, 46), (9, 47)] [0, 1, 2, 3, 4, 5, 6, 7, 8, 9] (fun i w v => match i with | 0 => v = .pointer (some ⟨qb, 2, none⟩) | 1 => v = VN | 2 => v = .pointer (some ⟨g, 0, none⟩) | 3 => v = .pointer (some ⟨qb, 2, none⟩) | 4 => v = VN | 5 => v = .int .i64 (TS.length : Nat) | 6 => ∃ t, v = tval t ∧ ∀ t', OO = some t' → t = t' | 7 => ∃ b t, v = .slice (some ⟨b, 0, none⟩) 1 1 ∧ w.heap[b]? = some (.cells #[.string (strB t.col), .int .i64 t.op, .string (strB t.val)] 70 (0, 0)) ∧ NN ≤ b ∧ ∀ t', OO = some t' → t = t' | 8 => ∃ t, Te B w v (TS ++ [t]) ∧ ∀ t', OO = some t' → t = t' | 9 => v = .pointer (some ⟨qb, 2, none⟩) | _ => True) (by kernel_rfl) (by kernel_rfl) (by rfl) rfl (by decide) ?j12 ?rj12 ?mono12 ?steps12 ?fin12
            case j12 => exact HJ0.out
            case rj12 =>
              intro i d W W' hd hJ hR
              exact WJ.step HD.out HROW.out hd hJ hR
            case mono12 =>
              intro i j w w' v hne h hR
              match j with
              | 0 => exact h
              | 1 => exact h
              | 2 => exact h
              | 3 => exact h
              | 4 => exact h
              | 5 => exact h
              | 6 => exact h
              | 7 => exact (by obtain ⟨b, t, h1, h2, h3, h4⟩ := h; exact ⟨b, t, h1, WR.blk HROW.out HGN.out hR h3 h2, h3, h4⟩)
              | 8 => exact (by obtain ⟨t, h1, h2⟩ := h; exact ⟨t, WR.te HD.out.d4 hne.symm hR h1, h2⟩)
              | 9 => exact h
              | _ + 10 => trivial
            case steps12 =>
              refine stepS_cons ⟨_, rfl, fun a w dd hdd hE hH => ?_⟩ ?_
              ·
                have e5 : a.tmps[5]? = some (.pointer (some ⟨qb, 0, none⟩)) := hH.old 5 rfl
                exact ⟨rfl, goodJ_of (by funext W W'; simp [WR]) (goodE_val (.pointer (some ⟨qb, 2, none⟩)) (by simp [execOp, Act.eval, e5, go_sem]) rfl)⟩
              refine stepS_cons ⟨_, rfl, fun a w dd hdd hE hH => ?_⟩ ?_
              ·
                obtain ⟨v38, e38, g38⟩ := hH.dep 0 38 rfl (by kernel_rfl)
                have q38 : v38 = .pointer (some ⟨qb, 2, none⟩) := g38
                subst q38
                have hc : w.cell? ⟨qb, 2, none⟩ = some VN := blk_cell hE.1.zq 2
                exact ⟨(rfl), goodJ_of (by funext W W'; simp [WR]) (goodE_val VN (by simp [execOp, Act.eval, e38, hc, go_sem]) rfl)⟩
              refine stepS_cons ⟨_, rfl, fun a w dd hdd hE hH => ?_⟩ ?_
              ·
                have e6 : a.tmps[6]? = some (.pointer (some ⟨g, 0, none⟩)) := hH.old 6 rfl
                exact ⟨rfl, goodJ_of (by funext W W'; simp [WR]) (goodE_move _ rfl (eval_of e6) rfl)⟩
              refine stepS_cons ⟨_, rfl, fun a w dd hdd hE hH => ?_⟩ ?_
              ·
                have e5 : a.tmps[5]? = some (.pointer (some ⟨qb, 0, none⟩)) := hH.old 5 rfl
                exact ⟨rfl, goodJ_of (by funext W W'; simp [WR]) (goodE_val (.pointer (some ⟨qb, 2, none⟩)) (by simp [execOp, Act.eval, e5, go_sem]) rfl)⟩
              refine stepS_cons ⟨_, rfl, fun a w dd hdd hE hH => ?_⟩ ?_
              ·
                obtain ⟨v41, e41, g41⟩ := hH.dep 3 41 rfl (by kernel_rfl)
                have q41 : v41 = .pointer (some ⟨qb, 2, none⟩) := g41
                subst q41
                have hc : w.cell? ⟨qb, 2, none⟩ = some VN := blk_cell hE.1.zq 2
                exact ⟨(rfl), goodJ_of (by funext W W'; simp [WR]) (goodE_val VN (by simp [execOp, Act.eval, e41, hc, go_sem]) rfl)⟩
              refine stepS_cons ⟨_, rfl, fun a w dd hdd hE hH => ?_⟩ ?_
              ·
                obtain ⟨v42, e42, g42⟩ := hH.dep 4 42 rfl (by kernel_rfl)
                have q42 : v42 = VN := g42
                subst q42
                exact ⟨(rfl), goodJ_of (by funext W W'; simp [WR]) (goodE_val (.int .i64 (TS.length : Nat)) (by obtain ⟨A, c, ev⟩ := HV7.out; rw [ev] at e42; simp [execOp, Act.eval, e42, go_sem]) rfl)⟩
              refine stepS_cons ⟨_, rfl, fun a w dd hdd hE hH => ?_⟩ ?_
              ·
                obtain ⟨v40, e40, g40⟩ := hH.dep 2 40 rfl (by kernel_rfl)
                have q40 : v40 = .pointer (some ⟨g, 0, none⟩) := g40
                subst q40
                obtain ⟨v43, e43, g43⟩ := hH.dep 5 43 rfl (by kernel_rfl)
                have q43 : v43 = .int .i64 (TS.length : Nat) := g43
                subst q43
                have hd := hdd rfl
                subst hd
                exact ⟨(rfl), goodR_call rfl #[.pointer (some ⟨g, 0, none⟩), .int .i64 (TS.length : Nat)] (by simp [Act.eval, e40, e43]) _ Tryz.func24 (by kernel_rfl) (by kernel_rfl) ((HCT.out w hE).mono (fun e w' h => by obtain ⟨t, h1, h2, h3, h4⟩ := h; exact ⟨_, h1, WR.call ⟨h2, h4⟩, t, rfl, h3⟩))⟩
              refine stepS_cons ⟨_, rfl, fun a w dd hdd hE hH => ?_⟩ ?_
              ·
                obtain ⟨v44, e44, g44⟩ := hH.dep 6 44 rfl (by kernel_rfl)
                obtain ⟨t, rfl, ht⟩ := g44
                exact ⟨(rfl), goodJ_new (.slice (some ⟨w.heap.size, 0, none⟩) 1 1) (w.alloc (.cells #[.string (strB t.col), .int .i64 t.op, .string (strB t.val)] 70)) (by simp [execOp, Act.eval, e44, tval, go_sem]) (WR.ext (by decide) (by decide) ((Ext.refl w).alloc _)) ⟨w.heap.size, t, rfl, heap_alloc_new _ _, hE.2, ht⟩⟩
              refine stepS_cons ⟨_, rfl, fun a w dd hdd hE hH => ?_⟩ ?_
              ·
                obtain ⟨v39, e39, g39⟩ := hH.dep 1 39 rfl (by kernel_rfl)
                have q39 : v39 = VN := g39
                subst q39
                obtain ⟨v45, e45, g45⟩ := hH.dep 7 45 rfl (by kernel_rfl)
                obtain ⟨b, t, rfl, hb, hNb, ht⟩ := g45
                obtain ⟨v1, w1, hr, hT1, hG1, hT0⟩ := te_run_app (c := 1) (t := t) 29 hE.1.s7 hb (Nat.le_trans HBN.out hE.2) (by omega)
                exact ⟨(rfl), goodJ_new v1 w1 (exec_append (s := .tmp 39) (x := .tmp 45) rfl (by simpa [Act.eval, e39, e45] using hr)) (WR.app (by decide) ⟨hG1, fun _ => hT0⟩) ⟨t, hT1, ht⟩⟩
              refine stepS_cons ⟨_, rfl, fun a w dd hdd hE hH => ?_⟩ ?_
              ·
                have e5 : a.tmps[5]? = some (.pointer (some ⟨qb, 0, none⟩)) := hH.old 5 rfl
                exact ⟨rfl, goodJ_of (by funext W W'; simp [WR]) (goodE_val (.pointer (some ⟨qb, 2, none⟩)) (by simp [execOp, Act.eval, e5, go_sem]) rfl)⟩
              exact stepS_nil
            refine ⟨⟨none, .store 29 (.tmp 47) (.tmp 46), _, _, _, none⟩, rfl, ?_⟩
            rintro vals wz hE hV
            have k46 : ∃ t, Te B wz (vals 8) (TS ++ [t]) ∧ ∀ t', OO = some t' → t = t' := hV 8 (by simp) rfl
            have k47 : vals 9 = .pointer (some ⟨qb, 2, none⟩) := hV 9 (by simp) rfl
            refine ⟨rfl, ?_⟩
            intro KK hKK
            simp only [List.map_cons, List.map_nil, putAll, Act.put, List.setIfInBounds_toArray, List.set_cons_zero, List.set_cons_succ, k47]
            obtain ⟨t, hT9, ht9⟩ := k46
            obtain ⟨A9, cp9, ev9, hcp9⟩ := own_form hT9
            rw [show (TS ++ [t]).length = TS.length + 1 by simp] at ev9
            rw [ev9] at hT9
            rw [ev9]
            have hE1 : DS B w g w.heap.size qb s LL (!OO.isSome) v5 cs tab VN TS [] false 0 wz := hE.1
            have q2 := (hE1.cells).1.2.2.1
            have f2 := (hE1.cells).2 2
            refine finE_skip (w1 := wz.setCell ⟨qb, 2, none⟩ (.slice A9 (TS.length + 1) cp9)) (by simp [execOp, Act.eval, q2, f2, go_sem]) (hKK _ _ ?_)
            have hS9 := hE1.set2 HD.out hT9
            generalize (wz.setCell ⟨qb, 2, none⟩ (.slice A9 (TS.length + 1) cp9)) = w9 at hS9 ⊢
            have HS9 := Aside0.mk hS9
            have hT : TS = ts := HTS.out
            subst hT
            have hW9 : parseL (toks s 0) = W2 cs tab (!OO.isSome) LL (TS ++ [t]) (8 - TS.length - 1) := by rw [HW.out]; exact W2_step HP6.out (by omega) HT7.out ht9
            have HW9 := Aside0.mk hW9
            have hO8 : (!OO.isSome) = false → (TS ++ [t]).length ≤ 8 := by
              intro h0
              have h1 := HT7.out
              unfold testD at h1
              rw [if_neg Bool.false_ne_true] at h1
              by_cases h8' : TS.length = 8
              · rw [if_pos h8'] at h1
                obtain ⟨rfl, _⟩ := Prod.mk.inj h1
                cases h0
              · simp; omega
            have HO8 := Aside0.mk hO8
            clear hE1 hE hV hT9 ht9 ev9 q2 f2 hKK hS9 hW9 k47 HLN hO8 HV7
            go_wp2_with fail
            try simp only [Act.put]
            go_roundg kk
            case measure => omega
            case rel => exact ⟨LL, !OO.isSome, _, TS ++ [t], by simp; omega, HO8.out, HS9.out, by rw [HW9.out]; congr 1; simp; omega⟩
    case rest =>
    clear HS6 HS7 HF hc5 H5
    obtain ⟨wr, hwr⟩ : ∃ w2, w2 = wc := ⟨_, rfl⟩
    subst hwr
    obtain ⟨rfl, L, bad, v7, ts, hS, hF⟩ := hcut
    have HS0 := Aside0.mk hS
    have HF := Aside0.mk hF
    clear hS hF
    rcases h5 : isD bad 2 wOrder L with ⟨b5, L5⟩
    have hc5 : Calls Tryz.prog 23 #[.pointer (some ⟨g, 0, none⟩), .int .i64 1, .string ⟨#[111, 114, 100, 101, 114]⟩] wr fun e w' => e = .returned (.bool b5) ∧ RD B w' g s L5 bad ∧ KB wr w' g := by
      have := is_d HS0.out.rd 2 (by omega) (by omega) wOrder
      rw [h5] at this
      exact this
    have H5 := Aside0.mk h5
    clear h5
    go_upto_if 49 with (go_at_call 23; (with_reducible refine hc5.mono ?_); rintro e w8 ⟨rfl, hR, hK⟩; have HS7 := Aside0.mk (HS0.out.call HD.out hR hK); clear hR hK)
    go_cut [6] from 48 to 57 (fun (s6 : Value) wy => s6 = .pointer (some ⟨g, 0, none⟩) ∧ ∃ L bad od dn, DS B w g w.heap.size qb s L bad v5 cs tab v7 ts od dn 0 wy ∧ parseL (toks s 0) = R4 cs tab ts od dn bad L)
    case first =>
      cases b5 with
      | false =>
        go_wp2_with fail
        go_meet
        case rel =>
          refine ⟨rfl, L5, bad, _, _, HS7.out, ?_⟩
          have e := H5.out
          have e2 := isD_rest e
          subst e2
          rw [HF.out]
          unfold R3 R4
          cases bad with
          | true => rfl
          | false => rw [isD_false] at e; rw [if_neg Bool.false_ne_true, if_neg Bool.false_ne_true]; unfold c3; rw [e, if_neg Bool.false_ne_true]
      | true =>
        obtain ⟨rfl, hp5⟩ := isD_got H5.out
        have HP5 := Aside0.mk hp5
        rcases h6 : isD false 2 wBy L5 with ⟨b6, L6⟩
        rcases h7 : nameD (false || !b6) L6 with ⟨od, bd7, L7⟩
        rcases h8 : isD bd7 2 wDown L7 with ⟨dn, L8⟩
        have H6 := Aside0.mk h6
        have H7 := Aside0.mk h7
        have H8 := Aside0.mk h8
        clear h6 h7 h8 hp5 hc5
        have HS1 := HS7
        have hc6 : Calls Tryz.prog 20 #[.pointer (some ⟨g, 0, none⟩), .int .i64 1, .string ⟨#[98, 121]⟩] w8 (fun e w' => e = .returned (.tuple #[]) ∧ RD B w' g s L6 (false || !b6) ∧ KB w8 w' g) := (by have := must_d HS1.out.rd 2 (by omega) (by omega) wBy; rw [H6.out] at this; exact this)
        go_wp2_with (first
          | (go_at_call 20; (with_reducible refine hc6.mono ?_); rintro e w9 ⟨rfl, hR, hK⟩; have HS2 := Aside0.mk (HS1.out.call HD.out hR hK); have hc7 := name_d HS2.out.rd hs; rw [H7.out] at hc7; clear hR hK hc6)
          | (go_at_call 22; (with_reducible refine hc7.mono ?_); rintro e wA ⟨rfl, hR, hK⟩; have HS3 := Aside0.mk (HS2.out.call HD.out hR hK); have q3 := HS3.out.cells.1.2.2.2.1; have f3 := HS3.out.cells.2 3; have HS4 := Aside0.mk (HS3.out.set3 HD.out od); have hc8 : Calls Tryz.prog 23 #[.pointer (some ⟨g, 0, none⟩), .int .i64 1, .string ⟨#[100, 111, 119, 110]⟩] (wA.setCell ⟨qb, 3, none⟩ (.string (strB od))) (fun e w' => e = .returned (.bool dn) ∧ RD B w' g s L8 bd7 ∧ KB (wA.setCell ⟨qb, 3, none⟩ (.string (strB od))) w' g) := (by have := is_d HS4.out.rd 2 (by omega) (by omega) wDown; rw [H8.out] at this; exact this); clear hR hK hc7)
          | (go_at_call 23; (with_reducible refine hc8.mono ?_); rintro e wB ⟨rfl, hR, hK⟩; have HS5 := Aside0.mk (HS4.out.call HD.out hR hK); have q4 := HS5.out.cells.1.2.2.2.2.1; have f4 := HS5.out.cells.2 4; have HS6 := Aside0.mk (HS5.out.set4 HD.out dn); clear hR hK hc8 q3 f3))
        go_meet
        case rel =>
          exact ⟨rfl, L8, bd7, od, dn, HS6.out, HF.out.trans (R4_of HP5.out H6.out H7.out H8.out)⟩
    case rest =>
    clear HS0 HS7 HF hc5 H5
    obtain ⟨wr, hwr⟩ : ∃ w2, w2 = wc := ⟨_, rfl⟩
    subst hwr
    obtain ⟨rfl, L, bad, od, dn, hS, hF⟩ := hcut
    have HS0 := Aside0.mk hS
    have HF := Aside0.mk hF
    clear hS hF
    rcases h5 : isD bad 2 wLimit L with ⟨b5, L5⟩
    have hc5 : Calls Tryz.prog 23 #[.pointer (some ⟨g, 0, none⟩), .int .i64 1, .string ⟨#[108, 105, 109, 105, 116]⟩] wr fun e w' => e = .returned (.bool b5) ∧ RD B w' g s L5 bad ∧ KB wr w' g := by
      have := is_d HS0.out.rd 2 (by omega) (by omega) wLimit
      rw [h5] at this
      exact this
    have H5 := Aside0.mk h5
    clear h5
    go_upto_if 59 with (go_at_call 23; (with_reducible refine hc5.mono ?_); rintro e w8 ⟨rfl, hR, hK⟩; have HS7 := Aside0.mk (HS0.out.call HD.out hR hK); clear hR hK)
    go_cut [6] from 58 to 92 (fun (s6 : Value) wy => s6 = .pointer (some ⟨g, 0, none⟩) ∧ ∃ L bad lm, DS B w g w.heap.size qb s L bad v5 cs tab v7 ts od dn lm wy ∧ parseL (toks s 0) = R5 cs tab ts od dn lm bad L)
    case first =>
      cases b5 with
      | false =>
        go_wp2_with fail
        go_meet
        case rel =>
          refine ⟨rfl, L5, bad, _, HS7.out, ?_⟩
          have e := H5.out
          have e2 := isD_rest e
          subst e2
          rw [HF.out]
          unfold R4 R5
          cases bad with
          | true => rfl
          | false => rw [isD_false] at e; rw [if_neg Bool.false_ne_true, if_neg Bool.false_ne_true]; unfold c4; rw [e, if_neg Bool.false_ne_true]
      | true =>
        obtain ⟨rfl, hp5⟩ := isD_got H5.out
        have HP5 := Aside0.mk hp5
        obtain ⟨p, x, l, tk, o1, c1, hp, hL, hgB, hxl, hR, hg, hx5, ⟨t0, t1, t2⟩, ⟨c0, cb, f0, f1⟩, hq⟩ := HS7.out.rd.open
        have hcl := limit_d x.says w8 (HGG.out.keep HS7.out.kp)
        have HP := Aside0.mk (And.intro hp (hL.trans hxl))
        have HXL := Aside0.mk hxl
        have HR := Aside0.mk hR
        have HQ := Aside0.mk hq
        have HX5 := Aside0.mk hx5
        clear hc5 hp5 hp hL hgB hxl hR hg hx5 hq t1
        go_upto_region 19 with (go_at_call 25; (with_reducible refine hcl.mono ?_); rintro e w9 ⟨rfl, hB⟩; have HS8 := Aside0.mk (HS7.out.ext HD.out (hB)); have q5 := HS8.out.cells.1.2.2.2.2.2; have f5 := HS8.out.cells.2 5; have HS9 := Aside0.mk (HS8.out.set5 HD.out (limN x.says)); clear hB)
        clear hcl q5 f5 c0 cb f0 f1 t0 t2
        generalize (w9.setCell ⟨qb, 5, none⟩ (.int .i64 (limN x.says))) = wz at HS9 ⊢
        have q5 := HS9.out.cells.1.2.2.2.2.2
        obtain ⟨p2, x2, l2, tk2, o2, c2, hp, hL, hgB, hxl, hR, hg, hx5, ⟨t0, t1, t2⟩, ⟨c0, cb, f0, f1⟩, hq⟩ := HS9.out.rd.open
        have hxx : x2 :: l2 = x :: l := hxl.symm.trans HXL.out
        obtain ⟨rfl, rfl⟩ := List.cons.inj hxx
        have HR2 := Aside0.mk (And.intro hgB (And.intro hR hg))
        have HQ2 := Aside0.mk hq
        clear hxx hp hL hgB hxl hR hg hx5 hq t1 t2
        obtain ⟨lv, hlv⟩ : ∃ v, v = limN x2.says := ⟨_, rfl⟩
        rw [← hlv] at q5
        have HLV := Aside0.mk hlv
        clear hlv
        by_cases hk : x2.kind = 3
        · have h3 : rk x2.kind = 2 := by rw [hk]; rfl
          rw [h3] at t0
          have HK := Aside0.mk hk
          obtain ⟨q, m, hq, hql, rfl, hne⟩ := HQ2.out (by omega)
          have HQL := Aside0.mk (And.intro hq hql)
          clear hq hql hne hk h3
          by_cases hz : lv = 0
          · have hn := lim_none HP.out.1 HP.out.2 (.inr (HLV.out.symm.trans hz))
            have HN := Aside0.mk hn
            have hzb : (lv == 0) = true := by simpa using hz
            clear hn
            go_wp2_with fail
            go_meet
            case rel => exact ⟨rfl, L5, true, _, HS9.out.call HD.out (HS9.out.rd.set1 true) set_keep, HF.out.trans (R5_of (o := none) (L2 := L5) HP5.out (by rw [HXL.out]; exact HN.out) (fun n h => (by cases h)))⟩
          · have hn := lim_some HP.out.1 HP.out.2 HK.out (by rw [← HLV.out]; exact hz)
            have HN := Aside0.mk hn
            have hzb : (lv == 0) = false := by simpa using hz
            clear hn
            go_wp2_with fail
            go_meet
            case rel =>
              refine ⟨rfl, l2, false, _, HS9.out.call HD.out (bad' := false) (L' := l2) ⟨q, _, HQL.out.1, HQL.out.2, HR2.out.1, (LR.tail' HR2.out.2.1).keep set_keep, blk_set HR2.out.2.2 0 _⟩ set_keep, ?_⟩
              exact HF.out.trans (R5_of HP5.out (by rw [HXL.out]; exact HN.out) (fun n h => Option.some.inj h))
        · have hn := lim_none HP.out.1 HP.out.2 (.inl hk)
          have HN := Aside0.mk hn
          obtain ⟨kv, hkv⟩ : ∃ v, v = rk x2.kind := ⟨_, rfl⟩
          rw [← hkv] at t0
          have h3 : ¬ kv = 2 := fun h => hk (rk_inj (b := 3) HX5.out (by omega) (hkv.symm.trans h))
          have h3b : (kv == 2) = false := by simpa using h3
          clear hn hk hkv
          go_wp2_with fail
          go_meet
          case rel => exact ⟨rfl, L5, true, _, HS9.out.call HD.out (HS9.out.rd.set1 true) set_keep, HF.out.trans (R5_of (o := none) (L2 := L5) HP5.out (by rw [HXL.out]; exact HN.out) (fun n h => (by cases h)))⟩
    case rest =>
    clear HS0 HS7 HF hc5 H5
    obtain ⟨wr, hwr⟩ : ∃ w2, w2 = wc := ⟨_, rfl⟩
    subst hwr
    obtain ⟨rfl, L, bad, lm, hS, hF⟩ := hcut
    have HS0 := Aside0.mk hS
    have HF := Aside0.mk hF
    obtain ⟨rb, hrb⟩ : ∃ n, n = w.heap.size := ⟨_, rfl⟩
    rw [← hrb] at HS0 HD ⊢
    have hb : w.heap.size ≤ rb := Nat.le_of_eq hrb.symm
    have HB := Aside0.mk hb
    clear hS hF hb hrb
    by_cases hok : bad = false ∧ (hdT L).kind = 0
    · obtain ⟨rfl, hk⟩ := hok
      obtain ⟨p, x, l, tk, o1, c1, hp, hL, hgB, hxl, hR, hg, hx5, ⟨t0, t1, t2⟩, ⟨c0, cb, f0, f1⟩, hq⟩ := HS0.out.rd.open
      have hF2 : parseL (toks s 0) = (some ⟨cs, tab, ts, od, dn, lm⟩, L) := by rw [HF.out]; unfold R5 c5; rw [if_neg Bool.false_ne_true, if_pos hk]
      have h3 : rk x.kind = 5 := by have : x.kind = 0 := by rw [hxl] at hk; exact hk
                                    rw [this]; rfl
      rw [h3] at t0
      have hpb := parse_ok s hF2
      have hpf := rprint_f _ (hpb.okQ (by omega)) (cs.length + ts.length + 51) (by show cs.length + ts.length + 50 < _; omega)
      obtain ⟨A5, p5, rfl, hp5, hC5⟩ := sr_C HS0.out.s5 (by have : cs.length ≤ 8 := hpb.ncols; omega)
      obtain ⟨A7, p7, rfl, hp7, hC7⟩ := te_C HS0.out.s7 (by have : ts.length ≤ 8 := hpb.nwh; omega)
      have hpr := cairnref32_Print.calls (cs.length + ts.length + 51) A5 p5 (cs.map strB) (strB tab) A7 p7 (ts.map t70) (strB od) dn lm (strB (printQ ⟨cs, tab, ts, od, dn, lm⟩).1) (printQ ⟨cs, tab, ts, od, dn, lm⟩).2 wr (by rw [List.length_map]; exact hC5) (by rw [List.length_map]; exact hp5) (by rw [List.length_map]; exact hC7) (by rw [List.length_map]; exact hp7) (HGG.out.keep HS0.out.kp).tab hpf
      rw [List.length_map, List.length_map] at hpr
      obtain ⟨q0, q1, q2, q3, q4, q5⟩ := HS0.out.cells.1
      have HF2 := Aside0.mk hF2
      clear hp hL hgB hxl hR hg hx5 hq t1 t2 f0 f1 hk h3 hpb hpf hC5 hC7 hp5 hp7 hF2
      by_cases h0 : (printQ ⟨cs, tab, ts, od, dn, lm⟩).2 = 0
      · have e0 : parseQ s = (⟨cs, tab, ts, od, dn, lm⟩, 0, 0) := by unfold parseQ; rw [if_pos hl, HF2.out]; simp only; rw [if_pos h0]
        have HE0 := Aside0.mk e0
        rw [h0] at hpr
        clear e0 h0
        go_upto_region 27 with (go_at_call 14; (with_reducible refine hpr.mono ?_); rintro e w3 ⟨rfl, hb3⟩; have HS3 := Aside0.mk (HS0.out.ext HD.out hb3); have z0 := blk_cell HS3.out.zr 0; have f0 := blk_frozen HS3.out.zr 0; have z1 := blk_cell HS3.out.zr 1; have f1 := blk_frozen HS3.out.zr 1; have z2 := blk_cell HS3.out.zr 2; have f2 := blk_frozen HS3.out.zr 2; have z3 := blk_cell HS3.out.zr 3; have f3 := blk_frozen HS3.out.zr 3; have z4 := blk_cell HS3.out.zr 4; have f4 := blk_frozen HS3.out.zr 4; have z5 := blk_cell HS3.out.zr 5; have f5 := blk_frozen HS3.out.zr 5; clear hb3 q0 q1 q2 q3 q4 q5; obtain ⟨q0, q1, q2, q3, q4, q5⟩ := HS3.out.cells.1)
        clear hpr
        go_wp2_with fail
        have hb := HB.out
        have hbB : rb < B := by have := HD.out.d2; have := HD.out.d3; have := HD.out.d4; omega
        have hF : ((((((w3.setCell ⟨rb, 0, none⟩ (.slice A5 cs.length p5)).setCell ⟨rb, 1, none⟩ (.string (strB tab))).setCell ⟨rb, 2, none⟩ (.slice A7 ts.length p7)).setCell ⟨rb, 3, none⟩ (.string (strB od))).setCell ⟨rb, 4, none⟩ (.bool dn)).setCell ⟨rb, 5, none⟩ (.int .i64 lm)).heap[rb]? = some (.cells #[.slice A5 cs.length p5, .string (strB tab), .slice A7 ts.length p7, .string (strB od), .bool dn, .int .i64 lm] 31 (0, 0)) := by
          have h := (blk_set (blk_set (blk_set (blk_set (blk_set (blk_set HS3.out.zr 0 (.slice A5 cs.length p5)) 1 (.string (strB tab))) 2 (.slice A7 ts.length p7)) 3 (.string (strB od))) 4 (.bool dn)) 5 (.int .i64 lm))
          simpa using h
        have hK : KB w ((((((w3.setCell ⟨rb, 0, none⟩ (.slice A5 cs.length p5)).setCell ⟨rb, 1, none⟩ (.string (strB tab))).setCell ⟨rb, 2, none⟩ (.slice A7 ts.length p7)).setCell ⟨rb, 3, none⟩ (.string (strB od))).setCell ⟨rb, 4, none⟩ (.bool dn)).setCell ⟨rb, 5, none⟩ (.int .i64 lm)) w.heap.size := (keep_new (keep_new (keep_new (keep_new (keep_new (keep_new HS3.out.kp hb) hb) hb) hb) hb) hb)
        have hS5 : Sr B ((((((w3.setCell ⟨rb, 0, none⟩ (.slice A5 cs.length p5)).setCell ⟨rb, 1, none⟩ (.string (strB tab))).setCell ⟨rb, 2, none⟩ (.slice A7 ts.length p7)).setCell ⟨rb, 3, none⟩ (.string (strB od))).setCell ⟨rb, 4, none⟩ (.bool dn)).setCell ⟨rb, 5, none⟩ (.int .i64 lm)) (.slice A5 cs.length p5) cs := (Sr.far (Sr.far (Sr.far (Sr.far (Sr.far (Sr.far HS3.out.s5 hbB) hbB) hbB) hbB) hbB) hbB)
        have hS7 : Te B ((((((w3.setCell ⟨rb, 0, none⟩ (.slice A5 cs.length p5)).setCell ⟨rb, 1, none⟩ (.string (strB tab))).setCell ⟨rb, 2, none⟩ (.slice A7 ts.length p7)).setCell ⟨rb, 3, none⟩ (.string (strB od))).setCell ⟨rb, 4, none⟩ (.bool dn)).setCell ⟨rb, 5, none⟩ (.int .i64 lm)) (.slice A7 ts.length p7) ts := (Te.far (Te.far (Te.far (Te.far (Te.far (Te.far HS3.out.s7 hbB) hbB) hbB) hbB) hbB) hbB)
        generalize ((((((w3.setCell ⟨rb, 0, none⟩ (.slice A5 cs.length p5)).setCell ⟨rb, 1, none⟩ (.string (strB tab))).setCell ⟨rb, 2, none⟩ (.slice A7 ts.length p7)).setCell ⟨rb, 3, none⟩ (.string (strB od))).setCell ⟨rb, 4, none⟩ (.bool dn)).setCell ⟨rb, 5, none⟩ (.int .i64 lm)) = wf at hF hK hS5 hS7 ⊢
        have y0 := blk_cell hF 0
        have y1 := blk_cell hF 1
        have y2 := blk_cell hF 2
        have y3 := blk_cell hF 3
        have y4 := blk_cell hF 4
        have y5 := blk_cell hF 5
        have hwB : w.heap.size ≤ B := by omega
        exact bodyPost_ret (v := .tuple #[.agg #[.slice A5 cs.length p5, .string (strB tab), .slice A7 ts.length p7, .string (strB od), .bool dn, .int .i64 lm], .int .i64 0, .int .i64 0]) (by simp [results, Tryz.results8, go_sem, y0, y1, y2, y3, y4, y5]) rfl ⟨_, _, by rw [HE0.out]; rfl, by rw [HE0.out]; exact ⟨own_less hS5 hwB, own_less hS7 hwB⟩, hK⟩
      · have h1 : (printQ ⟨cs, tab, ts, od, dn, lm⟩).2 = 320 := by
          unfold printQ at h0 ⊢
          split at h0
          · split at h0
            · exact absurd rfl h0
            · rename_i h2 h3; rw [if_pos h2, if_neg h3]
          · rename_i h2; rw [if_neg h2]
        have e0 : parseQ s = (⟨[], [], [], [], false, 0⟩, 0, 2) := by unfold parseQ; rw [if_pos hl, HF2.out]; simp only; rw [if_neg h0]
        have HE0 := Aside0.mk e0
        rw [h1] at hpr
        clear e0 h0 h1
        go_upto_region 26 with (go_at_call 14; (with_reducible refine hpr.mono ?_); rintro e w3 ⟨rfl, hb3⟩; have HS3 := Aside0.mk (HS0.out.ext HD.out hb3); have z0 := blk_cell HS3.out.zr 0; have f0 := blk_frozen HS3.out.zr 0; have z1 := blk_cell HS3.out.zr 1; have f1 := blk_frozen HS3.out.zr 1; have z2 := blk_cell HS3.out.zr 2; have f2 := blk_frozen HS3.out.zr 2; have z3 := blk_cell HS3.out.zr 3; have f3 := blk_frozen HS3.out.zr 3; have z4 := blk_cell HS3.out.zr 4; have f4 := blk_frozen HS3.out.zr 4; have z5 := blk_cell HS3.out.zr 5; have f5 := blk_frozen HS3.out.zr 5; clear hb3 q0 q1 q2 q3 q4 q5; obtain ⟨q0, q1, q2, q3, q4, q5⟩ := HS3.out.cells.1)
        clear hpr
        go_wp2_with fail
        obtain ⟨hF, hKF⟩ := zero_six HS3.out.zr HS3.out.kp HB.out
        generalize ((((((w3.setCell ⟨rb, 0, none⟩ (.slice none 0 0)).setCell ⟨rb, 1, none⟩ (.string ⟨#[]⟩)).setCell ⟨rb, 2, none⟩ (.slice none 0 0)).setCell ⟨rb, 3, none⟩ (.string ⟨#[]⟩)).setCell ⟨rb, 4, none⟩ (.bool false)).setCell ⟨rb, 5, none⟩ (.int .i64 0)) = wf at hF hKF ⊢
        have y0 := blk_cell hF 0
        have y1 := blk_cell hF 1
        have y2 := blk_cell hF 2
        have y3 := blk_cell hF 3
        have y4 := blk_cell hF 4
        have y5 := blk_cell hF 5
        exact bodyPost_ret (v := .tuple #[.agg #[.slice none 0 0, .string ⟨#[]⟩, .slice none 0 0, .string ⟨#[]⟩, .bool false, .int .i64 0], .int .i64 0, .int .i64 2]) (by simp [results, Tryz.results8, go_sem, y0, y1, y2, y3, y4, y5]) rfl ⟨.slice none 0 0, .slice none 0 0, by rw [HE0.out]; rfl, by rw [HE0.out]; exact ⟨World.ownsRow_nil _ _ _ _, World.ownsRow_nil _ _ _ _⟩, hKF⟩
    · have e0 : parseQ s = (⟨[], [], [], [], false, 0⟩, (hdT L).place, 320) := by
        unfold parseQ
        rw [if_pos hl, HF.out]
        unfold R5 c5
        cases bad with
        | true => rfl
        | false => rw [if_neg Bool.false_ne_true, if_neg (fun h => hok ⟨rfl, h⟩)]
      obtain ⟨p, x, l, tk, o1, c1, hp, hL, hgB, hxl, hR, hg, hx5, ⟨t0, t1, t2⟩, ⟨c0, cb, f0, f1⟩, hq⟩ := HS0.out.rd.open
      have hpl : (hdT L).place = x.place := by rw [hxl]; rfl
      rw [hpl] at e0
      have HE0 := Aside0.mk e0
      have HT1 := Aside0.mk t1
      have HC0 := Aside0.mk c0
      have HZ2 := Aside0.mk HS0.out.zr
      have hkn : bad = false → ¬ rk x.kind = 5 := fun hb2 h => hok ⟨hb2, by rw [hxl]; exact rk_inj (b := 0) hx5 (by omega) h⟩
      obtain ⟨kv, hkv⟩ : ∃ v, v = rk x.kind := ⟨_, rfl⟩
      rw [← hkv] at t0 hkn
      clear hp hL hgB hxl hR hg hx5 hq t2 f0 f1 e0 hok hpl hkv
      cases bad with
      | true =>
        clear hkn
        go_upto_region 23 with fail
        refine exk_tail (fun W => Ext wr.drew W) (fun _ => Ext) 11 [(0, 107), (1, 108), (2, 109), (3, 110), (4, 111), (5, 112), (6, 113), (7, 114), (9, 3)] [0, 1, 2, 3, 4, 5, 6, 7, 8, 9] (fun i w v => match i with | 0 => v = .agg #[.slice none 0 0, .string ⟨#[]⟩, .slice none 0 0, .string ⟨#[]⟩, .bool false, .int .i64 0] | 1 => v = .pointer (some ⟨g, 0, none⟩) | 2 => v = .pointer (some ⟨g, 0, none⟩) | 3 => v = .pointer (some ⟨g, 0, none⟩) | 4 => v = .slice (some ⟨tk, o1, none⟩) (l.length + 1) c1 | 5 => v = .pointer (some ⟨tk, o1, none⟩) | 6 => v = .pointer (some ⟨tk, o1 + 1, none⟩) | 7 => v = .int .i64 (x.place : Int) | 9 => v = .int .i64 (x.place : Int) | _ => True) (by kernel_rfl) (by kernel_rfl) (by rfl) rfl ?j0 ?rj ?r0 ?mono23 ?steps23 ?fin23
        case j0 => exact Ext.refl _
        case rj => exact fun i W W' h hR => h.trans hR
        case r0 => exact fun i W => Ext.refl W
        case mono23 =>
          intro i j w w' v hne h hR
          match j with
          | 0 => exact h
          | 1 => exact h
          | 2 => exact h
          | 3 => exact h
          | 4 => exact h
          | 5 => exact h
          | 6 => exact h
          | 7 => exact h
          | 8 => exact h
          | 9 => exact h
          | 10 => exact h
          | _ + 11 => trivial
        case steps23 =>
          refine stepK_cons ⟨_, rfl, fun a w hE hH => ?_⟩ ?_
          ·
            exact Or.inl ⟨(rfl), goodK_of rfl (goodE_val (.agg #[.slice none 0 0, .string ⟨#[]⟩, .slice none 0 0, .string ⟨#[]⟩, .bool false, .int .i64 0]) (by simp [execOp, Act.eval, go_sem]) rfl)⟩
          refine stepK_cons ⟨_, rfl, fun a w hE hH => ?_⟩ ?_
          ·
            have e6 : a.tmps[6]? = some (.pointer (some ⟨g, 0, none⟩)) := hH.old 6 rfl
            exact Or.inl ⟨rfl, goodK_of rfl (goodE_move _ rfl (eval_of e6) rfl)⟩
          refine stepK_cons ⟨_, rfl, fun a w hE hH => ?_⟩ ?_
          ·
            obtain ⟨v108, e108, g108⟩ := hH.dep 1 108 rfl (by kernel_rfl)
            have q108 : v108 = .pointer (some ⟨g, 0, none⟩) := g108
            subst q108
            exact Or.inl ⟨rfl, goodK_of rfl (goodE_val (.pointer (some ⟨g, 0, none⟩)) (by simp [execOp, Act.eval, e108, go_sem]) rfl)⟩
          refine stepK_cons ⟨_, rfl, fun a w hE hH => ?_⟩ ?_
          ·
            obtain ⟨v109, e109, g109⟩ := hH.dep 2 109 rfl (by kernel_rfl)
            have q109 : v109 = .pointer (some ⟨g, 0, none⟩) := g109
            subst q109
            exact Or.inl ⟨rfl, goodK_of rfl (goodE_val (.pointer (some ⟨g, 0, none⟩)) (by simp [execOp, Act.eval, e109, go_sem]) rfl)⟩
          refine stepK_cons ⟨_, rfl, fun a w hE hH => ?_⟩ ?_
          ·
            obtain ⟨v110, e110, g110⟩ := hH.dep 3 110 rfl (by kernel_rfl)
            have q110 : v110 = .pointer (some ⟨g, 0, none⟩) := g110
            subst q110
            have hc := cell_ext ((Ext.to_drew _).trans hE) HC0.out
            exact Or.inl ⟨(rfl), goodK_of rfl (goodE_val (.slice (some ⟨tk, o1, none⟩) (l.length + 1) c1) (by simp [execOp, Act.eval, e110, hc, go_sem]) rfl)⟩
          refine stepK_cons ⟨_, rfl, fun a w hE hH => ?_⟩ ?_
          ·
            obtain ⟨v111, e111, g111⟩ := hH.dep 4 111 rfl (by kernel_rfl)
            have q111 : v111 = .slice (some ⟨tk, o1, none⟩) (l.length + 1) c1 := g111
            subst q111
            exact Or.inl ⟨(rfl), goodK_of rfl (goodE_val (.pointer (some ⟨tk, o1, none⟩)) (by simp [execOp, Act.eval, e111, go_sem]) rfl)⟩
          refine stepK_cons ⟨_, rfl, fun a w hE hH => ?_⟩ ?_
          ·
            obtain ⟨v112, e112, g112⟩ := hH.dep 5 112 rfl (by kernel_rfl)
            have q112 : v112 = .pointer (some ⟨tk, o1, none⟩) := g112
            subst q112
            exact Or.inl ⟨rfl, goodK_of rfl (goodE_val (.pointer (some ⟨tk, o1 + 1, none⟩)) (by simp [execOp, Act.eval, e112, go_sem]) rfl)⟩
          refine stepK_cons ⟨_, rfl, fun a w hE hH => ?_⟩ ?_
          ·
            obtain ⟨v113, e113, g113⟩ := hH.dep 6 113 rfl (by kernel_rfl)
            have q113 : v113 = .pointer (some ⟨tk, o1 + 1, none⟩) := g113
            subst q113
            have hc := cell_ext ((Ext.to_drew _).trans hE) HT1.out
            exact Or.inl ⟨(rfl), goodK_of rfl (goodE_val (.int .i64 (x.place : Int)) (by simp [execOp, Act.eval, e113, hc, go_sem]) rfl)⟩
          refine stepK_cons ⟨_, rfl, fun a w hE hH => ?_⟩ ?_
          ·
            have e2 : a.tmps[2]? = some (.pointer (some ⟨rb, 0, none⟩)) := hH.old 2 rfl
            obtain ⟨v107, e107, g107⟩ := hH.dep 0 107 rfl (by kernel_rfl)
            have q107 : v107 = .agg #[.slice none 0 0, .string ⟨#[]⟩, .slice none 0 0, .string ⟨#[]⟩, .bool false, .int .i64 0] := g107
            subst q107
            have hz := heap_below HZ2.out ((Ext.to_drew _).trans hE)
            exact Or.inl ⟨(rfl), goodK_skip (w.setRow rb #[.slice none 0 0, .string ⟨#[]⟩, .slice none 0 0, .string ⟨#[]⟩, .bool false, .int .i64 0]) (exec_store rfl (store_run rb #[.slice none 0 0, .string ⟨#[]⟩, .slice none 0 0, .string ⟨#[]⟩, .bool false, .int .i64 0] #[.slice none 0 0, .string ⟨#[]⟩, .slice none 0 0, .string ⟨#[]⟩, .bool false, .int .i64 0] (by simp [Act.eval, e2]) (by simp [Act.eval, e107]) hz (by kernel_rfl) rfl (by simp [Value.oneCell']))) (setRow_same hz) trivial⟩
          refine stepK_cons ⟨_, rfl, fun a w hE hH => ?_⟩ ?_
          ·
            obtain ⟨v114, e114, g114⟩ := hH.dep 7 114 rfl (by kernel_rfl)
            exact Or.inl ⟨rfl, goodK_of rfl (goodE_assign v114 rfl (eval_of e114) g114)⟩
          exact stepK_nil
        refine ⟨⟨(some 4), .assign (.const (.int .i64 320)), _, _, _, none⟩, rfl, ?_⟩
        rintro vals wz hE hV
        have k3 : vals 9 = .int .i64 (x.place : Int) := hV 9 (by simp) rfl
        refine ⟨rfl, ?_⟩
        intro KK hKK
        simp only [List.map_cons, List.map_nil, putAll, Act.put, List.setIfInBounds_toArray, List.set_cons_zero, List.set_cons_succ, k3]
        refine finE_val (w1 := wz) (v := .int .i64 320) (by simp [execOp, Act.eval, Act.put]) (hKK _ _ ?_)
        have hF := heap_below HZ2.out ((Ext.to_drew _).trans hE)
        have hBF : KB w wz w.heap.size := kb_then HS0.out.kp (Below.mono ((Ext.to_drew _).trans hE) HS0.out.kp.1)
        generalize wz = wf at hF hBF ⊢
        have HFF := Aside0.mk hF
        have HBF := Aside0.mk hBF
        have z0 := blk_cell hF 0
        have z1 := blk_cell hF 1
        have z2 := blk_cell hF 2
        have z3 := blk_cell hF 3
        have z4 := blk_cell hF 4
        have z5 := blk_cell hF 5
        clear hE hV k3 hKK hF hBF
        go_wp2_with fail
        exact bodyPost_ret (v := .tuple #[.agg #[.slice none 0 0, .string ⟨#[]⟩, .slice none 0 0, .string ⟨#[]⟩, .bool false, .int .i64 0], .int .i64 (x.place : Int), .int .i64 320]) (by simp [results, Tryz.results8, go_sem, z0, z1, z2, z3, z4, z5]) rfl ⟨.slice none 0 0, .slice none 0 0, by rw [HE0.out]; rfl, by rw [HE0.out]; exact ⟨World.ownsRow_nil _ _ _ _, World.ownsRow_nil _ _ _ _⟩, HBF.out⟩
      | false =>
        have h3 : ¬ kv = 5 := hkn rfl
        have h3b : (kv == 5) = false := by simpa using h3
        clear hkn
        go_upto_region 23 with fail
        refine exk_tail (fun W => Ext wr.drew W) (fun _ => Ext) 11 [(0, 107), (1, 108), (2, 109), (3, 110), (4, 111), (5, 112), (6, 113), (7, 114), (9, 3)] [0, 1, 2, 3, 4, 5, 6, 7, 8, 9] (fun i w v => match i with | 0 => v = .agg #[.slice none 0 0, .string ⟨#[]⟩, .slice none 0 0, .string ⟨#[]⟩, .bool false, .int .i64 0] | 1 => v = .pointer (some ⟨g, 0, none⟩) | 2 => v = .pointer (some ⟨g, 0, none⟩) | 3 => v = .pointer (some ⟨g, 0, none⟩) | 4 => v = .slice (some ⟨tk, o1, none⟩) (l.length + 1) c1 | 5 => v = .pointer (some ⟨tk, o1, none⟩) | 6 => v = .pointer (some ⟨tk, o1 + 1, none⟩) | 7 => v = .int .i64 (x.place : Int) | 9 => v = .int .i64 (x.place : Int) | _ => True) (by kernel_rfl) (by kernel_rfl) (by rfl) rfl ?j0b ?rjb ?r0b ?mono23b ?steps23b ?fin23b
        case j0b => exact Ext.refl _
        case rjb => exact fun i W W' h hR => h.trans hR
        case r0b => exact fun i W => Ext.refl W
        case mono23b =>
          intro i j w w' v hne h hR
          match j with
          | 0 => exact h
          | 1 => exact h
          | 2 => exact h
          | 3 => exact h
          | 4 => exact h
          | 5 => exact h
          | 6 => exact h
          | 7 => exact h
          | 8 => exact h
          | 9 => exact h
          | 10 => exact h
          | _ + 11 => trivial
        case steps23b =>
          refine stepK_cons ⟨_, rfl, fun a w hE hH => ?_⟩ ?_
          ·
            exact Or.inl ⟨(rfl), goodK_of rfl (goodE_val (.agg #[.slice none 0 0, .string ⟨#[]⟩, .slice none 0 0, .string ⟨#[]⟩, .bool false, .int .i64 0]) (by simp [execOp, Act.eval, go_sem]) rfl)⟩
          refine stepK_cons ⟨_, rfl, fun a w hE hH => ?_⟩ ?_
          ·
            have e6 : a.tmps[6]? = some (.pointer (some ⟨g, 0, none⟩)) := hH.old 6 rfl
            exact Or.inl ⟨rfl, goodK_of rfl (goodE_move _ rfl (eval_of e6) rfl)⟩
          refine stepK_cons ⟨_, rfl, fun a w hE hH => ?_⟩ ?_
          ·
            obtain ⟨v108, e108, g108⟩ := hH.dep 1 108 rfl (by kernel_rfl)
            have q108 : v108 = .pointer (some ⟨g, 0, none⟩) := g108
            subst q108
            exact Or.inl ⟨rfl, goodK_of rfl (goodE_val (.pointer (some ⟨g, 0, none⟩)) (by simp [execOp, Act.eval, e108, go_sem]) rfl)⟩
          refine stepK_cons ⟨_, rfl, fun a w hE hH => ?_⟩ ?_
          ·
            obtain ⟨v109, e109, g109⟩ := hH.dep 2 109 rfl (by kernel_rfl)
            have q109 : v109 = .pointer (some ⟨g, 0, none⟩) := g109
            subst q109
            exact Or.inl ⟨rfl, goodK_of rfl (goodE_val (.pointer (some ⟨g, 0, none⟩)) (by simp [execOp, Act.eval, e109, go_sem]) rfl)⟩
          refine stepK_cons ⟨_, rfl, fun a w hE hH => ?_⟩ ?_
          ·
            obtain ⟨v110, e110, g110⟩ := hH.dep 3 110 rfl (by kernel_rfl)
            have q110 : v110 = .pointer (some ⟨g, 0, none⟩) := g110
            subst q110
            have hc := cell_ext ((Ext.to_drew _).trans hE) HC0.out
            exact Or.inl ⟨(rfl), goodK_of rfl (goodE_val (.slice (some ⟨tk, o1, none⟩) (l.length + 1) c1) (by simp [execOp, Act.eval, e110, hc, go_sem]) rfl)⟩
          refine stepK_cons ⟨_, rfl, fun a w hE hH => ?_⟩ ?_
          ·
            obtain ⟨v111, e111, g111⟩ := hH.dep 4 111 rfl (by kernel_rfl)
            have q111 : v111 = .slice (some ⟨tk, o1, none⟩) (l.length + 1) c1 := g111
            subst q111
            exact Or.inl ⟨(rfl), goodK_of rfl (goodE_val (.pointer (some ⟨tk, o1, none⟩)) (by simp [execOp, Act.eval, e111, go_sem]) rfl)⟩
          refine stepK_cons ⟨_, rfl, fun a w hE hH => ?_⟩ ?_
          ·
            obtain ⟨v112, e112, g112⟩ := hH.dep 5 112 rfl (by kernel_rfl)
            have q112 : v112 = .pointer (some ⟨tk, o1, none⟩) := g112
            subst q112
            exact Or.inl ⟨rfl, goodK_of rfl (goodE_val (.pointer (some ⟨tk, o1 + 1, none⟩)) (by simp [execOp, Act.eval, e112, go_sem]) rfl)⟩
          refine stepK_cons ⟨_, rfl, fun a w hE hH => ?_⟩ ?_
          ·
            obtain ⟨v113, e113, g113⟩ := hH.dep 6 113 rfl (by kernel_rfl)
            have q113 : v113 = .pointer (some ⟨tk, o1 + 1, none⟩) := g113
            subst q113
            have hc := cell_ext ((Ext.to_drew _).trans hE) HT1.out
            exact Or.inl ⟨(rfl), goodK_of rfl (goodE_val (.int .i64 (x.place : Int)) (by simp [execOp, Act.eval, e113, hc, go_sem]) rfl)⟩
          refine stepK_cons ⟨_, rfl, fun a w hE hH => ?_⟩ ?_
          ·
            have e2 : a.tmps[2]? = some (.pointer (some ⟨rb, 0, none⟩)) := hH.old 2 rfl
            obtain ⟨v107, e107, g107⟩ := hH.dep 0 107 rfl (by kernel_rfl)
            have q107 : v107 = .agg #[.slice none 0 0, .string ⟨#[]⟩, .slice none 0 0, .string ⟨#[]⟩, .bool false, .int .i64 0] := g107
            subst q107
            have hz := heap_below HZ2.out ((Ext.to_drew _).trans hE)
            exact Or.inl ⟨(rfl), goodK_skip (w.setRow rb #[.slice none 0 0, .string ⟨#[]⟩, .slice none 0 0, .string ⟨#[]⟩, .bool false, .int .i64 0]) (exec_store rfl (store_run rb #[.slice none 0 0, .string ⟨#[]⟩, .slice none 0 0, .string ⟨#[]⟩, .bool false, .int .i64 0] #[.slice none 0 0, .string ⟨#[]⟩, .slice none 0 0, .string ⟨#[]⟩, .bool false, .int .i64 0] (by simp [Act.eval, e2]) (by simp [Act.eval, e107]) hz (by kernel_rfl) rfl (by simp [Value.oneCell']))) (setRow_same hz) trivial⟩
          refine stepK_cons ⟨_, rfl, fun a w hE hH => ?_⟩ ?_
          ·
            obtain ⟨v114, e114, g114⟩ := hH.dep 7 114 rfl (by kernel_rfl)
            exact Or.inl ⟨rfl, goodK_of rfl (goodE_assign v114 rfl (eval_of e114) g114)⟩
          exact stepK_nil
        refine ⟨⟨(some 4), .assign (.const (.int .i64 320)), _, _, _, none⟩, rfl, ?_⟩
        rintro vals wz hE hV
        have k3 : vals 9 = .int .i64 (x.place : Int) := hV 9 (by simp) rfl
        refine ⟨rfl, ?_⟩
        intro KK hKK
        simp only [List.map_cons, List.map_nil, putAll, Act.put, List.setIfInBounds_toArray, List.set_cons_zero, List.set_cons_succ, k3]
        refine finE_val (w1 := wz) (v := .int .i64 320) (by simp [execOp, Act.eval, Act.put]) (hKK _ _ ?_)
        have hF := heap_below HZ2.out ((Ext.to_drew _).trans hE)
        have hBF : KB w wz w.heap.size := kb_then HS0.out.kp (Below.mono ((Ext.to_drew _).trans hE) HS0.out.kp.1)
        generalize wz = wf at hF hBF ⊢
        have HFF := Aside0.mk hF
        have HBF := Aside0.mk hBF
        have z0 := blk_cell hF 0
        have z1 := blk_cell hF 1
        have z2 := blk_cell hF 2
        have z3 := blk_cell hF 3
        have z4 := blk_cell hF 4
        have z5 := blk_cell hF 5
        clear hE hV k3 hKK hF hBF
        go_wp2_with fail
        exact bodyPost_ret (v := .tuple #[.agg #[.slice none 0 0, .string ⟨#[]⟩, .slice none 0 0, .string ⟨#[]⟩, .bool false, .int .i64 0], .int .i64 (x.place : Int), .int .i64 320]) (by simp [results, Tryz.results8, go_sem, z0, z1, z2, z3, z4, z5]) rfl ⟨.slice none 0 0, .slice none 0 0, by rw [HE0.out]; rfl, by rw [HE0.out]; exact ⟨World.ownsRow_nil _ _ _ _, World.ownsRow_nil _ _ _ _⟩, HBF.out⟩
  · have hd : (1024 : Int) < (s.length : Int) := by omega
    have e0 : parseQ s = (⟨[], [], [], [], false, 0⟩, 0, 2) := by unfold parseQ; rw [if_neg hl]
    rw [e0]
    clear e0
    obtain ⟨wz, hwz⟩ : ∃ W, W = w.alloc (.cells #[.slice none 0 0, .string ⟨#[]⟩, .slice none 0 0, .string ⟨#[]⟩, .bool false, .int .i64 0] 31) := ⟨_, rfl⟩
    have HZ : Aside0 (wz.heap[w.heap.size]? = some (.cells #[.slice none 0 0, .string ⟨#[]⟩, .slice none 0 0, .string ⟨#[]⟩, .bool false, .int .i64 0] 31 (0, 0))) := ⟨by rw [hwz]; exact heap_alloc_new _ _⟩
    have HK : Aside0 (KB w wz w.heap.size) := ⟨by rw [hwz]; exact kb_then (keep_refl _ _) ((Below.refl _ _).alloc (Nat.le_refl _) _)⟩
    obtain ⟨rb, hrb⟩ : ∃ n, n = w.heap.size := ⟨_, rfl⟩
    rw [← hrb] at HZ
    have HWZ := Aside0.mk hwz
    have HRB := Aside0.mk hrb
    have z0 := blk_cell HZ.out 0
    have z1 := blk_cell HZ.out 1
    have z2 := blk_cell HZ.out 2
    have z3 := blk_cell HZ.out 3
    have z4 := blk_cell HZ.out 4
    have z5 := blk_cell HZ.out 5
    have f0 := blk_frozen HZ.out 0
    have f1 := blk_frozen HZ.out 1
    have f2 := blk_frozen HZ.out 2
    have f3 := blk_frozen HZ.out 3
    have f4 := blk_frozen HZ.out 4
    have f5 := blk_frozen HZ.out 5
    clear hwz hrb
    go_enter Tryz.func8, Tryz.ntmps8
    go_upto_region 1 with fail
    rw [← HWZ.out, ← HRB.out]
    go_wp2_with fail
    obtain ⟨hF, hKF⟩ := zero_six HZ.out HK.out (Nat.le_of_eq HRB.out.symm)
    generalize ((((((wz.setCell ⟨rb, 0, none⟩ (.slice none 0 0)).setCell ⟨rb, 1, none⟩ (.string ⟨#[]⟩)).setCell ⟨rb, 2, none⟩ (.slice none 0 0)).setCell ⟨rb, 3, none⟩ (.string ⟨#[]⟩)).setCell ⟨rb, 4, none⟩ (.bool false)).setCell ⟨rb, 5, none⟩ (.int .i64 0)) = wf at hF hKF ⊢
    have y0 := blk_cell hF 0
    have y1 := blk_cell hF 1
    have y2 := blk_cell hF 2
    have y3 := blk_cell hF 3
    have y4 := blk_cell hF 4
    have y5 := blk_cell hF 5
    exact bodyPost_ret (v := .tuple #[.agg #[.slice none 0 0, .string ⟨#[]⟩, .slice none 0 0, .string ⟨#[]⟩, .bool false, .int .i64 0], .int .i64 0, .int .i64 2]) (by simp [results, Tryz.results8, go_sem, y0, y1, y2, y3, y4, y5]) rfl ⟨.slice none 0 0, .slice none 0 0, rfl, ⟨World.ownsRow_nil _ _ _ _, World.ownsRow_nil _ _ _ _⟩, hKF⟩
end Go.Proofs.YthhemephaabblaaGreatDoor.Hq
namespace Go.Proofs.YthhemephaabblaaGreatDoor.Hq
open Go.RowKit Go.Proofs.YthhemephaabblaaGreatDoorW.PrintWords Go.Proofs.YthhemephaabblaaGreatDoorW.PrintLast Go.Proofs.YthhemephaabblaaGreatDoorW.PrintMore Go.Proofs.YthhemephaabblaaGreatDoor Go.Proofs.YthhemephaabblaaGreatDoor.Q
set_option linter.unusedVariables false
set_option linter.unusedSimpArgs false
end Go.Proofs.YthhemephaabblaaGreatDoor.Hq
namespace Go.Proofs.YthhemephaabblaaGreatDoor.Hq
open Go.RowKit Go.Proofs.YthhemephaabblaaGreatDoorW.PrintWords Go.Proofs.YthhemephaabblaaGreatDoorW.PrintLast Go.Proofs.YthhemephaabblaaGreatDoorW.PrintMore Go.Proofs.YthhemephaabblaaGreatDoor Go.Proofs.YthhemephaabblaaGreatDoor.Q Go.Proofs.YthhemephaabblaaGreatDoor.R
set_option linter.unusedVariables false
set_option linter.unusedSimpArgs false
theorem may_of_print {q : Qry} (h : (printQ q).2 = 0) : MayP q := by
  refine mayP ?_
  unfold printQ at h
  cases hm : mayQ q with
  | true => rfl
  | false => rw [hm] at h; simp at h
theorem MayP.okQ {q : Qry} (h : MayP q) : okQ q :=
  ⟨fun c hc => by have := nm_len (h.colsB c hc); omega, by have := nm_len h.tab; omega, fun t ht => by obtain ⟨h1, _, _, h4⟩ := h.whB t ht; have := nm_len h1; omega, by have := ord_le h; omega, by have := h.cols; omega, by have := h.wh; omega⟩
end Go.Proofs.YthhemephaabblaaGreatDoor.Hq
namespace Go.Proofs.YthhemephaabblaaGreatDoor.Hq
open Go.RowKit Go.Proofs.YthhemephaabblaaGreatDoorW.PrintWords Go.Proofs.YthhemephaabblaaGreatDoorW.PrintLast Go.Proofs.YthhemephaabblaaGreatDoorW.PrintMore Go.Proofs.YthhemephaabblaaGreatDoor Go.Proofs.YthhemephaabblaaGreatDoor.Q Go.Proofs.YthhemephaabblaaGreatDoor.R
set_option linter.unusedVariables false
set_option linter.unusedSimpArgs false
theorem parse_len (s : List UInt8) : (parseQ s).1.cols.length ≤ 8 ∧ (parseQ s).1.wh.length ≤ 8 := by
  by_cases hf : (parseQ s).2.2 = 0
  · have h := may_of_print (parse_good s hf)
    exact ⟨h.cols, h.wh⟩
  · rw [parse_place s hf]; exact ⟨Nat.zero_le _, Nat.zero_le _⟩
theorem own_set {w : World} {base e size n k b c : Nat} {L : List Value} {u : Value} (h : w.ownsRow base e size (.slice (some ⟨b, 0, none⟩) n c) n L) : (w.setCell ⟨b, k, none⟩ u).ownsRow base e size (.slice (some ⟨b, 0, none⟩) n c) n (L.set k u) := by
  rcases h.2 with ⟨h0, _⟩ | ⟨g, cap, cur, he, hb, hh, hnc, hcm, hcs, htk⟩
  · cases h0
  · simp only [Value.slice.injEq, Option.some.injEq, Addr.mk.injEq, and_true, true_and] at he
    obtain ⟨rfl, rfl⟩ := he
    refine ⟨by rw [List.length_set]; exact h.1, .inr ⟨b, c, _, rfl, hb, blk_set hh k u, hnc, hcm, by simpa using hcs, ?_⟩⟩
    rw [← htk, Array.toList_setIfInBounds, List.take_set]
theorem grown_set (w : World) (b k : Nat) (u : Value) : w.grownBy (w.setCell ⟨b, k, none⟩ u) (some b) :=
  ⟨rfl, rfl, rfl, by simp, fun i hi hne => Below.heap_setCell _ _ _ _ (fun e => hne (by rw [show i = b from e]))⟩
theorem own_apart {w : World} {b1 b2 e1 e2 s1 s2 n1 n2 : Nat} {v1 v2 : Value} {L1 L2 : List Value} (h1 : w.ownsRow b1 e1 s1 v1 n1 L1) (h2 : w.ownsRow b2 e2 s2 v2 n2 L2) (he : e1 ≠ e2) : v1.ownBlock = none ∨ v1.ownBlock ≠ v2.ownBlock := by
  rcases h1.2 with ⟨rfl, _⟩ | ⟨g, cap, cur, rfl, hb, hh, _⟩
  · exact .inl rfl
  · refine .inr (fun e => ?_)
    rcases h2.2 with ⟨rfl, _⟩ | ⟨g2, cap2, cur2, rfl, hb2, hh2, _⟩
    · cases e
    · have e2 : g = g2 := Option.some.inj e
      subst e2
      rw [hh] at hh2
      cases hh2
      exact he rfl
structure QS (B1 B2 : Nat) (w : World) (pb qb rb : Nat) (p : Qry) (v5 v7 x5 x7 y5 y7 : Value) (W : World) : Prop where
  zp : W.heap[pb]? = some (.cells #[v5, .string (strB p.tab), v7, .string (strB p.ord), .bool p.down, .int .i64 p.lim] 25 (0, 0))
  zq : W.heap[qb]? = some (.cells #[x5, .string (strB p.tab), x7, .string (strB p.ord), .bool p.down, .int .i64 p.lim] 31 (0, 0))
  zr : W.heap[rb]? = some (.cells #[y5, .string (strB p.tab), y7, .string (strB p.ord), .bool p.down, .int .i64 p.lim] 25 (0, 0))
  o5 : ∃ L, W.ownsRow B1 9 1 v5 p.cols.length L
  o7 : ∃ L, W.ownsRow B1 37 3 v7 p.wh.length L
  s5 : Sr B2 W x5 p.cols
  s7 : Te B2 W x7 p.wh
  a5 : Sr B2 W y5 p.cols
  a7 : Tr B2 W y7 p.wh
  bl : Below w.heap.size w W
structure QB (B1 B2 : Nat) (w : World) (pb qb rb : Nat) (v5 v7 : Value) : Prop where
  b1 : w.heap.size ≤ B1
  b2 : pb < B2
  b3 : B2 ≤ qb
  b4 : B2 ≤ rb
  k5 : ∀ k, v5.ownBlock = some k → B1 ≤ k ∧ k < pb
  k7 : ∀ k, v7.ownBlock = some k → B1 ≤ k ∧ k < pb
section
variable {B1 B2 : Nat} {w : World} {pb qb rb : Nat} {p : Qry} {v5 v7 x5 x7 y5 y7 : Value} {W W1 : World}
theorem own_base_far {base e size n : Nat} {v : Value} {L : List Value} {row : Option Nat} (h : W.ownsRow base e size v n L) (hG : W.grownBy W1 row) (hr : ∀ k, row = some k → k < base) : W1.ownsRow base e size v n L := by
  refine World.ownsRow.kept h hG ?_
  by_cases hn : v.ownBlock = none
  · exact .inl hn
  · refine .inr (fun e => ?_)
    cases hv : v.ownBlock with
    | none => exact hn hv
    | some k =>
      have h1 := own_base h k hv
      have h2 := hr k (by rw [← e, hv])
      omega
theorem QS.grown {row : Option Nat} (D : QB B1 B2 w pb qb rb v5 v7) (h : QS B1 B2 w pb qb rb p v5 v7 x5 x7 y5 y7 W) (hG : W.grownBy W1 row) (hr : ∀ k, row = some k → B1 ≤ k ∧ k < pb) (h5 : ∃ L, W1.ownsRow B1 9 1 v5 p.cols.length L) (h7 : ∃ L, W1.ownsRow B1 37 3 v7 p.wh.length L) : QS B1 B2 w pb qb rb p v5 v7 x5 x7 y5 y7 W1 := by
  have d1 := D.b1; have d2 := D.b2; have d3 := D.b3; have d4 := D.b4
  have hb : ∀ b o, (b = pb ∨ B2 ≤ b) → W.heap[b]? = some o → W1.heap[b]? = some o := fun b o hb ho => (hG.block b (blk_lt ho) (fun e => by have := hr b e.symm; omega)).trans ho
  have hf : ∀ k, row = some k → k < B2 := fun k hk => by have := hr k hk; omega
  exact ⟨hb _ _ (.inl rfl) h.zp, hb _ _ (.inr d3) h.zq, hb _ _ (.inr d4) h.zr, h5, h7, own_base_far h.s5 hG hf, own_base_far h.s7 hG hf, own_base_far h.a5 hG hf, own_base_far h.a7 hG hf, h.bl.trans ⟨hG.os, hG.tape, hG.output, hG.size, fun k hk => hG.block k (Nat.lt_of_lt_of_le hk h.bl.size) (fun e => by have := hr k e.symm; omega)⟩⟩
theorem QS.ext (h : QS B1 B2 w pb qb rb p v5 v7 x5 x7 y5 y7 W) (hE : Ext W W1) : QS B1 B2 w pb qb rb p v5 v7 x5 x7 y5 y7 W1 := by
  obtain ⟨L5, h5⟩ := h.o5
  obtain ⟨L7, h7⟩ := h.o7
  exact ⟨heap_below h.zp hE, heap_below h.zq hE, heap_below h.zr hE, ⟨L5, own_ext h5 hE⟩, ⟨L7, own_ext h7 hE⟩, h.s5.ext hE, h.s7.ext hE, h.a5.ext hE, h.a7.ext hE, h.bl.trans (hE.mono h.bl.size)⟩
theorem QS.set5 {b c k : Nat} {u : Value} (D : QB B1 B2 w pb qb rb v5 v7) (h : QS B1 B2 w pb qb rb p v5 v7 x5 x7 y5 y7 W) (hv : v5 = .slice (some ⟨b, 0, none⟩) p.cols.length c) : QS B1 B2 w pb qb rb p v5 v7 x5 x7 y5 y7 (W.setCell ⟨b, k, none⟩ u) := by
  obtain ⟨L5, h5⟩ := h.o5
  obtain ⟨L7, h7⟩ := h.o7
  refine h.grown D (grown_set W b k u) (fun i hi => D.k5 i (by rw [hv]; exact hi)) ⟨L5.set k u, by rw [hv] at h5 ⊢; exact own_set h5⟩ ⟨L7, ?_⟩
  refine World.ownsRow.kept h7 (grown_set W b k u) ?_
  have := own_apart h7 h5 (by decide)
  rw [hv] at this
  exact this
theorem QS.set7 {b c k : Nat} {u : Value} (D : QB B1 B2 w pb qb rb v5 v7) (h : QS B1 B2 w pb qb rb p v5 v7 x5 x7 y5 y7 W) (hv : v7 = .slice (some ⟨b, 0, none⟩) p.wh.length c) : QS B1 B2 w pb qb rb p v5 v7 x5 x7 y5 y7 (W.setCell ⟨b, k, none⟩ u) := by
  obtain ⟨L5, h5⟩ := h.o5
  obtain ⟨L7, h7⟩ := h.o7
  refine h.grown D (grown_set W b k u) (fun i hi => D.k7 i (by rw [hv]; exact hi)) ⟨L5, ?_⟩ ⟨L7.set k u, by rw [hv] at h7 ⊢; exact own_set h7⟩
  refine World.ownsRow.kept h5 (grown_set W b k u) ?_
  have := own_apart h5 h7 (by decide)
  rw [hv] at this
  exact this
theorem QS.app5 (D : QB B1 B2 w pb qb rb v5 v7) (h : QS B1 B2 w pb qb rb p v5 v7 x5 x7 y5 y7 W) (hB : B1 ≤ W.heap.size) (hl : p.cols.length ≤ 8) (m : ByteArray) :
    ∃ v1 w1, (Builtin.append_ #[22, 22] 22 #[v5, .slice (some ⟨W.heap.size, 0, none⟩) 2 2]).run Tryz.prog (W.alloc (.cells #[.string m, .string m] 9)) = .ok v1 w1 ∧ QS B1 B2 w pb qb rb p v5 v7 x5 x7 y5 y7 w1 := by
  have hE : Ext W (W.alloc (.cells #[.string m, .string m] 9)) := (Ext.refl W).alloc _
  have hq := h.ext hE
  obtain ⟨L5, h5⟩ := hq.o5
  obtain ⟨L7, h7⟩ := hq.o7
  obtain ⟨i0, hi, hzz⟩ := Option.map_eq_some_iff.1 Hq.info9
  simp only [Prod.mk.injEq] at hzz
  obtain ⟨hz0, hz1, hz2⟩ := hzz
  obtain ⟨v1, w1, hr, _, hg, hold⟩ := own_app2 (P := Tryz.prog) 22 22 9 i0 (.string ⟨#[]⟩) 1 16 Tryz.underlying22 hi hz0 hz1 hz2 rfl (by decide) (by decide) h5 (some ⟨W.heap.size, 0, none⟩) 2 2 [.string m, .string m] rfl (fun _ => ⟨_, rfl, World.news_of_block (cs := #[.string m, .string m]) (t := 9) (fr := (0, 0)) (heap_alloc_new W _)⟩) (by intro u hu; simp only [List.mem_cons, List.not_mem_nil, or_false] at hu; rcases hu with rfl | rfl <;> rfl) (by omega) (by simp; omega)
  exact ⟨v1, w1, hr, hq.grown D hg D.k5 ⟨L5, hold _ _ _ (.inl (Nat.le_refl _)) h5⟩ ⟨L7, World.ownsRow.kept h7 hg (own_apart h7 h5 (by decide))⟩⟩
theorem QS.app7 (D : QB B1 B2 w pb qb rb v5 v7) (h : QS B1 B2 w pb qb rb p v5 v7 x5 x7 y5 y7 W) (hB : B1 ≤ W.heap.size) (hl : p.wh.length ≤ 8) (m1 m2 m3 : ByteArray) (k1 k2 : Int) :
    ∃ v1 w1, (Builtin.append_ #[23, 23] 23 #[v7, .slice (some ⟨W.heap.size, 0, none⟩) 2 2]).run Tryz.prog (W.alloc (.cells #[.string m1, .int .i64 k1, .string m1, .string m1, .int .i64 k2, .string m1] 37)) = .ok v1 w1 ∧ QS B1 B2 w pb qb rb p v5 v7 x5 x7 y5 y7 w1 := by
  have hE : Ext W (W.alloc (.cells #[.string m1, .int .i64 k1, .string m1, .string m1, .int .i64 k2, .string m1] 37)) := (Ext.refl W).alloc _
  have hq := h.ext hE
  obtain ⟨L5, h5⟩ := hq.o5
  obtain ⟨L7, h7⟩ := hq.o7
  obtain ⟨i0, hi, hzz⟩ := Option.map_eq_some_iff.1 info37
  simp only [Prod.mk.injEq] at hzz
  obtain ⟨hz0, hz1, hz2⟩ := hzz
  obtain ⟨v1, w1, hr, _, hg, hold⟩ := own_app2 (P := Tryz.prog) 23 23 37 i0 _ 3 40 Tryz.underlying23 hi hz0 hz1 hz2 rfl (by decide) (by decide) h7 (some ⟨W.heap.size, 0, none⟩) 2 2 [.string m1, .int .i64 k1, .string m1, .string m1, .int .i64 k2, .string m1] rfl (fun _ => ⟨_, rfl, World.news_of_block (cs := #[.string m1, .int .i64 k1, .string m1, .string m1, .int .i64 k2, .string m1]) (t := 37) (fr := (0, 0)) (heap_alloc_new W _)⟩) (by intro u hu; simp only [List.mem_cons, List.not_mem_nil, or_false] at hu; rcases hu with rfl | rfl | rfl | rfl | rfl | rfl <;> rfl) (by omega) (by simp; omega)
  exact ⟨v1, w1, hr, hq.grown D hg D.k7 ⟨L5, World.ownsRow.kept h5 hg (own_apart h5 h7 (by decide))⟩ ⟨L7, hold _ _ _ (.inl (Nat.le_refl _)) h7⟩⟩
theorem own_spot {base e size n c : Nat} {A : Option Addr} {L : List Value} (h : W.ownsRow base e size (.slice A n c) n L) (hn : 0 < n) : ∃ b, A = some ⟨b, 0, none⟩ ∧ ∀ k, k < n * size → (∃ u, W.cell? ⟨b, k, none⟩ = some u) ∧ W.frozen? ⟨b, k, none⟩ = false := by
  rcases h.2 with ⟨_, h0⟩ | ⟨g, cap, cur, he, hb, hh, hnc, hcm, hcs, htk⟩
  · omega
  · simp only [Value.slice.injEq] at he
    obtain ⟨rfl, _, rfl⟩ := he
    refine ⟨g, rfl, fun k hk => ⟨?_, blk_frozen hh k⟩⟩
    have hl : k < cur.size := by rw [hcs]; exact Nat.lt_of_lt_of_le hk (Nat.mul_le_mul_right _ hnc)
    exact ⟨cur[k], (blk_cell hh k).trans (by simp [hl])⟩
theorem QS.same {D5 D7 F5 F7 : Option Addr} {e5 e7 f5 f7 : Nat} (h : QS B1 B2 w pb qb rb p v5 v7 (.slice D5 p.cols.length e5) (.slice D7 p.wh.length e7) (.slice F5 p.cols.length f5) (.slice F7 p.wh.length f7) W) (hl5 : p.cols.length ≤ 8) (hl7 : p.wh.length ≤ 8) :
    Calls Tryz.prog 10 #[.agg #[.slice F5 p.cols.length f5, .string (strB p.tab), .slice F7 p.wh.length f7, .string (strB p.ord), .bool p.down, .int .i64 p.lim], .agg #[.slice D5 p.cols.length e5, .string (strB p.tab), .slice D7 p.wh.length e7, .string (strB p.ord), .bool p.down, .int .i64 p.lim]] W fun e w' => e = .returned (.bool true) ∧ Ext W w' := by
  obtain ⟨_, _, e1, h1, g1⟩ := sr_C h.a5 (by omega)
  obtain ⟨_, _, e2, h2, g2⟩ := tr_C h.a7 (by omega)
  obtain ⟨_, _, e3, h3, g3⟩ := sr_C h.s5 (by omega)
  obtain ⟨_, _, e4, h4, g4⟩ := te_C h.s7 (by omega)
  simp only [Value.slice.injEq] at e1 e2 e3 e4
  obtain ⟨rfl, _, rfl⟩ := e1
  obtain ⟨rfl, _, rfl⟩ := e2
  obtain ⟨rfl, _, rfl⟩ := e3
  obtain ⟨rfl, _, rfl⟩ := e4
  exact same_calls p F5 f5 F7 f7 D5 e5 D7 e7 W g1 h1 g2 h2 g3 h3 g4 h4 (by omega) (by omega)
end
set_option maxRecDepth 100000 in
set_option maxHeartbeats 3200000 in
theorem queryParses_calls (s : List UInt8) (w : World) (hG : Glob2 w) (hs : s.length ≤ 1000000000) :
    Calls Tryz.prog 3 #[.string (strB s)] w fun e w' => e = .returned (.bool true) ∧ Ext w w' := by
  have HG := Aside0.mk hG
  clear hG
  have hpl := parse_len s
  have hP : ∀ W, Ext w W → Calls Tryz.prog 7 #[.string (strB s)] W (ParP W (parseQ s)) := fun W hW => parse_calls s W (Glob.of_below HG.out.tab hW) (by omega)
  have hD : ∀ W, Ext w W → Calls Tryz.prog 8 #[.string (strB s)] W (DPa W (parseQ s)) := fun W hW => rparse_calls s W ⟨Glob.of_below HG.out.tab hW, by obtain ⟨tp, q, h⟩ := HG.out.syn; exact ⟨tp, q, var_keep h (kb_then (keep_refl w w.heap.size) hW)⟩⟩ (by omega)
  have HKN : Aside0 (∀ W, Ext w W → Calls Tryz.prog 11 #[] W (fun e w' => e = .returned (.bool true) ∧ Ext W w')) := ⟨fun W hW => known_calls W (Glob.of_below HG.out.tab hW)⟩
  rcases hX : parseQ s with ⟨p, at_, f⟩
  rw [hX] at hP hD hpl
  obtain ⟨hc8, hw8⟩ : p.cols.length ≤ 8 ∧ p.wh.length ≤ 8 := hpl
  have HP := Aside0.mk hP
  have HD := Aside0.mk hD
  clear hP hD hX
  go_enter Tryz.func3, Tryz.ntmps3
  go_upto_region 2 with (go_at_call 7; (with_reducible refine (HP.out _ (Ext.refl w)).mono ?_); rintro e w1 ⟨v5, v7, rfl, ⟨hS5, hT7⟩, hB1⟩; have HX := Aside0.mk (show Ext w w1 from hB1); unfold qval; obtain ⟨A5, c5, rfl, hc5⟩ := own_form hS5; obtain ⟨A7, c7, rfl, hc7⟩ := own_form hT7; have HS5 := Aside0.mk hS5; have HT7 := Aside0.mk hT7; clear hS5 hT7 hB1)
  obtain ⟨w2, hw2⟩ : ∃ W, W = w1.alloc (.cells #[.slice A5 p.cols.length c5, .string (strB p.tab), .slice A7 p.wh.length c7, .string (strB p.ord), .bool p.down, .int .i64 p.lim] 25) := ⟨_, rfl⟩
  have hEw2 : Ext w1 w2 := by rw [hw2]; exact (Ext.refl _).alloc _
  have hZw2 : w2.heap[w1.heap.size]? = some (.cells #[.slice A5 p.cols.length c5, .string (strB p.tab), .slice A7 p.wh.length c7, .string (strB p.ord), .bool p.down, .int .i64 p.lim] 25 (0, 0)) := by rw [hw2]; exact heap_alloc_new _ _
  obtain ⟨pb, hpb⟩ : ∃ n, n = w1.heap.size := ⟨_, rfl⟩
  rw [← hpb] at hZw2
  rw [← hw2, ← hpb]
  have HX := Aside0.mk (HX.out.trans hEw2)
  have HE2 := Aside0.mk hEw2
  have HZ2 := Aside0.mk hZw2
  have HPB := Aside0.mk hpb
  have HW2 := Aside0.mk (show w2.heap.size = pb + 1 by rw [hw2, hpb]; simp)
  clear hw2 hpb hEw2 hZw2
  go_upto_region 3 with (go_at_call 8; (with_reducible refine (HD.out _ HX.out).mono ?_); rintro e w3 ⟨x5, x7, rfl, ⟨hS5, hT7⟩, hK⟩; have hB3 := hK.below; have HX := Aside0.mk (HX.out.trans hB3); obtain ⟨D5, e5, rfl, hd5⟩ := own_form hS5; obtain ⟨D7, e7, rfl, hd7⟩ := own_form hT7; have HX5 := Aside0.mk hS5; have HX7 := Aside0.mk hT7; have HE3 := Aside0.mk (show Ext w2 w3 from hB3); unfold qval; clear hS5 hT7 hK hB3)
  obtain ⟨w4, hw4⟩ : ∃ W, W = w3.alloc (.cells #[.slice D5 p.cols.length e5, .string (strB p.tab), .slice D7 p.wh.length e7, .string (strB p.ord), .bool p.down, .int .i64 p.lim] 31) := ⟨_, rfl⟩
  have hEw4 : Ext w3 w4 := by rw [hw4]; exact (Ext.refl _).alloc _
  have hZw4 : w4.heap[w3.heap.size]? = some (.cells #[.slice D5 p.cols.length e5, .string (strB p.tab), .slice D7 p.wh.length e7, .string (strB p.ord), .bool p.down, .int .i64 p.lim] 31 (0, 0)) := by rw [hw4]; exact heap_alloc_new _ _
  obtain ⟨qb, hqb⟩ : ∃ n, n = w3.heap.size := ⟨_, rfl⟩
  rw [← hqb] at hZw4
  rw [← hw4, ← hqb]
  have HX := Aside0.mk (HX.out.trans hEw4)
  have HQB := Aside0.mk hqb
  have HX5 := Aside0.mk (HX5.out.ext hEw4)
  have HX7 := Aside0.mk (HX7.out.ext hEw4)
  have HY5 := Aside0.mk (HS5.out.ext (HE2.out.trans (HE3.out.trans hEw4)))
  have HY7 := Aside0.mk (HT7.out.ext (HE2.out.trans (HE3.out.trans hEw4)))
  have HZQ := Aside0.mk hZw4
  have HZP := Aside0.mk (heap_below HZ2.out (HE3.out.trans hEw4))
  have HE24 := Aside0.mk (HE3.out.trans hEw4)
  clear hw4 hqb hEw4 hZw4
  have hC5 : Kd.C Kd.string w4 A5 p.cols.length (p.cols.map strB) := by obtain ⟨A, c, e, _, h⟩ := sr_C HY5.out (by omega); simp only [Value.slice.injEq] at e; rw [e.1]; exact h
  have hC7 : Kd.C k37 w4 A7 p.wh.length (p.wh.map t37) := by obtain ⟨A, c, e, _, h⟩ := tr_C HY7.out (by omega); simp only [Value.slice.injEq] at e; rw [e.1]; exact h
  have hD5 : Kd.C Kd.string w4 D5 p.cols.length (p.cols.map strB) := by obtain ⟨A, c, e, _, h⟩ := sr_C HX5.out (by omega); simp only [Value.slice.injEq] at e; rw [e.1]; exact h
  have hD7 : Kd.C k70 w4 D7 p.wh.length (p.wh.map t70) := by obtain ⟨A, c, e, _, h⟩ := te_C HX7.out (by omega); simp only [Value.slice.injEq] at e; rw [e.1]; exact h
  have HSM : Aside0 (∀ W, Ext w4 W → Calls Tryz.prog 10 #[.agg #[.slice A5 p.cols.length c5, .string (strB p.tab), .slice A7 p.wh.length c7, .string (strB p.ord), .bool p.down, .int .i64 p.lim], .agg #[.slice D5 p.cols.length e5, .string (strB p.tab), .slice D7 p.wh.length e7, .string (strB p.ord), .bool p.down, .int .i64 p.lim]] W (fun e w' => e = .returned (.bool true) ∧ Ext W w')) := ⟨fun W hW => by
    exact same_calls p A5 c5 A7 c7 D5 e5 D7 e7 W (Kd.C_below hC5 hW) hc5 (Kd.C_below hC7 hW) hc7 (Kd.C_below hD5 hW) hd5 (Kd.C_below hD7 hW) hd7 (by omega) (by omega)⟩
  clear hC5 hC7 hD5 hD7
  have z0 := blk_cell HZP.out 0
  have z1 := blk_cell HZP.out 1
  have z2 := blk_cell HZP.out 2
  have z3 := blk_cell HZP.out 3
  have z4 := blk_cell HZP.out 4
  have z5 := blk_cell HZP.out 5
  have y0 := blk_cell HZQ.out 0
  have y1 := blk_cell HZQ.out 1
  have y2 := blk_cell HZQ.out 2
  have y3 := blk_cell HZQ.out 3
  have y4 := blk_cell HZQ.out 4
  have y5 := blk_cell HZQ.out 5
  have HY := Aside0.mk (Ext.refl w4)
  go_upto_region 5 with (first
    | (go_at_call 9; (with_reducible refine (num_calls f _).mono ?_); rintro e w5 ⟨rfl, hE5⟩; have HX := Aside0.mk (HX.out.trans hE5); have HY := Aside0.mk (HY.out.trans hE5); have y0 := cell_ext hE5 y0; have y1 := cell_ext hE5 y1; have y2 := cell_ext hE5 y2; have y3 := cell_ext hE5 y3; have y4 := cell_ext hE5 y4; have y5 := cell_ext hE5 y5; have z0 := cell_ext hE5 z0; have z1 := cell_ext hE5 z1; have z2 := cell_ext hE5 z2; have z3 := cell_ext hE5 z3; have z4 := cell_ext hE5 z4; have z5 := cell_ext hE5 z5; clear hE5)
    | (go_at_call 10; (with_reducible refine (HSM.out _ HY.out).mono ?_); rintro e w5 ⟨rfl, hE5⟩; have HX := Aside0.mk (HX.out.trans hE5); have HY := Aside0.mk (HY.out.trans hE5); clear hE5))
  have HW5 := Aside0.mk (Nat.le_trans HE24.out.size HY.out.size)
  go_upto_region 6 with (go_at_call 7; (with_reducible refine (HP.out _ HX.out).mono ?_); rintro e w6 ⟨y5, y7, rfl, ⟨hS5, hT7⟩, hB1⟩; have HX := Aside0.mk (HX.out.trans hB1); have HY := Aside0.mk (HY.out.trans hB1); unfold qval; obtain ⟨F5, f5, rfl, hf5⟩ := own_form hS5; obtain ⟨F7, f7, rfl, hf7⟩ := own_form hT7; have HF5 := Aside0.mk hS5; have HF7 := Aside0.mk hT7; clear hS5 hT7 hB1)
  obtain ⟨w7, hw7⟩ : ∃ W, W = w6.alloc (.cells #[.slice F5 p.cols.length f5, .string (strB p.tab), .slice F7 p.wh.length f7, .string (strB p.ord), .bool p.down, .int .i64 p.lim] 25) := ⟨_, rfl⟩
  have hEw7 : Ext w6 w7 := by rw [hw7]; exact (Ext.refl _).alloc _
  have hZw7 : w7.heap[w6.heap.size]? = some (.cells #[.slice F5 p.cols.length f5, .string (strB p.tab), .slice F7 p.wh.length f7, .string (strB p.ord), .bool p.down, .int .i64 p.lim] 25 (0, 0)) := by rw [hw7]; exact heap_alloc_new _ _
  obtain ⟨rb, hrb⟩ : ∃ n, n = w6.heap.size := ⟨_, rfl⟩
  rw [← hrb] at hZw7
  rw [← hw7, ← hrb]
  have HW6 := Aside0.mk HY.out.size
  have HX := Aside0.mk (HX.out.trans hEw7)
  have HY := Aside0.mk (HY.out.trans hEw7)
  have HF5 := Aside0.mk (HF5.out.ext hEw7)
  have HF7 := Aside0.mk (HF7.out.ext hEw7)
  have HZR := Aside0.mk hZw7
  have HRB := Aside0.mk hrb
  clear hw7 hrb hEw7 hZw7
  have DD : QB w.heap.size w2.heap.size w pb qb rb (.slice A5 p.cols.length c5) (.slice A7 p.wh.length c7) := by
    have h1 := HPB.out
    have h2 := HW2.out
    have h3 := HQB.out
    have h4 := HRB.out
    have h5 := HE3.out.size
    have h6 := HW6.out
    have h7 := HE24.out.size
    exact ⟨Nat.le_refl _, by omega, by omega, by omega, fun k hk => by have := own_lt HS5.out k hk; omega, fun k hk => by have := own_lt HT7.out k hk; omega⟩
  have hQ : QS w.heap.size w2.heap.size w pb qb rb p (.slice A5 p.cols.length c5) (.slice A7 p.wh.length c7) (.slice D5 p.cols.length e5) (.slice D7 p.wh.length e7) (.slice F5 p.cols.length f5) (.slice F7 p.wh.length f7) w7 := ⟨heap_below HZP.out HY.out, heap_below HZQ.out HY.out, HZR.out, ⟨_, HY5.out.ext HY.out⟩, ⟨_, HY7.out.ext HY.out⟩, HX5.out.ext HY.out, HX7.out.ext HY.out, own_less HF5.out HW5.out, own_less HF7.out HW5.out, HX.out⟩
  have HQ := Aside0.mk hQ
  have HDD := Aside0.mk DD
  have z0 := blk_cell hQ.zp 0
  clear hQ DD HX HY HF5 HF7 HZR HZP HZQ HY5 HY7 HX5 HX7 HW5 HW6 HE24 HE3 HE2 HZ2 HPB HW2 HQB HRB HSM HP HD HS5 HT7
  go_wp2_with fail
  clear z0
  go_loopw [50] (fun s50 W => ∃ j : Nat, j ≤ p.cols.length ∧ s50 = .int .i64 j ∧ QS w.heap.size w2.heap.size w pb qb rb p (.slice A5 p.cols.length c5) (.slice A7 p.wh.length c7) (.slice D5 p.cols.length e5) (.slice D7 p.wh.length e7) (.slice F5 p.cols.length f5) (.slice F7 p.wh.length f7) W) (fun v _ => p.cols.length - (intOf v).toNat)
  case atStart => exact ⟨0, by omega, rfl, HQ.out⟩
  case round =>
  clear HQ
  obtain ⟨wo, hwo⟩ : ∃ wo : World, wo = wr := ⟨_, rfl⟩
  subst hwo
  obtain ⟨j, hj, rfl, hQ⟩ := hrel
  have HQ := Aside0.mk hQ
  have z0 := blk_cell hQ.zp 0
  by_cases hlt : j < p.cols.length
  · have hb : (j : Int) < p.cols.length := by omega
    have hb0 : (0 : Int) ≤ (j : Int) := by omega
    obtain ⟨L5, h5⟩ := hQ.o5
    obtain ⟨b5, hA5, hspot⟩ := own_spot h5 (by omega)
    obtain ⟨⟨u, hu⟩, hfr⟩ := hspot j (by omega)
    obtain ⟨ad, had⟩ : ∃ ad : Addr, ad = ⟨b5, 0, none⟩ := ⟨_, rfl⟩
    have hadj : ad.add j = ⟨b5, j, none⟩ := by rw [had, addr_add, Nat.zero_add]
    have HAJ := Aside0.mk hadj
    have HA5 := Aside0.mk hA5
    rw [← hadj] at hu hfr
    rw [hA5, ← had] at z0
    clear hQ h5 hA5 hspot had hadj
    go_wp2_with fail
    go_roundw
    case rel =>
      refine ⟨j + 1, by omega, by go_num, ?_⟩
      rw [HAJ.out]
      exact HQ.out.set5 HDD.out (by rw [HA5.out])
    case measure => simp [intOf]; omega
  · obtain rfl : j = p.cols.length := by omega
    have hb : ¬ ((p.cols.length : Int) < p.cols.length) := by omega
    have z2 := blk_cell hQ.zp 2
    clear hQ
    go_wp2_with fail
    clear z0 z2 hb
    go_loopw [61] (fun s61 W => ∃ j : Nat, j ≤ p.wh.length ∧ s61 = .int .i64 j ∧ QS w.heap.size w2.heap.size w pb qb rb p (.slice A5 p.cols.length c5) (.slice A7 p.wh.length c7) (.slice D5 p.cols.length e5) (.slice D7 p.wh.length e7) (.slice F5 p.cols.length f5) (.slice F7 p.wh.length f7) W) (fun v _ => p.wh.length - (intOf v).toNat)
    case atStart => exact ⟨0, by omega, rfl, HQ.out⟩
    case round =>
    clear HQ
    obtain ⟨wp, hwp⟩ : ∃ wp : World, wp = wr := ⟨_, rfl⟩
    subst hwp
    obtain ⟨j, hj, rfl, hQ⟩ := hrel
    have HQ := Aside0.mk hQ
    by_cases hlt : j < p.wh.length
    · have hb : (j : Int) < p.wh.length := by omega
      have hb0 : (0 : Int) ≤ (j : Int) := by omega
      have z2 := blk_cell hQ.zp 2
      obtain ⟨L7, h7⟩ := hQ.o7
      obtain ⟨b7, hA7, hspot⟩ := own_spot h7 (by omega)
      obtain ⟨⟨u0, hu0⟩, hf0⟩ := hspot (j * 3) (by omega)
      have hQ1 := HQ.out.set7 (k := j * 3) (u := .string ⟨#[]⟩) HDD.out (by rw [hA7])
      have hQ2 := hQ1.set7 (k := j * 3 + 1) (u := .int .i64 99) HDD.out (by rw [hA7])
      have hQ3 := hQ2.set7 (k := j * 3 + 2) (u := .string ⟨#[]⟩) HDD.out (by rw [hA7])
      have HQ3 := Aside0.mk hQ3
      obtain ⟨L8, h8⟩ := hQ1.o7
      obtain ⟨b8, hA8, hspot8⟩ := own_spot h8 (by omega)
      obtain ⟨L9, h9⟩ := hQ2.o7
      obtain ⟨b9, hA9, hspot9⟩ := own_spot h9 (by omega)
      obtain rfl : b7 = b8 := by rw [hA7] at hA8; simpa using hA8
      obtain rfl : b7 = b9 := by rw [hA7] at hA9; simpa using hA9
      obtain ⟨⟨u1, hu1⟩, hf1⟩ := hspot8 (j * 3 + 1) (by omega)
      obtain ⟨⟨u2, hu2⟩, hf2⟩ := hspot9 (j * 3 + 2) (by omega)
      obtain ⟨ad, had⟩ : ∃ ad : Addr, ad = ⟨b7, 0, none⟩ := ⟨_, rfl⟩
      have hadj : ad.add (j * 3) = ⟨b7, j * 3, none⟩ := by rw [had, addr_add, Nat.zero_add]
      have g0 : wp.cell? (ad.add (j * 3)) = some u0 := by rw [hadj]; exact hu0
      have e0 : wp.frozen? (ad.add (j * 3)) = false := by rw [hadj]; exact hf0
      have g1 : (wp.setCell (ad.add (j * 3)) (.string ⟨#[]⟩)).cell? ⟨(ad.add (j * 3)).block, (ad.add (j * 3)).off + 1, none⟩ = some u1 := by rw [hadj]; exact hu1
      have e1 : (wp.setCell (ad.add (j * 3)) (.string ⟨#[]⟩)).frozen? ⟨(ad.add (j * 3)).block, (ad.add (j * 3)).off + 1, none⟩ = false := by rw [hadj]; exact hf1
      have g2 : ((wp.setCell (ad.add (j * 3)) (.string ⟨#[]⟩)).setCell ⟨(ad.add (j * 3)).block, (ad.add (j * 3)).off + 1, none⟩ (.int .i64 99)).cell? ⟨(ad.add (j * 3)).block, (ad.add (j * 3)).off + 2, none⟩ = some u2 := by rw [hadj]; exact hu2
      have e2 : ((wp.setCell (ad.add (j * 3)) (.string ⟨#[]⟩)).setCell ⟨(ad.add (j * 3)).block, (ad.add (j * 3)).off + 1, none⟩ (.int .i64 99)).frozen? ⟨(ad.add (j * 3)).block, (ad.add (j * 3)).off + 2, none⟩ = false := by rw [hadj]; exact hf2
      have HAJ := Aside0.mk hadj
      rw [hA7, ← had] at z2
      clear hQ h7 hA7 hspot had hadj hu0 hu1 hu2 hf0 hf1 hf2 hQ1 hQ2 hQ3 h8 h9 hA8 hA9 hspot8 hspot9
      go_wp2_with fail
      go_roundw
      case rel =>
        refine ⟨j + 1, by omega, by go_num, ?_⟩
        rw [HAJ.out]
        exact HQ3.out
      case measure => simp [intOf]; omega
    · obtain rfl : j = p.wh.length := by omega
      have hb : ¬ ((p.wh.length : Int) < p.wh.length) := by omega
      have z0 := blk_cell hQ.zp 0
      have HSZ := Aside0.mk hQ.bl.size
      clear hQ
      go_wp2_with (first
        | (at_builtin; refine wpL_append (F := fun _ W1 => QS w.heap.size w2.heap.size w pb qb rb p (.slice A5 p.cols.length c5) (.slice A7 p.wh.length c7) (.slice D5 p.cols.length e5) (.slice D7 p.wh.length e7) (.slice F5 p.cols.length f5) (.slice F7 p.wh.length f7) W1) ?hw ?hap ?_; (case hw => exact wantedFree rfl _); (case hap => simpa [Act.eval] using HQ.out.app5 HDD.out HSZ.out (by omega) ⟨#[109, 111, 114, 101]⟩); intro v8 w8 hq8; have z2 := blk_cell hq8.zp 2; have HQ8 := Aside0.mk hq8; have HSZ8 := Aside0.mk hq8.bl.size; clear hq8)
        | (at_builtin; refine wpL_append (F := fun _ W1 => QS w.heap.size w2.heap.size w pb qb rb p (.slice A5 p.cols.length c5) (.slice A7 p.wh.length c7) (.slice D5 p.cols.length e5) (.slice D7 p.wh.length e7) (.slice F5 p.cols.length f5) (.slice F7 p.wh.length f7) W1) ?hw2 ?hap2 ?_; (case hw2 => exact wantedFree rfl _); (case hap2 => simpa [Act.eval] using HQ8.out.app7 HDD.out HSZ8.out (by omega) ⟨#[]⟩ ⟨#[]⟩ ⟨#[]⟩ 98 97); intro v9 w9 hq9; have HX := Aside0.mk (show Ext w w9 from hq9.bl); have hsm := hq9.same (by omega) (by omega); have y0 := blk_cell hq9.zr 0; have x0 := blk_cell hq9.zq 0; have y1 := blk_cell hq9.zr 1; have x1 := blk_cell hq9.zq 1; have y2 := blk_cell hq9.zr 2; have x2 := blk_cell hq9.zq 2; have y3 := blk_cell hq9.zr 3; have x3 := blk_cell hq9.zq 3; have y4 := blk_cell hq9.zr 4; have x4 := blk_cell hq9.zq 4; have y5 := blk_cell hq9.zr 5; have x5 := blk_cell hq9.zq 5; clear hq9)
        | (go_at_call 10; (with_reducible refine hsm.mono ?_); rintro e w5 ⟨rfl, hE5⟩; have HX := Aside0.mk (HX.out.trans hE5); clear hE5)
        | (go_at_call 11; (with_reducible refine (HKN.out _ HX.out).mono ?_); rintro e w5 ⟨rfl, hE5⟩; have HX := Aside0.mk (HX.out.trans hE5); clear hE5))
      go_ret
      exact ⟨rfl, HX.out⟩
end Go.Proofs.YthhemephaabblaaGreatDoor.Hq
