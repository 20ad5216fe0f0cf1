
import Derived.Test.YthhemephaabblaaGreatDoorZDj
import Derived.Deep.LoopGhost
import Derived.Outline
import Derived.Laws.EntriesVeiled
import Derived.Laws.Rows
import Derived.Test.YthhemephaabblaaGreatDoorZDc
import Derived.Shelf.LaysC
import Derived.Shelf.Strconv.ErrVar
namespace Go.Proofs.YthhemephaabblaaGreatDoor.Hq
open Go.RowKit Go.Proofs.YthhemephaabblaaGreatDoorW.PrintWords Go.Proofs.YthhemephaabblaaGreatDoorW.PrintLast Go.Proofs.YthhemephaabblaaGreatDoorW.PrintMore Go.Proofs.YthhemephaabblaaGreatDoor Go.Proofs.YthhemephaabblaaGreatDoor.Q Go.Proofs.YthhemephaabblaaGreatDoor.R
set_option linter.unusedVariables false
set_option linter.unusedSimpArgs false
theorem ops_calls2 (w : World) : Calls Tryz.prog 30 #[] w fun e w' => ∃ bk o c, e = .returned (.slice (some ⟨bk, o, none⟩) 6 c) ∧ (∀ (j : Nat) x, opsL[j]? = some x → w'.cell? ⟨bk, o + j, none⟩ = some (sv x)) ∧ Ext w w' ∧ w.heap.size ≤ bk := by
 refine (query_operators.calls (opsL.map strB) w operators_f).mono ?_
 rintro e w' ⟨v, rfl, hR, hB⟩
 obtain ⟨A, c, rfl, hc, hC⟩ := Kd.R_reads hR
 obtain ⟨hn, bk, o, rfl, hbk, hcell⟩ := strC_cells hC (by decide)
 obtain ⟨inner, ho⟩ := Kd.R_own hR
 exact ⟨bk, o, c, rfl, hcell, hB, (own_lt ho bk rfl).1⟩
section
variable {w0 w wr : World} {g : Nat} {s : List UInt8} {L : List Tk} {v5 : Value} {tab : List UInt8} {v7 : Value} {ord : List UInt8} {down : Bool} {lim : Int} {acc : List Tst}
def TS (w0 w : World) (g : Nat) (s : List UInt8) (v5 : Value) (tab : List UInt8) (ord : List UInt8) (down : Bool) (lim : Int) (L : List Tk) (v7 : Value) (acc : List Tst) (wr : World) : Prop :=
 Rd w0 wr g s L v5 tab v7 ord down lim ∧ Tr w.heap.size wr v7 acc ∧ Below w0.heap.size w0 wr ∧ KeepBut w wr g none
theorem TS.rdp {w' : World} {L' : List Tk} {r : Value} {e : Ending} (h : TS w0 w g s v5 tab ord down lim L v7 acc wr) (hg : g < w.heap.size) (hp : RdP w0 wr g s r L' v5 tab v7 ord down lim e w') : e = .returned r ∧ TS w0 w g s v5 tab ord down lim L' v7 acc w' :=
 ⟨hp.1, hp.2.1, h.2.1.keep hp.2.2.2 hg, hp.2.2.1, h.2.2.2.trans hp.2.2.2 (.inl rfl)⟩
theorem TS.ext {w' : World} (h : TS w0 w g s v5 tab ord down lim L v7 acc wr) (hE : Ext wr w') : TS w0 w g s v5 tab ord down lim L v7 acc w' :=
 ⟨h.1.move (hE.block g h.1.lt), h.2.1.ext hE, below_step h.2.2.1 hE, keep_then h.2.2.2 (Below.mono hE h.2.2.2.1)⟩
theorem TS.set {b k : Nat} {u : Value} (h : TS w0 w g s v5 tab ord down lim L v7 acc wr) (hb : b ≠ g) (hn : w.heap.size ≤ b) (hr : some b ≠ v7.ownBlock) (hw0 : w0.heap.size ≤ w.heap.size) : TS w0 w g s v5 tab ord down lim L v7 acc (wr.setCell ⟨b, k, none⟩ u) := by
 obtain ⟨h1, h2, h3, h4⟩ := h
 refine ⟨h1.move (Below.heap_setCell _ _ _ _ (by simpa using Ne.symm hb)), ?_, h3.setCell (by show w0.heap.size ≤ b; omega) _, ?_⟩
 ·
  refine World.ownsRow.kept h2 (row := some b) ⟨rfl, rfl, rfl, by simp, fun i hi hne => ?_⟩ ?_
  ·
   exact Below.heap_setCell _ _ _ _ (fun e => hne (by rw [show i = b from e]))
  ·
   exact .inr (fun e => hr e.symm)
 ·
  exact ⟨by simpa using h4.1, fun i hi hne hx => (Below.heap_setCell _ _ _ _ (show i ≠ b by omega)).trans (h4.2 i hi hne hx)⟩
end
def TB (W : World) (tb : Nat) (c : List UInt8) (o : Int) (v : List UInt8) : Prop := W.heap[tb]? = some (.cells #[.string (strB c), .int .i64 o, .string (strB v)] 37 (0, 0))
def TJ (w0 w : World) (g : Nat) (s : List UInt8) (v5 : Value) (tab : List UInt8) (ord : List UInt8) (down : Bool) (lim : Int) (L : List Tk) (v7 : Value) (tb : Nat) (c : List UInt8) (o : Int) (V : List UInt8) (N B : Nat) (acc : List Tst) (W : World) : Prop :=
 Rd w0 W g s L v5 tab v7 ord down lim ∧ Below w0.heap.size w0 W ∧ KeepBut w W g none ∧ TB W tb c o V ∧ N ≤ W.heap.size ∧ Tr B W v7 acc
def TR (B N tb : Nat) (v7 : Value) (acc : List Tst) (i : Nat) (W W' : World) : Prop :=
 if i = 8 then ((∃ row, W.grownBy W' row ∧ ∀ k, row = some k → B ≤ k ∧ k < N ∧ k ≠ tb) ∧ (Tr B W v7 acc → Tr B W' v7 acc)) else Ext W W'
section
variable {B N tb : Nat} {v7 : Value} {acc : List Tst} {i : Nat} {W W' : World}
theorem TR.ne (h : i ≠ 8) (hR : TR B N tb v7 acc i W W') : Ext W W' := by unfold TR at hR; rw [if_neg h] at hR; exact hR
theorem TR.row (hR : TR B N tb v7 acc i W W') : ∃ row, W.grownBy W' row ∧ ∀ k, row = some k → B ≤ k ∧ k < N ∧ k ≠ tb := by
 by_cases h : i = 8
 ·
  unfold TR at hR; rw [if_pos h] at hR; exact hR.1
 ·
  have hE := hR.ne h
  exact ⟨none, ⟨hE.os, hE.tape, hE.output, hE.size, fun k hk _ => hE.block k hk⟩, fun k hk => by cases hk⟩
theorem TR.old (hR : TR B N tb v7 acc i W W') (ho : Tr B W v7 acc) : Tr B W' v7 acc := by
 by_cases h : i = 8
 ·
  unfold TR at hR; rw [if_pos h] at hR; exact hR.2 ho
 ·
  exact ho.ext (hR.ne h)
theorem TR.new {b : Nat} {o : Obj} (hR : TR B N tb v7 acc i W W') (hb : N ≤ b) (h : W.heap[b]? = some o) : W'.heap[b]? = some o := by
 obtain ⟨row, hg, hr⟩ := hR.row
 have hlt : b < W.heap.size := by
  by_cases hlt : b < W.heap.size
  ·
   exact hlt
  ·
   rw [Array.getElem?_eq_none (by omega)] at h; cases h
 rw [hg.block b hlt (fun e => by have := (hr b e.symm).2.1; omega)]
 exact h
theorem TR.refl (i : Nat) (W : World) : TR B N tb v7 acc i W W := by
 unfold TR
 split
 ·
  exact ⟨⟨none, ⟨rfl, rfl, rfl, Nat.le_refl _, fun _ _ _ => rfl⟩, fun k hk => by cases hk⟩, id⟩
 ·
  exact Ext.refl W
theorem TJ.rel {w0 w : World} {g : Nat} {s : List UInt8} {v5 : Value} {tab : List UInt8} {ord : List UInt8} {down : Bool} {lim : Int} {L : List Tk} {c : List UInt8} {o : Int} {V : List UInt8} (htb : tb ≠ g) (hg : g < w.heap.size) (hBw : B = w.heap.size) (hw0 : w0.heap.size ≤ w.heap.size) (hJ : TJ w0 w g s v5 tab ord down lim L v7 tb c o V N B acc W) (hR : TR B N tb v7 acc i W W') : TJ w0 w g s v5 tab ord down lim L v7 tb c o V N B acc W' := by
 obtain ⟨h1, h2, h3, h4, h5, h6⟩ := hJ
 obtain ⟨row, hgr, hr⟩ := hR.row
 have hold : ∀ k, k < B → W.heap.size ≤ k ∨ W'.heap[k]? = W.heap[k]? := by
  intro k hk
  by_cases hlt : k < W.heap.size
  ·
   exact .inr (hgr.block k hlt (fun e => by have := (hr k e.symm).1; omega))
  ·
   exact .inl (by omega)
 have hsz := h3.1
 refine ⟨h1.move ?_, ?_, ⟨Nat.le_trans hsz hgr.size, fun k hk hne hx => ?_⟩, ?_, Nat.le_trans h5 hgr.size, hR.old h6⟩
 ·
  rcases hold g (by omega) with h | h
  ·
   omega
  ·
   exact h
 ·
  refine h2.trans ⟨hgr.os, hgr.tape, hgr.output, hgr.size, fun k hk => ?_⟩
  rcases hold k (by omega) with h | h
  ·
   omega
  ·
   exact h
 ·
  rcases hold k (by omega) with h | h
  ·
   omega
  ·
   exact h.trans (h3.2 k hk hne hx)
 ·
  have hlt := blk_lt h4
  unfold TB at h4 ⊢
  rw [hgr.block tb hlt (fun e => (hr tb e.symm).2.2 rfl)]
  exact h4
end
theorem opF_succ (w : List UInt8) (j : Nat) : opF w (j + 1) = if opsL.getD j [] = w then j + 1 else opF w j := rfl
def TstP (w0 w : World) (g : Nat) (s : List UInt8) (o : Option (List Tst)) (L' : List Tk) (v5 : Value) (tab : List UInt8) (ord : List UInt8) (down : Bool) (lim : Int) (e : Ending) (w' : World) : Prop :=
 e = .returned (.bool o.isSome) ∧ (∃ v7, Rd w0 w' g s L' v5 tab v7 ord down lim ∧ ∀ ts, o = some ts → Tr w.heap.size w' v7 ts) ∧ Below w0.heap.size w0 w' ∧ KeepBut w w' g none
theorem TS.post {w0 w wr : World} {g : Nat} {s : List UInt8} {L : List Tk} {v5 : Value} {tab : List UInt8} {v7 : Value} {ord : List UInt8} {down : Bool} {lim : Int} {acc : List Tst} {o : Option (List Tst)} (h : TS w0 w g s v5 tab ord down lim L v7 acc wr) (ho : ∀ ts, o = some ts → ts = acc) : TstP w0 w g s o L v5 tab ord down lim (.returned (.bool o.isSome)) wr :=
 ⟨rfl, ⟨v7, h.1, fun ts e => by rw [ho ts e]; exact h.2.1⟩, h.2.2.1, h.2.2.2⟩
def TstI (w0 w : World) (g : Nat) (s : List UInt8) (L : List Tk) (v5 : Value) (tab : List UInt8) (ord : List UInt8) (down : Bool) (lim : Int) (n : Nat) (wr : World) : Prop :=
 ∃ acc L1 v7, acc.length + n = 8 ∧ TS w0 w g s v5 tab ord down lim L1 v7 acc wr ∧ whL n acc L1 = whL 8 [] L
set_option maxRecDepth 100000 in
set_option maxHeartbeats 3200000 in
theorem tests_rd (w0 w : World) (g : Nat) (s : List UInt8) (L : List Tk) (v5 : Value) (tab : List UInt8) (ord : List UInt8) (down : Bool) (lim : Int) (hs : s.length ≤ 1000000000000) (h : Rd w0 w g s L v5 tab (.slice none 0 0) ord down lim) (hB : Below w0.heap.size w0 w) :
  Calls Tryz.prog 41 #[.pointer (some ⟨g, 0, none⟩)] w (TstP w0 w g s (whL 8 [] L).1 (whL 8 [] L).2 v5 tab ord down lim) := by
 have hg := h.lt
 have hw0 : w0.heap.size ≤ w.heap.size := hB.size
 have HS0 : Aside0 (TS w0 w g s v5 tab ord down lim L (.slice none 0 0) [] w) := ⟨⟨h, World.ownsRow_nil _ _ _ _, hB, KeepBut.of_below (Below.refl _ _) g none⟩⟩
 clear h hB
 go_enter Tryz.func41, Tryz.ntmps41
 go_wp2_with fail
 go_loopg [3] 8 (fun kq s3 wr => TstI w0 w g s L v5 tab ord down lim kq wr)
 case atStart => exact ⟨[], L, .slice none 0 0, rfl, HS0.out, rfl⟩
 case round =>
 clear HS0
 obtain ⟨wo, hwo⟩ : ∃ wo : World, wo = wr := ⟨_, rfl⟩
 subst hwo
 obtain ⟨acc, L2, v7, hn, hS, he⟩ := hrel
 have HE := Aside0.mk he
 have HS := Aside0.mk hS
 have c7 := hS.1.c7.1
 obtain ⟨A7, cap7, rfl, hc7⟩ := own_form hS.2.1
 clear he hS
 cases gk with
 | zero =>
  have hl : acc.length = 8 := by omega
  rw [hl] at c7
  go_wp2_with fail
  go_ret
  rw [← HE.out]
  exact HS.out.post (fun ts h => by cases h)
 | succ k =>
  have hl : (acc.length : Int) < 8 := by omega
  have hl2 : acc.length < 8 := by omega
  rcases hnm : nameL L2 with ⟨o, L3⟩
  have hcn := name_p hs HS.out.1 HS.out.2.2.1 hnm
  have HNM := Aside0.mk hnm
  have HG := Aside0.mk hg
  clear hnm
  cases o with
  | none =>
   go_wp2_with (go_at_call 61; (with_reducible refine hcn.mono ?_); intro e w2 hp; obtain ⟨rfl, hS2⟩ := HS.out.rdp HG.out hp; have HS2 := Aside0.mk hS2; clear hp hS2)
   go_ret
   rw [← HE.out, show whL (k + 1) acc L2 = (none, L3) by rw [whL]; unfold testL; rw [HNM.out]]
   exact HS2.out.post (fun ts h => by cases h)
  | some c =>
   by_cases hk5 : (hdT L3).kind = 5
   ·
    have hkb : (((hdT L3).kind : Int) != 5) = false := by rw [hk5]; rfl
    have HK5 := Aside0.mk hk5
    clear hk5
    go_upto_region 6 with (go_at_call 61; (with_reducible refine hcn.mono ?_); intro e w2 hp; obtain ⟨rfl, hS2⟩ := HS.out.rdp HG.out hp; have HS2 := Aside0.mk hS2; have k2 := hS2.1.c23.1; clear hp hS2)
    have hownb := own_lt HS2.out.2.1
    obtain ⟨tb, htb⟩ : ∃ n, n = w2.heap.size := ⟨_, rfl⟩
    have HTbg := Aside0.mk (show tb ≠ g ∧ w.heap.size ≤ tb ∧ some tb ≠ (Value.slice A7 acc.length cap7).ownBlock by
     refine ⟨by have := HS2.out.1.lt; omega, by have := HS2.out.2.2.2.1; omega, fun e => ?_⟩
     have := (hownb tb e.symm).2
     omega)
    have hS3 := HS2.out.ext ((Ext.refl _).alloc (.cells #[.string (strB c), .int .i64 0, .string ⟨#[]⟩] 37))
    have hT3 : TB (w2.alloc (.cells #[.string (strB c), .int .i64 0, .string ⟨#[]⟩] 37)) tb c 0 [] := by rw [htb]; exact heap_alloc_new _ _
    have hz3 : (w2.alloc (.cells #[.string (strB c), .int .i64 0, .string ⟨#[]⟩] 37)).heap.size = tb + 1 := by rw [htb]; simp
    rw [← htb]
    generalize (w2.alloc (.cells #[.string (strB c), .int .i64 0, .string ⟨#[]⟩] 37)) = w3 at hS3 hT3 hz3 ⊢
    have HS3 := Aside0.mk hS3
    have HT3 := Aside0.mk hT3
    have HZ3 := Aside0.mk hz3
    obtain ⟨X, hX⟩ : ∃ x, x = (hdT L3).says := ⟨_, rfl⟩
    have HX := Aside0.mk hX
    clear hS3 hT3 hz3 hownb htb hX HS2 k2 hkb
    go_wp2_with (go_at_call 30; (with_reducible refine (ops_calls2 _).mono ?_); rintro e w4 ⟨bk, o4, c4, rfl, hoc, hE4, hbk⟩; have HS4 := Aside0.mk (HS3.out.ext hE4); have HT4 := Aside0.mk (show TB w4 tb c 0 [] from heap_below HT3.out hE4); have HOC := Aside0.mk hoc; have HBK := Aside0.mk (show bk ≠ tb by have := HZ3.out; omega); clear hoc hE4 hbk)
    go_loopw [34] (fun s34 W => ∃ j : Nat, j ≤ 6 ∧ s34 = .int .i64 j ∧ TS w0 w g s v5 tab ord down lim L3 (.slice A7 acc.length cap7) acc W ∧ TB W tb c (opF X j : Nat) [] ∧ ∀ (j : Nat) x, opsL[j]? = some x → W.cell? ⟨bk, o4 + j, none⟩ = some (sv x)) (fun v _ => 6 - (intOf v).toNat)
    case atStart => exact ⟨0, by omega, rfl, HS4.out, HT4.out, HOC.out⟩
    case round =>
    obtain ⟨j, hj, rfl, hSj, hTj, hOj⟩ := hrel
    have HSj := Aside0.mk hSj
    have HTj := Aside0.mk hTj
    have HOj := Aside0.mk hOj
    have k3 := hSj.1.c23.2.1
    have t1 := blk_cell hTj 1
    have ft1 := blk_frozen hTj 1
    rw [← HX.out] at k3
    clear hSj hTj hOj HS3 HT3 HS4 HT4 HOC
    by_cases hlt : j < 6
    ·
     have hb : (j : Int) < 6 := by omega
     have hb0 : (0 : Int) ≤ j := by omega
     obtain ⟨y, hy⟩ : ∃ y, opsL[j]? = some y := ⟨opsL[j]'hlt, List.getElem?_eq_getElem hlt⟩
     have hcell := HOj.out j y hy
     unfold sv at hcell
     have HY := Aside0.mk (show opsL.getD j [] = y by rw [List.getD_eq_getElem?_getD, hy]; rfl)
     clear hy
     go_upto_if 45 with fail
     obtain ⟨bq, hbq⟩ : ∃ b, b = ((strB y).toList == (strB X).toList) := ⟨_, rfl⟩
     rw [← hbq]
     have HQ := Aside0.mk (show bq = decide (y = X) by rw [hbq, toList_strB, toList_strB]; rw [Bool.eq_iff_iff]; simp)
     clear hbq
     cases bq with
     | true =>
      have hyX : y = X := of_decide_eq_true HQ.out.symm
      have HYX := Aside0.mk hyX
      clear hyX
      go_wp2_with fail
      go_roundw
      case rel =>
       refine ⟨j + 1, by omega, by go_num, HSj.out.set HTbg.out.1 HTbg.out.2.1 HTbg.out.2.2 hw0, ?_, fun i x hx => ?_⟩
       ·
        have h1 := blk_set HTj.out 1 (.int .i64 ((j : Int) + 1))
        unfold TB
        rw [show opF X (j + 1) = j + 1 by rw [opF_succ, if_pos (by rw [HY.out]; exact HYX.out)]]
        simpa using h1
       ·
        have h1 := HOj.out i x hx
        rw [World.cell?_of_block (w := wr) (Below.heap_setCell _ _ _ _ (show bk ≠ tb from HBK.out))]
        exact h1
      case measure => simp [intOf]; omega
     | false =>
      have hyX : ¬ y = X := of_decide_eq_false HQ.out.symm
      have HYX := Aside0.mk hyX
      clear hyX
      go_wp2_with fail
      go_roundw
      case rel =>
       refine ⟨j + 1, by omega, by go_num, HSj.out, ?_, HOj.out⟩
       rw [show opF X (j + 1) = opF X j by rw [opF_succ, if_neg (by rw [HY.out]; exact HYX.out)]]
       exact HTj.out
      case measure => simp [intOf]; omega
    ·
     obtain rfl : j = 6 := by omega
     have hnl : ¬ ((6 : Int) < 6) := by omega
     have hop := opF_le X 6
     have hoN : opF X 6 = opN X := rfl
     rw [hoN] at t1 hop HTj
     clear hoN
     by_cases h0 : opN X = 0
     ·
      have hb0 : (((opN X : Nat) : Int) == 0) = true := by rw [h0]; rfl
      have H0 := Aside0.mk h0
      clear h0
      go_wp2_with fail
      go_ret
      rw [← HE.out, show whL (k + 1) acc L2 = (none, L3) by rw [whL]; unfold testL; rw [HNM.out]; simp only; rw [if_neg (fun h => h.2 (by rw [← HX.out]; exact H0.out))]]
      exact HSj.out.post (fun ts h => by cases h)
     ·
      have hb0 : (((opN X : Nat) : Int) == 0) = false := by rw [beq_eq_false_iff_ne]; omega
      have H0 := Aside0.mk h0
      clear h0
      have hcs := step_p hs HSj.out.1 HSj.out.2.2.1 (by rw [HK5.out]; omega)
      have hkL : (hdT L3).kind = 5 ∧ opN (hdT L3).says ≠ 0 := ⟨HK5.out, by rw [← HX.out]; exact H0.out⟩
      have HKL := Aside0.mk hkL
      clear hkL
      by_cases hk4 : (hdT L3.tail).kind = 4
      ·
       have hkb : (((hdT L3.tail).kind : Int) != 4) = false := by rw [hk4]; rfl
       have HK4 := Aside0.mk hk4
       clear hk4 t1
       have hTj := HTj.out
       obtain ⟨V, hV⟩ : ∃ x, x = (hdT L3.tail).says := ⟨_, rfl⟩
       have HV := Aside0.mk hV
       clear hV
       have t1 := blk_cell hTj 1
       clear hTj
       go_upto_region 18 with (go_at_call 44; (with_reducible refine hcs.mono ?_); intro e w6 hp; obtain ⟨rfl, hS6⟩ := HSj.out.rdp HG.out hp; have hT6 : TB w6 tb c (opN X : Nat) [] := (hp.2.2.2.2 tb (blk_lt HTj.out) HTbg.out.1 (by simp)).trans HTj.out; have HS6 := Aside0.mk hS6; have HT6 := Aside0.mk hT6; have k62 := hS6.1.c23.1; have k63 := hS6.1.c23.2.1; have t62 := blk_cell hT6 2; have ft62 := blk_frozen hT6 2; rw [← HV.out] at k63; clear hp hS6 hT6)
       have hT7 : TB (w6.setCell ⟨tb, 2, none⟩ (.string (strB V))) tb c (opN X : Nat) V := by
        have h1 := blk_set HT6.out 2 (.string (strB V))
        unfold TB
        simpa using h1
       have hS7 := HS6.out.set (k := 2) (u := .string (strB V)) HTbg.out.1 HTbg.out.2.1 HTbg.out.2.2 hw0
       generalize (w6.setCell ⟨tb, 2, none⟩ (.string (strB V))) = w7 at hT7 hS7 ⊢
       have HS7 := Aside0.mk hS7
       have HT7 := Aside0.mk hT7
       have hcs2 := step_p hs hS7.1 hS7.2.2.1 (by rw [HK4.out]; omega)
       clear hS7 hT7 HS6 HT6 k62 k63 t62 ft62 hcs t1 ft1 k3
       go_upto_region 19 with (go_at_call 44; (with_reducible refine hcs2.mono ?_); intro e w8 hp; obtain ⟨rfl, hS8⟩ := HS7.out.rdp HG.out hp; have hT8 : TB w8 tb c (opN X : Nat) V := (hp.2.2.2.2 tb (blk_lt HT7.out) HTbg.out.1 (by simp)).trans HT7.out; have HS8 := Aside0.mk hS8; have HT8 := Aside0.mk hT8; clear hp hS8 hT8)
       obtain ⟨N7, hN7⟩ : ∃ n, n = w8.heap.size := ⟨_, rfl⟩
       obtain ⟨B7, hB7⟩ : ∃ n, n = w.heap.size := ⟨_, rfl⟩
       have HBw := Aside0.mk hB7
       have HBN := Aside0.mk (show B7 ≤ N7 by rw [hB7, hN7]; exact HS8.out.2.2.2.1)
       have HROW := Aside0.mk (show ∀ k, (Value.slice A7 acc.length cap7).ownBlock = some k → k < N7 ∧ k ≠ tb by
        intro k hk
        have h1 := (own_lt HS8.out.2.1 k hk).2
        exact ⟨by omega, fun e => HTbg.out.2.2 (by rw [hk, e])⟩)
       have HJ8 : Aside0 (TJ w0 w g s v5 tab ord down lim L3.tail.tail (.slice A7 acc.length cap7) tb c (opN X : Nat) V N7 B7 acc w8.drew) := ⟨⟨HS8.out.1.move rfl, HS8.out.2.2.1.drew, ⟨HS8.out.2.2.2.1, HS8.out.2.2.2.2⟩, HT8.out, by rw [hN7]; exact Nat.le_refl _, by rw [hB7]; exact HS8.out.2.1.ext (Ext.to_drew _)⟩⟩
       have HN7 := Aside0.mk hN7
       clear hN7 hB7
       refine exj_tail (TJ w0 w g s v5 tab ord down lim L3.tail.tail (.slice A7 acc.length cap7) tb c (opN X : Nat) V N7 B7 acc) (TR B7 N7 tb (.slice A7 acc.length cap7) acc) 13 [(0, 69), (1, 70), (2, 71), (3, 72), (4, 73), (5, 74), (6, 75), (7, 76), (8, 77), (9, 78), (10, 79), (11, 80)] [0, 1, 2, 3, 4, 5, 6, 7, 8, 9, 10, 11] (fun i w v => match i with | 0 => v = .pointer (some ⟨g, 0, none⟩) | 1 => v = .pointer (some ⟨g, 0, none⟩) | 2 => v = .pointer (some ⟨g, 0, none⟩) | 3 => v = .pointer (some ⟨g, 5, none⟩) | 4 => v = .pointer (some ⟨g, 7, none⟩) | 5 => Tr B7 w (.slice A7 acc.length cap7) acc ∧ v = .slice A7 acc.length cap7 | 6 => v = .agg #[.string (strB c), .int .i64 (opN X : Nat), .string (strB V)] | 7 => ∃ b, v = .slice (some ⟨b, 0, none⟩) 1 1 ∧ w.heap[b]? = some (.cells #[.string (strB c), .int .i64 (opN X : Nat), .string (strB V)] 37 (0, 0)) ∧ N7 ≤ b | 8 => Tr B7 w v (acc ++ [⟨c, (opN X : Nat), V⟩]) | 9 => v = .pointer (some ⟨g, 0, none⟩) | 10 => v = .pointer (some ⟨g, 5, none⟩) | 11 => v = .pointer (some ⟨g, 7, none⟩) | _ => True) (by kernel_rfl) (by kernel_rfl) (by rfl) rfl ?j0 ?rj ?r0 ?mono19 ?steps19 ?fin19
       case j0 => exact HJ8.out
       case rj =>
        intro i W W' hJ hR
        exact TJ.rel HTbg.out.1 HG.out HBw.out hw0 hJ hR
       case r0 => exact fun i W => TR.refl i W
       case mono19 =>
        intro i j w w' v hne h hR
        match j with
        | 0 => exact h
        | 1 => exact h
        | 2 => exact h
        | 3 => exact h
        | 4 => exact h
        | 5 => exact ⟨TR.old hR h.1, h.2⟩
        | 6 => exact h
        | 7 => exact (by obtain ⟨b, h1, h2, h3⟩ := h; exact ⟨b, h1, TR.new hR h3 h2, h3⟩)
        | 8 => exact Tr.ext h (TR.ne hne.symm hR)
        | 9 => exact h
        | 10 => exact h
        | 11 => exact h
        | _ + 12 => trivial
       case steps19 =>
        refine stepJ_cons ⟨_, rfl, fun a w hE hH => ?_⟩ ?_
        ·
         have e0 : a.tmps[0]? = some (.pointer (some ⟨g, 0, none⟩)) := hH.old 0 rfl
         exact Or.inl ⟨rfl, goodJ_of rfl (goodE_move _ rfl (eval_of e0) rfl)⟩
        refine stepJ_cons ⟨_, rfl, fun a w hE hH => ?_⟩ ?_
        ·
         have e0 : a.tmps[0]? = some (.pointer (some ⟨g, 0, none⟩)) := hH.old 0 rfl
         exact Or.inl ⟨rfl, goodJ_of rfl (goodE_move _ rfl (eval_of e0) rfl)⟩
        refine stepJ_cons ⟨_, rfl, fun a w hE hH => ?_⟩ ?_
        ·
         obtain ⟨v70, e70, g70⟩ := hH.dep 1 70 rfl (by kernel_rfl)
         have q70 : v70 = .pointer (some ⟨g, 0, none⟩) := g70
         subst q70
         exact Or.inl ⟨rfl, goodJ_of rfl (goodE_val (.pointer (some ⟨g, 0, none⟩)) (by simp [execOp, Act.eval, e70, go_sem]) rfl)⟩
        refine stepJ_cons ⟨_, rfl, fun a w hE hH => ?_⟩ ?_
        ·
         obtain ⟨v71, e71, g71⟩ := hH.dep 2 71 rfl (by kernel_rfl)
         have q71 : v71 = .pointer (some ⟨g, 0, none⟩) := g71
         subst q71
         exact Or.inl ⟨rfl, goodJ_of rfl (goodE_val (.pointer (some ⟨g, 5, none⟩)) (by simp [execOp, Act.eval, e71, go_sem]) rfl)⟩
        refine stepJ_cons ⟨_, rfl, fun a w hE hH => ?_⟩ ?_
        ·
         obtain ⟨v72, e72, g72⟩ := hH.dep 3 72 rfl (by kernel_rfl)
         have q72 : v72 = .pointer (some ⟨g, 5, none⟩) := g72
         subst q72
         exact Or.inl ⟨rfl, goodJ_of rfl (goodE_val (.pointer (some ⟨g, 7, none⟩)) (by simp [execOp, Act.eval, e72, go_sem]) rfl)⟩
        refine stepJ_cons ⟨_, rfl, fun a w hE hH => ?_⟩ ?_
        ·
         obtain ⟨v73, e73, g73⟩ := hH.dep 4 73 rfl (by kernel_rfl)
         have q73 : v73 = .pointer (some ⟨g, 7, none⟩) := g73
         subst q73
         have hc := hE.1.c7.1
         exact Or.inl ⟨(rfl), goodJ_of rfl (goodE_val (.slice A7 acc.length cap7) (by simp [execOp, Act.eval, e73, hc, go_sem]) ⟨hE.2.2.2.2.2, rfl⟩)⟩
        refine stepJ_cons ⟨_, rfl, fun a w hE hH => ?_⟩ ?_
        ·
         have e5 : a.tmps[5]? = some (.pointer (some ⟨tb, 0, none⟩)) := hH.old 5 rfl
         have hc0 := blk_cell hE.2.2.2.1 0
         have hc1 := blk_cell hE.2.2.2.1 1
         have hc2 := blk_cell hE.2.2.2.1 2
         exact Or.inl ⟨(rfl), goodJ_of rfl (goodE_val (.agg #[.string (strB c), .int .i64 (opN X : Nat), .string (strB V)]) (by simp [execOp, Act.eval, e5, hc0, hc1, hc2, go_sem]) rfl)⟩
        refine stepJ_cons ⟨_, rfl, fun a w hE hH => ?_⟩ ?_
        ·
         obtain ⟨v75, e75, g75⟩ := hH.dep 6 75 rfl (by kernel_rfl)
         have q75 : v75 = .agg #[.string (strB c), .int .i64 (opN X : Nat), .string (strB V)] := g75
         subst q75
         exact Or.inl ⟨(rfl), goodJ_of rfl (goodE_new (.slice (some ⟨w.heap.size, 0, none⟩) 1 1) (w.alloc (.cells #[.string (strB c), .int .i64 (opN X : Nat), .string (strB V)] 37)) (by simp [execOp, Act.eval, e75, go_sem]) ((Ext.refl w).alloc _) ⟨w.heap.size, rfl, heap_alloc_new _ _, hE.2.2.2.2.1⟩)⟩
        refine stepJ_cons ⟨_, rfl, fun a w hE hH => ?_⟩ ?_
        ·
         obtain ⟨v74, e74, g74⟩ := hH.dep 5 74 rfl (by kernel_rfl)
         obtain ⟨v76, e76, g76⟩ := hH.dep 7 76 rfl (by kernel_rfl)
         obtain ⟨hTr, hv74⟩ := g74
         subst hv74
         obtain ⟨b, rfl, hb, hNb⟩ := g76
         obtain ⟨v1, w1, hr, hT1, hG1, hT0⟩ := tr_run_app (c := 1) (t := ⟨c, (opN X : Nat), V⟩) 23 hTr hb (Nat.le_trans HBN.out hE.2.2.2.2.1) (by omega)
         exact Or.inl ⟨(rfl), goodJ_new v1 w1 (exec_append (s := .tmp 74) (x := .tmp 76) rfl (by simpa [Act.eval, e74, e76] using hr)) ⟨⟨_, hG1, fun k hk => ⟨(own_lt hTr k hk).1, HROW.out k hk⟩⟩, fun _ => hT0⟩ hT1⟩
        refine stepJ_cons ⟨_, rfl, fun a w hE hH => ?_⟩ ?_
        ·
         obtain ⟨v69, e69, g69⟩ := hH.dep 0 69 rfl (by kernel_rfl)
         have q69 : v69 = .pointer (some ⟨g, 0, none⟩) := g69
         subst q69
         exact Or.inl ⟨rfl, goodJ_of rfl (goodE_val (.pointer (some ⟨g, 0, none⟩)) (by simp [execOp, Act.eval, e69, go_sem]) rfl)⟩
        refine stepJ_cons ⟨_, rfl, fun a w hE hH => ?_⟩ ?_
        ·
         obtain ⟨v78, e78, g78⟩ := hH.dep 9 78 rfl (by kernel_rfl)
         have q78 : v78 = .pointer (some ⟨g, 0, none⟩) := g78
         subst q78
         exact Or.inl ⟨rfl, goodJ_of rfl (goodE_val (.pointer (some ⟨g, 5, none⟩)) (by simp [execOp, Act.eval, e78, go_sem]) rfl)⟩
        refine stepJ_cons ⟨_, rfl, fun a w hE hH => ?_⟩ ?_
        ·
         obtain ⟨v79, e79, g79⟩ := hH.dep 10 79 rfl (by kernel_rfl)
         have q79 : v79 = .pointer (some ⟨g, 5, none⟩) := g79
         subst q79
         exact Or.inl ⟨rfl, goodJ_of rfl (goodE_val (.pointer (some ⟨g, 7, none⟩)) (by simp [execOp, Act.eval, e79, go_sem]) rfl)⟩
        exact stepJ_nil
       refine ⟨⟨none, .store 23 (.tmp 80) (.tmp 77), _, _, _, none⟩, rfl, ?_⟩
       rintro vals wz hE hV
       have k77 : Tr B7 wz (vals 8) (acc ++ [⟨c, (opN X : Nat), V⟩]) := hV 8 (by simp) rfl
       have k80 : vals 11 = .pointer (some ⟨g, 7, none⟩) := hV 11 (by simp) rfl
       refine ⟨rfl, ?_⟩
       intro KK hKK
       simp only [List.map_cons, List.map_nil, putAll, Act.put, List.setIfInBounds_toArray, List.set_cons_zero, List.set_cons_succ, k80]
       obtain ⟨A1, cp1, ev1, hcp1⟩ := own_form k77
       rw [show (acc ++ [(⟨c, (opN X : Nat), V⟩ : Tst)]).length = acc.length + 1 by simp] at ev1
       rw [ev1] at k77
       rw [ev1]
       have hz7 := hE.1.c7
       have hzc := hz7.1
       have hzf := hz7.2
       refine finE_skip (w1 := wz.setCell ⟨g, 7, none⟩ (.slice A1 (acc.length + 1) cp1)) (by simp [execOp, Act.eval, hzc, hzf, go_sem]) (hKK _ _ ?_)
       have hR9 := hE.1.set7 (.slice A1 (acc.length + 1) cp1)
       have hT9 : Tr w.heap.size (wz.setCell ⟨g, 7, none⟩ (.slice A1 (acc.length + 1) cp1)) (.slice A1 (acc.length + 1) cp1) (acc ++ [⟨c, (opN X : Nat), V⟩]) := by rw [← HBw.out]; exact Tr.far k77 (by rw [HBw.out]; exact HG.out)
       have hS9 : TS w0 w g s v5 tab ord down lim L3.tail.tail (.slice A1 (acc.length + 1) cp1) (acc ++ [⟨c, (opN X : Nat), V⟩]) (wz.setCell ⟨g, 7, none⟩ (.slice A1 (acc.length + 1) cp1)) := ⟨hR9, hT9, below_set hE.2.1 hE.1.ge, hE.2.2.1.set_ 7 _⟩
       generalize wz.setCell ⟨g, 7, none⟩ (.slice A1 (acc.length + 1) cp1) = w9 at hS9 ⊢
       have HS9 := Aside0.mk hS9
       clear hE hV k77 ev1 hz7 hzc hzf hR9 hT9 hS9 hKK k80
       rcases hpm : passL 2 wAnd L3.tail.tail with ⟨b2, L4⟩
       have hcp : Calls Tryz.prog 45 #[.pointer (some ⟨g, 0, none⟩), .int .i64 2, .string ⟨#[97, 110, 100]⟩] w9 (RdP w0 w9 g s (.bool b2) L4 v5 tab (.slice A1 (acc.length + 1) cp1) ord down lim) := pass_p hs HS9.out.1 HS9.out.2.2.1 2 (by omega) wAnd hpm
       have HPM := Aside0.mk hpm
       have e1 : whL (k + 1) acc L2 = if b2 = true then whL k (acc ++ [⟨c, (opN X : Nat), V⟩]) L4 else (some (acc ++ [⟨c, (opN X : Nat), V⟩]), L3.tail.tail) := by
        rw [whL]
        unfold testL
        rw [HNM.out]
        simp only
        rw [if_pos HKL.out, if_pos HK4.out, ← HX.out, ← HV.out]
        simp only [HPM.out]
       have HE1 := Aside0.mk e1
       clear e1 hpm
       cases b2 with
       | true =>
        go_wp2_with (go_at_call 45; (with_reducible refine hcp.mono ?_); intro e w10 hp; obtain ⟨rfl, hS10⟩ := HS9.out.rdp HG.out hp; have HS10 := Aside0.mk hS10; clear hp hS10)
        go_roundg k
        case measure => omega
        case rel => exact ⟨acc ++ [⟨c, (opN X : Nat), V⟩], L4, _, by simp; omega, HS10.out, by rw [← HE.out, HE1.out]; simp⟩
       | false =>
        have hL4 : L4 = L3.tail.tail := by
         have := HPM.out
         unfold passL at this
         split at this
         ·
          simp at this
         ·
          exact (Prod.mk.inj this).2.symm
        subst hL4
        go_wp2_with (go_at_call 45; (with_reducible refine hcp.mono ?_); intro e w10 hp; obtain ⟨rfl, hS10⟩ := HS9.out.rdp HG.out hp; have HS10 := Aside0.mk hS10; clear hp hS10)
        go_ret
        rw [← HE.out, HE1.out, if_neg Bool.false_ne_true]
        exact HS10.out.post (fun ts h => (Option.some.inj h).symm)
      ·
       have hkb : (((hdT L3.tail).kind : Int) != 4) = true := by simpa using fun h => hk4 (by omega)
       have HK4 := Aside0.mk hk4
       clear hk4
       go_wp2_with (go_at_call 44; (with_reducible refine hcs.mono ?_); intro e w6 hp; obtain ⟨rfl, hS6⟩ := HSj.out.rdp HG.out hp; have HS6 := Aside0.mk hS6; have k62 := hS6.1.c23.1; clear hp hS6)
       go_ret
       rw [← HE.out, show whL (k + 1) acc L2 = (none, L3.tail) by rw [whL]; unfold testL; rw [HNM.out]; simp only; rw [if_pos HKL.out, if_neg HK4.out]]
       exact HS6.out.post (fun ts h => by cases h)
   ·
    have hkb : (((hdT L3).kind : Int) != 5) = true := by simpa using fun h => hk5 (by omega)
    have HK5 := Aside0.mk hk5
    clear hk5
    go_wp2_with (go_at_call 61; (with_reducible refine hcn.mono ?_); intro e w2 hp; obtain ⟨rfl, hS2⟩ := HS.out.rdp HG.out hp; have HS2 := Aside0.mk hS2; have k2 := hS2.1.c23.1; clear hp hS2)
    go_ret
    rw [← HE.out, show whL (k + 1) acc L2 = (none, L3) by rw [whL]; unfold testL; rw [HNM.out]; simp only; rw [if_neg (fun h => HK5.out h.1)]]
    exact HS2.out.post (fun ts h => by cases h)
end Go.Proofs.YthhemephaabblaaGreatDoor.Hq
namespace Go.Proofs.YthhemephaabblaaGreatDoor.Hq
open Go.RowKit Go.Proofs.YthhemephaabblaaGreatDoorW.PrintWords Go.Proofs.YthhemephaabblaaGreatDoorW.PrintLast Go.Proofs.YthhemephaabblaaGreatDoorW.PrintMore Go.Proofs.YthhemephaabblaaGreatDoor Go.Proofs.YthhemephaabblaaGreatDoor.Q Go.Proofs.YthhemephaabblaaGreatDoor.R
set_option linter.unusedVariables false
set_option linter.unusedSimpArgs false
theorem numOk_toks (s : List UInt8) (p : Nat) (hp : p ≤ s.length) : numOk (toks s p) := by
 intro hk
 rw [hd_toks s p hp, tokAt_tk] at hk ⊢
 generalize runEnd isSp s p = a at hk ⊢
 unfold tk at hk ⊢
 cases hc : s[a]? with
 | none => rw [hc] at hk; simp at hk
 | some c =>
  rw [hc] at hk
  simp only at hk ⊢
  have hlt : a < s.length := (List.getElem?_eq_some_iff.1 hc).1
  have hca : s[a] = c := (List.getElem?_eq_some_iff.1 hc).2
  by_cases h1 : isSm c = true
  ·
   rw [if_pos h1] at hk; simp at hk
  ·
   rw [if_neg h1] at hk ⊢
   by_cases h2 : isDg c = true
   ·
    rw [if_pos h2]
    refine ⟨?_, fun x hx => ?_⟩
    ·
     rw [List.drop_eq_getElem_cons hlt, List.takeWhile_cons_of_pos (by rw [hca]; exact h2)]
     simp
    ·
     exact List.all_takeWhile (p := isDg) |> fun h => List.all_eq_true.1 h x hx
   ·
    rw [if_neg h2] at hk
    by_cases h3 : c = 34
    ·
     rw [if_pos h3] at hk
     split at hk <;> simp at hk
    ·
     rw [if_neg h3] at hk
     split at hk <;> simp at hk
theorem Rd.num {w0 w : World} {g : Nat} {s : List UInt8} {L : List Tk} {v5 : Value} {tab : List UInt8} {v7 : Value} {ord : List UInt8} {down : Bool} {lim : Int} (h : Rd w0 w g s L v5 tab v7 ord down lim) : numOk L := by
 obtain ⟨p, hp, rfl, _⟩ := h
 exact numOk_toks s p hp
theorem pass_no {k : Nat} {wd : List UInt8} {L L1 : List Tk} (h : passL k wd L = (false, L1)) : L1 = L := by
 unfold passL at h
 split at h
 ·
  simp at h
 ·
  exact (Prod.mk.inj h).2.symm
def nilV : Value := .slice none 0 0
def QI (w0 w : World) (g : Nat) (s : List UInt8) (F : Option Qry × List Tk) (i : Nat) (W : World) : Prop := Below w0.heap.size w0 W ∧ KeepBut w W g none ∧ (match i with
 | 0 => ∃ L, Rd w0 W g s L nilV [] nilV [] false 0 ∧ parseL L = F
 | 1 => ∃ L v5 cs, Rd w0 W g s L v5 [] nilV [] false 0 ∧ Sr w.heap.size W v5 cs ∧ c1 cs L = F
 | 2 => ∃ L v5 cs tb, Rd w0 W g s L v5 tb nilV [] false 0 ∧ Sr w.heap.size W v5 cs ∧ c2 cs tb L = F
 | 3 => ∃ L v5 cs tb v7 wh, Rd w0 W g s L v5 tb v7 [] false 0 ∧ Sr w.heap.size W v5 cs ∧ Tr w.heap.size W v7 wh ∧ c3 cs tb wh L = F
 | 4 => ∃ L v5 cs tb v7 wh od dn, Rd w0 W g s L v5 tb v7 od dn 0 ∧ Sr w.heap.size W v5 cs ∧ Tr w.heap.size W v7 wh ∧ c4 cs tb wh od dn L = F
 | _ => ∃ L v5 cs tb v7 wh od dn lm, Rd w0 W g s L v5 tb v7 od dn lm ∧ Sr w.heap.size W v5 cs ∧ Tr w.heap.size W v7 wh ∧ c5 cs tb wh od dn lm L = F)
def QstP (w0 w : World) (g : Nat) (s : List UInt8) (F : Option Qry × List Tk) (e : Ending) (w' : World) : Prop :=
 e = .returned (.bool F.1.isSome) ∧ Below w0.heap.size w0 w' ∧ KeepBut w w' g none ∧ (∃ v5 tb v7 od dn lm, Rd w0 w' g s F.2 v5 tb v7 od dn lm ∧ ∀ q, F.1 = some q → Sr w.heap.size w' v5 q.cols ∧ Tr w.heap.size w' v7 q.wh ∧ tb = q.tab ∧ od = q.ord ∧ dn = q.down ∧ lm = q.lim)
def R0 (w0 w : World) (g : Nat) (s : List UInt8) : Prop := IsS60 w0 w g (strB s) 0 0 (strB []) 0 nilV (strB []) nilV (strB []) false 0
set_option maxRecDepth 100000 in
set_option maxHeartbeats 3200000 in
theorem question_rd (w0 w : World) (g : Nat) (s : List UInt8) (hs : s.length ≤ 1000000000000) (h : R0 w0 w g s) (hB : Below w0.heap.size w0 w) :
  Calls Tryz.prog 18 #[.pointer (some ⟨g, 0, none⟩)] w (QstP w0 w g s (parseL (toks s 0))) := by
 have hg : g < w.heap.size := IsS60.lt h
 have hmf : ∀ (fn : Fn) (first cap : Array Value) (w : World), (Instr.makeFunc fn first cap).run Tryz.prog w = .ok (.func fn first cap) w := fun _ _ _ _ => rfl
 have hst : ∀ W, IsS60 w0 W g (strB s) 0 0 (strB []) 0 nilV (strB []) nilV (strB []) false 0 → Below w0.heap.size w0 W → Calls Tryz.prog 44 #[.pointer (some ⟨g, 0, none⟩)] W (RdP w0 W g s (.tuple #[]) (toks s 0) nilV [] nilV [] false 0) := by
  intro W hI hBW
  have hf := stepF_f s hs 0 (Nat.zero_le _) (s.length + 21) (by omega) 0 (strB []) 0 nilV (strB []) nilV (strB []) false 0
  refine (query_reader_step.calls (s.length + 21) g _ _ _ _ _ _ _ _ _ _ _ _ _ _ _ _ _ _ _ _ w0 W hI hBW hf).mono ?_
  rintro e w' ⟨rfl, hI', hB', hK⟩
  exact ⟨rfl, ⟨0, Nat.zero_le _, rfl, hI'⟩, hB', hK⟩
 have HG := Aside0.mk hg
 have H0 := Aside0.mk h
 have HB := Aside0.mk hB
 clear h hB
 go_enter Tryz.func18, Tryz.ntmps18
 go_upto_region 2 with fail
 obtain ⟨ab, hab⟩ : ∃ n, n = w.heap.size := ⟨_, rfl⟩
 have hA : (w.alloc (.cells #[.string ⟨#[115, 101, 108, 101, 99, 116]⟩, .bool true, .func (.func 39) #[.pointer (some ⟨g, 0, none⟩)] #[], .string ⟨#[102, 114, 111, 109]⟩, .bool true, .func (.func 40) #[.pointer (some ⟨g, 0, none⟩)] #[], .string ⟨#[119, 104, 101, 114, 101]⟩, .bool false, .func (.func 41) #[.pointer (some ⟨g, 0, none⟩)] #[], .string ⟨#[111, 114, 100, 101, 114]⟩, .bool false, .func (.func 42) #[.pointer (some ⟨g, 0, none⟩)] #[], .string ⟨#[108, 105, 109, 105, 116]⟩, .bool false, .func (.func 43) #[.pointer (some ⟨g, 0, none⟩)] #[]] 87)).heap[ab]? = some (.cells #[.string ⟨#[115, 101, 108, 101, 99, 116]⟩, .bool true, .func (.func 39) #[.pointer (some ⟨g, 0, none⟩)] #[], .string ⟨#[102, 114, 111, 109]⟩, .bool true, .func (.func 40) #[.pointer (some ⟨g, 0, none⟩)] #[], .string ⟨#[119, 104, 101, 114, 101]⟩, .bool false, .func (.func 41) #[.pointer (some ⟨g, 0, none⟩)] #[], .string ⟨#[111, 114, 100, 101, 114]⟩, .bool false, .func (.func 42) #[.pointer (some ⟨g, 0, none⟩)] #[], .string ⟨#[108, 105, 109, 105, 116]⟩, .bool false, .func (.func 43) #[.pointer (some ⟨g, 0, none⟩)] #[]] 87 (0, 0)) := by rw [hab]; exact heap_alloc_new _ _
 have hI := IsS60.alloc H0.out (.cells #[.string ⟨#[115, 101, 108, 101, 99, 116]⟩, .bool true, .func (.func 39) #[.pointer (some ⟨g, 0, none⟩)] #[], .string ⟨#[102, 114, 111, 109]⟩, .bool true, .func (.func 40) #[.pointer (some ⟨g, 0, none⟩)] #[], .string ⟨#[119, 104, 101, 114, 101]⟩, .bool false, .func (.func 41) #[.pointer (some ⟨g, 0, none⟩)] #[], .string ⟨#[111, 114, 100, 101, 114]⟩, .bool false, .func (.func 42) #[.pointer (some ⟨g, 0, none⟩)] #[], .string ⟨#[108, 105, 109, 105, 116]⟩, .bool false, .func (.func 43) #[.pointer (some ⟨g, 0, none⟩)] #[]] 87)
 have hBa : Below w0.heap.size w0 (w.alloc (.cells #[.string ⟨#[115, 101, 108, 101, 99, 116]⟩, .bool true, .func (.func 39) #[.pointer (some ⟨g, 0, none⟩)] #[], .string ⟨#[102, 114, 111, 109]⟩, .bool true, .func (.func 40) #[.pointer (some ⟨g, 0, none⟩)] #[], .string ⟨#[119, 104, 101, 114, 101]⟩, .bool false, .func (.func 41) #[.pointer (some ⟨g, 0, none⟩)] #[], .string ⟨#[111, 114, 100, 101, 114]⟩, .bool false, .func (.func 42) #[.pointer (some ⟨g, 0, none⟩)] #[], .string ⟨#[108, 105, 109, 105, 116]⟩, .bool false, .func (.func 43) #[.pointer (some ⟨g, 0, none⟩)] #[]] 87)) := HB.out.alloc HB.out.size _
 have hKa : KeepBut w (w.alloc (.cells #[.string ⟨#[115, 101, 108, 101, 99, 116]⟩, .bool true, .func (.func 39) #[.pointer (some ⟨g, 0, none⟩)] #[], .string ⟨#[102, 114, 111, 109]⟩, .bool true, .func (.func 40) #[.pointer (some ⟨g, 0, none⟩)] #[], .string ⟨#[119, 104, 101, 114, 101]⟩, .bool false, .func (.func 41) #[.pointer (some ⟨g, 0, none⟩)] #[], .string ⟨#[111, 114, 100, 101, 114]⟩, .bool false, .func (.func 42) #[.pointer (some ⟨g, 0, none⟩)] #[], .string ⟨#[108, 105, 109, 105, 116]⟩, .bool false, .func (.func 43) #[.pointer (some ⟨g, 0, none⟩)] #[]] 87)) g none := KeepBut.of_below ((Below.refl _ _).alloc (Nat.le_refl _) _) g none
 rw [← hab]
 generalize (w.alloc (.cells #[.string ⟨#[115, 101, 108, 101, 99, 116]⟩, .bool true, .func (.func 39) #[.pointer (some ⟨g, 0, none⟩)] #[], .string ⟨#[102, 114, 111, 109]⟩, .bool true, .func (.func 40) #[.pointer (some ⟨g, 0, none⟩)] #[], .string ⟨#[119, 104, 101, 114, 101]⟩, .bool false, .func (.func 41) #[.pointer (some ⟨g, 0, none⟩)] #[], .string ⟨#[111, 114, 100, 101, 114]⟩, .bool false, .func (.func 42) #[.pointer (some ⟨g, 0, none⟩)] #[], .string ⟨#[108, 105, 109, 105, 116]⟩, .bool false, .func (.func 43) #[.pointer (some ⟨g, 0, none⟩)] #[]] 87)) = wa at hA hI hBa hKa ⊢
 have hcs := hst wa hI hBa
 have HAa := Aside0.mk hA
 have HKa := Aside0.mk hKa
 have HAG := Aside0.mk (show ab ≠ g by have := HG.out; omega)
 clear hI hBa hst hA hKa H0 HB hab
 go_wp2_with (first | (go_at_call 44; (with_reducible refine hcs.mono ?_); rintro e w1 ⟨rfl, hR1, hB1, hK1⟩; have HA1 := Aside0.mk ((hK1.2 ab (blk_lt HAa.out) HAG.out (by simp)).trans HAa.out); have HR1 := Aside0.mk hR1; have HB1 := Aside0.mk hB1; have HK1 := Aside0.mk (HKa.out.trans hK1 (.inl rfl)); clear hR1 hB1 hK1) | (refine wpList_load_row rfl 87 _ rfl ab rfl 87 _ (0, 0) _ HA1.out Tryz.underlying87 rfl (by kernel_rfl) ?_))
 go_loopw [25] (fun s25 W => ∃ i : Nat, i ≤ 5 ∧ s25 = .int .i64 i ∧ QI w0 w g s (parseL (toks s 0)) i W) (fun v _ => 5 - (intOf v).toNat)
 case atStart => exact ⟨0, by omega, rfl, HB1.out, HK1.out, toks s 0, HR1.out, rfl⟩
 case round =>
 clear HR1 HB1 HK1 HAa HKa hcs HA1
 obtain ⟨i, hi, rfl, hBW, hKW, hq⟩ := hrel
 have HBW := Aside0.mk hBW
 have HKW := Aside0.mk hKW
 clear hBW hKW
 have x0 : ∀ W : World, (Instr.index 87 (.agg #[.string ⟨#[115, 101, 108, 101, 99, 116]⟩, .bool true, .func (.func 39) #[.pointer (some ⟨g, 0, none⟩)] #[], .string ⟨#[102, 114, 111, 109]⟩, .bool true, .func (.func 40) #[.pointer (some ⟨g, 0, none⟩)] #[], .string ⟨#[119, 104, 101, 114, 101]⟩, .bool false, .func (.func 41) #[.pointer (some ⟨g, 0, none⟩)] #[], .string ⟨#[111, 114, 100, 101, 114]⟩, .bool false, .func (.func 42) #[.pointer (some ⟨g, 0, none⟩)] #[], .string ⟨#[108, 105, 109, 105, 116]⟩, .bool false, .func (.func 43) #[.pointer (some ⟨g, 0, none⟩)] #[]]) (.int .i64 0)).run Tryz.prog W = .ok (.agg #[.string ⟨#[115, 101, 108, 101, 99, 116]⟩, .bool true, .func (.func 39) #[.pointer (some ⟨g, 0, none⟩)] #[]]) W := fun _ => by kernel_rfl
 have x1 : ∀ W : World, (Instr.index 87 (.agg #[.string ⟨#[115, 101, 108, 101, 99, 116]⟩, .bool true, .func (.func 39) #[.pointer (some ⟨g, 0, none⟩)] #[], .string ⟨#[102, 114, 111, 109]⟩, .bool true, .func (.func 40) #[.pointer (some ⟨g, 0, none⟩)] #[], .string ⟨#[119, 104, 101, 114, 101]⟩, .bool false, .func (.func 41) #[.pointer (some ⟨g, 0, none⟩)] #[], .string ⟨#[111, 114, 100, 101, 114]⟩, .bool false, .func (.func 42) #[.pointer (some ⟨g, 0, none⟩)] #[], .string ⟨#[108, 105, 109, 105, 116]⟩, .bool false, .func (.func 43) #[.pointer (some ⟨g, 0, none⟩)] #[]]) (.int .i64 1)).run Tryz.prog W = .ok (.agg #[.string ⟨#[102, 114, 111, 109]⟩, .bool true, .func (.func 40) #[.pointer (some ⟨g, 0, none⟩)] #[]]) W := fun _ => by kernel_rfl
 have x2 : ∀ W : World, (Instr.index 87 (.agg #[.string ⟨#[115, 101, 108, 101, 99, 116]⟩, .bool true, .func (.func 39) #[.pointer (some ⟨g, 0, none⟩)] #[], .string ⟨#[102, 114, 111, 109]⟩, .bool true, .func (.func 40) #[.pointer (some ⟨g, 0, none⟩)] #[], .string ⟨#[119, 104, 101, 114, 101]⟩, .bool false, .func (.func 41) #[.pointer (some ⟨g, 0, none⟩)] #[], .string ⟨#[111, 114, 100, 101, 114]⟩, .bool false, .func (.func 42) #[.pointer (some ⟨g, 0, none⟩)] #[], .string ⟨#[108, 105, 109, 105, 116]⟩, .bool false, .func (.func 43) #[.pointer (some ⟨g, 0, none⟩)] #[]]) (.int .i64 2)).run Tryz.prog W = .ok (.agg #[.string ⟨#[119, 104, 101, 114, 101]⟩, .bool false, .func (.func 41) #[.pointer (some ⟨g, 0, none⟩)] #[]]) W := fun _ => by kernel_rfl
 have x3 : ∀ W : World, (Instr.index 87 (.agg #[.string ⟨#[115, 101, 108, 101, 99, 116]⟩, .bool true, .func (.func 39) #[.pointer (some ⟨g, 0, none⟩)] #[], .string ⟨#[102, 114, 111, 109]⟩, .bool true, .func (.func 40) #[.pointer (some ⟨g, 0, none⟩)] #[], .string ⟨#[119, 104, 101, 114, 101]⟩, .bool false, .func (.func 41) #[.pointer (some ⟨g, 0, none⟩)] #[], .string ⟨#[111, 114, 100, 101, 114]⟩, .bool false, .func (.func 42) #[.pointer (some ⟨g, 0, none⟩)] #[], .string ⟨#[108, 105, 109, 105, 116]⟩, .bool false, .func (.func 43) #[.pointer (some ⟨g, 0, none⟩)] #[]]) (.int .i64 3)).run Tryz.prog W = .ok (.agg #[.string ⟨#[111, 114, 100, 101, 114]⟩, .bool false, .func (.func 42) #[.pointer (some ⟨g, 0, none⟩)] #[]]) W := fun _ => by kernel_rfl
 have x4 : ∀ W : World, (Instr.index 87 (.agg #[.string ⟨#[115, 101, 108, 101, 99, 116]⟩, .bool true, .func (.func 39) #[.pointer (some ⟨g, 0, none⟩)] #[], .string ⟨#[102, 114, 111, 109]⟩, .bool true, .func (.func 40) #[.pointer (some ⟨g, 0, none⟩)] #[], .string ⟨#[119, 104, 101, 114, 101]⟩, .bool false, .func (.func 41) #[.pointer (some ⟨g, 0, none⟩)] #[], .string ⟨#[111, 114, 100, 101, 114]⟩, .bool false, .func (.func 42) #[.pointer (some ⟨g, 0, none⟩)] #[], .string ⟨#[108, 105, 109, 105, 116]⟩, .bool false, .func (.func 43) #[.pointer (some ⟨g, 0, none⟩)] #[]]) (.int .i64 4)).run Tryz.prog W = .ok (.agg #[.string ⟨#[108, 105, 109, 105, 116]⟩, .bool false, .func (.func 43) #[.pointer (some ⟨g, 0, none⟩)] #[]]) W := fun _ => by kernel_rfl
 rcases (show i = 0 ∨ i = 1 ∨ i = 2 ∨ i = 3 ∨ i = 4 ∨ i = 5 by omega) with rfl | rfl | rfl | rfl | rfl | rfl
 ·
  obtain ⟨L, hR, hF⟩ := hq
  have HR := Aside0.mk (hR.move (w' := wr.alloc (.cells #[.string ⟨#[115, 101, 108, 101, 99, 116]⟩, .bool true, .func (.func 39) #[.pointer (some ⟨g, 0, none⟩)] #[]] 86)) (Below.heap_alloc _ _ _ hR.lt))
  have HF := Aside0.mk hF
  have HC := Aside0.mk (show (wr.alloc (.cells #[.string ⟨#[115, 101, 108, 101, 99, 116]⟩, .bool true, .func (.func 39) #[.pointer (some ⟨g, 0, none⟩)] #[]] 86)).heap[wr.heap.size]? = some (.cells #[.string ⟨#[115, 101, 108, 101, 99, 116]⟩, .bool true, .func (.func 39) #[.pointer (some ⟨g, 0, none⟩)] #[]] 86 (0, 0)) from heap_alloc_new _ _)
  have HBb := Aside0.mk (HBW.out.alloc HBW.out.size (.cells #[.string ⟨#[115, 101, 108, 101, 99, 116]⟩, .bool true, .func (.func 39) #[.pointer (some ⟨g, 0, none⟩)] #[]] 86))
  have HKb := Aside0.mk (keep_then HKW.out ((Below.refl _ _).alloc HKW.out.1 (.cells #[.string ⟨#[115, 101, 108, 101, 99, 116]⟩, .bool true, .func (.func 39) #[.pointer (some ⟨g, 0, none⟩)] #[]] 86)))
  have HCg := Aside0.mk (show wr.heap.size ≠ g by have := hR.lt; omega)
  clear hR hF HBW HKW
  go_upto_region 6 with fail
  obtain ⟨cb, hcb⟩ : ∃ n, n = wr.heap.size := ⟨_, rfl⟩
  rw [← hcb] at HC HCg ⊢
  generalize (wr.alloc (.cells #[.string ⟨#[115, 101, 108, 101, 99, 116]⟩, .bool true, .func (.func 39) #[.pointer (some ⟨g, 0, none⟩)] #[]] 86)) = wb at HR HC HBb HKb ⊢
  have b0 := blk_cell HC.out 0
  rcases hp : passL 2 wSelect L with ⟨b, L1⟩
  have hcp : Calls Tryz.prog 45 #[.pointer (some ⟨g, 0, none⟩), .int .i64 2, .string ⟨#[115, 101, 108, 101, 99, 116]⟩] wb (RdP w0 wb g s (.bool b) L1 nilV [] nilV [] false 0) := pass_p hs HR.out HBb.out 2 (by omega) wSelect hp
  have HP := Aside0.mk hp
  clear hp hcb
  cases b with
  | true =>
   go_upto_region 7 with (go_at_call 45; (with_reducible refine hcp.mono ?_); rintro e w2 ⟨rfl, hR2, hB2, hK2⟩; have HC2 := Aside0.mk ((hK2.2 cb (blk_lt HC.out) HCg.out (by simp)).trans HC.out); have HR2 := Aside0.mk hR2; have HB2 := Aside0.mk hB2; have HK2 := Aside0.mk (HKb.out.trans hK2 (.inl rfl)); have d1 := blk_cell HC2.out 1; have d2 := blk_cell HC2.out 2; clear hR2 hB2 hK2 b0)
   have hcc := columns_rd w0 w2 g s L1 [] nilV [] false 0 hs HR2.out HB2.out
   rcases hco : columnsL L1 with ⟨o, L2⟩
   rw [hco] at hcc
   have HCO := Aside0.mk hco
   clear hco
   cases o with
   | none =>
    have e0 : parseL L = (none, L2) := by unfold parseL; simp only [HP.out, HCO.out, if_true]
    have E0 := Aside0.mk e0
    clear e0
    go_wp2_with (go_at_call 39; (with_reducible refine hcc.mono ?_); rintro e w3 ⟨rfl, ⟨v5, hR3, hx⟩, hB3, hK3⟩; have HX := Aside0.mk hx; have HR3 := Aside0.mk hR3; have HB3 := Aside0.mk hB3; have HK3 := Aside0.mk (HK2.out.trans hK3 (.inl rfl)); clear hR3 hB3 hK3 hx)
    go_ret
    rw [← HF.out, E0.out]
    exact ⟨rfl, HB3.out, HK3.out, ⟨_, _, _, _, _, _, HR3.out, fun q h => by cases h⟩⟩
   | some cs =>
    have e0 : parseL L = c1 cs L2 := by unfold parseL; simp only [HP.out, HCO.out, if_true]
    have E0 := Aside0.mk e0
    clear e0
    go_wp2_with (go_at_call 39; (with_reducible refine hcc.mono ?_); rintro e w3 ⟨rfl, ⟨v5, hR3, hx⟩, hB3, hK3⟩; have HX := Aside0.mk hx; have HR3 := Aside0.mk hR3; have HB3 := Aside0.mk hB3; have HK3 := Aside0.mk (HK2.out.trans hK3 (.inl rfl)); clear hR3 hB3 hK3 hx)
    go_roundw
    case rel => exact ⟨1, by omega, rfl, HB3.out, HK3.out, L2, v5, cs, HR3.out, own_less (HX.out cs rfl) HK2.out.1, by rw [← E0.out]; exact HF.out⟩
    case measure => simp [intOf]
  | false =>
   have hL1 : L1 = L := pass_no HP.out
   subst hL1
   have e0 : parseL L1 = (none, L1) := by unfold parseL; simp only [HP.out]; rfl
   have E0 := Aside0.mk e0
   clear e0
   go_wp2_with (go_at_call 45; (with_reducible refine hcp.mono ?_); rintro e w2 ⟨rfl, hR2, hB2, hK2⟩; have HC2 := Aside0.mk ((hK2.2 cb (blk_lt HC.out) HCg.out (by simp)).trans HC.out); have HR2 := Aside0.mk hR2; have HB2 := Aside0.mk hB2; have HK2 := Aside0.mk (HKb.out.trans hK2 (.inl rfl)); have d1 := blk_cell HC2.out 1; clear hR2 hB2 hK2 b0)
   go_ret
   rw [← HF.out, E0.out]
   exact ⟨rfl, HB2.out, HK2.out, ⟨_, _, _, _, _, _, HR2.out, fun q h => by cases h⟩⟩
 ·
  obtain ⟨L, v5, cs, hR, hSr, hF⟩ := hq
  have HR := Aside0.mk (hR.move (w' := wr.alloc (.cells #[.string ⟨#[102, 114, 111, 109]⟩, .bool true, .func (.func 40) #[.pointer (some ⟨g, 0, none⟩)] #[]] 86)) (Below.heap_alloc _ _ _ hR.lt))
  have HF := Aside0.mk hF
  have HSr := Aside0.mk (hSr.ext ((Ext.refl _).alloc (.cells #[.string ⟨#[102, 114, 111, 109]⟩, .bool true, .func (.func 40) #[.pointer (some ⟨g, 0, none⟩)] #[]] 86)))
  have HC := Aside0.mk (show (wr.alloc (.cells #[.string ⟨#[102, 114, 111, 109]⟩, .bool true, .func (.func 40) #[.pointer (some ⟨g, 0, none⟩)] #[]] 86)).heap[wr.heap.size]? = some (.cells #[.string ⟨#[102, 114, 111, 109]⟩, .bool true, .func (.func 40) #[.pointer (some ⟨g, 0, none⟩)] #[]] 86 (0, 0)) from heap_alloc_new _ _)
  have HBb := Aside0.mk (HBW.out.alloc HBW.out.size (.cells #[.string ⟨#[102, 114, 111, 109]⟩, .bool true, .func (.func 40) #[.pointer (some ⟨g, 0, none⟩)] #[]] 86))
  have HKb := Aside0.mk (keep_then HKW.out ((Below.refl _ _).alloc HKW.out.1 (.cells #[.string ⟨#[102, 114, 111, 109]⟩, .bool true, .func (.func 40) #[.pointer (some ⟨g, 0, none⟩)] #[]] 86)))
  have HCg := Aside0.mk (show wr.heap.size ≠ g by have := hR.lt; omega)
  clear hR hF hSr HBW HKW
  go_upto_region 6 with fail
  obtain ⟨cb, hcb⟩ : ∃ n, n = wr.heap.size := ⟨_, rfl⟩
  rw [← hcb] at HC HCg ⊢
  generalize (wr.alloc (.cells #[.string ⟨#[102, 114, 111, 109]⟩, .bool true, .func (.func 40) #[.pointer (some ⟨g, 0, none⟩)] #[]] 86)) = wb at HR HC HBb HKb HSr ⊢
  have b0 := blk_cell HC.out 0
  rcases hp : passL 2 wFrom L with ⟨b, L1⟩
  have hcp : Calls Tryz.prog 45 #[.pointer (some ⟨g, 0, none⟩), .int .i64 2, .string ⟨#[102, 114, 111, 109]⟩] wb (RdP w0 wb g s (.bool b) L1 v5 [] nilV [] false 0) := pass_p hs HR.out HBb.out 2 (by omega) wFrom hp
  have HP := Aside0.mk hp
  clear hp hcb
  cases b with
  | true =>
   go_upto_region 7 with (go_at_call 45; (with_reducible refine hcp.mono ?_); rintro e w2 ⟨rfl, hR2, hB2, hK2⟩; have HC2 := Aside0.mk ((hK2.2 cb (blk_lt HC.out) HCg.out (by simp)).trans HC.out); have HSr := Aside0.mk (HSr.out.keep hK2 HG.out); have HR2 := Aside0.mk hR2; have HB2 := Aside0.mk hB2; have HK2 := Aside0.mk (HKb.out.trans hK2 (.inl rfl)); have d1 := blk_cell HC2.out 1; have d2 := blk_cell HC2.out 2; clear hR2 hB2 hK2 b0)
   have hcc := table_rd hs HR2.out HB2.out
   rcases hco : nameL L1 with ⟨o, L2⟩
   rw [hco] at hcc
   have HCO := Aside0.mk hco
   clear hco
   cases o with
   | none =>
    have e0 : c1 cs L = (none, L2) := by unfold c1; simp only [HP.out, HCO.out, if_true]
    have E0 := Aside0.mk e0
    clear e0
    go_wp2_with (go_at_call 40; (with_reducible refine hcc.mono ?_); rintro e w3 ⟨rfl, hR3, hB3, hK3⟩; have HSr := Aside0.mk (HSr.out.keep hK3 HG.out); have HR3 := Aside0.mk hR3; have HB3 := Aside0.mk hB3; have HK3 := Aside0.mk (HK2.out.trans hK3 (.inl rfl)); clear hR3 hB3 hK3)
    go_ret
    rw [← HF.out, E0.out]
    exact ⟨rfl, HB3.out, HK3.out, ⟨_, _, _, _, _, _, HR3.out, fun q h => by cases h⟩⟩
   | some tb =>
    have e0 : c1 cs L = c2 cs tb L2 := by unfold c1; simp only [HP.out, HCO.out, if_true]
    have E0 := Aside0.mk e0
    clear e0
    go_wp2_with (go_at_call 40; (with_reducible refine hcc.mono ?_); rintro e w3 ⟨rfl, hR3, hB3, hK3⟩; have HSr := Aside0.mk (HSr.out.keep hK3 HG.out); have HR3 := Aside0.mk hR3; have HB3 := Aside0.mk hB3; have HK3 := Aside0.mk (HK2.out.trans hK3 (.inl rfl)); clear hR3 hB3 hK3)
    go_roundw
    case rel => exact ⟨2, by omega, rfl, HB3.out, HK3.out, L2, v5, cs, tb, HR3.out, HSr.out, by rw [← E0.out]; exact HF.out⟩
    case measure => simp [intOf]
  | false =>
   have hL1 : L1 = L := pass_no HP.out
   subst hL1
   have e0 : c1 cs L1 = (none, L1) := by unfold c1; simp only [HP.out]; rfl
   have E0 := Aside0.mk e0
   clear e0
   go_wp2_with (go_at_call 45; (with_reducible refine hcp.mono ?_); rintro e w2 ⟨rfl, hR2, hB2, hK2⟩; have HC2 := Aside0.mk ((hK2.2 cb (blk_lt HC.out) HCg.out (by simp)).trans HC.out); have HSr := Aside0.mk (HSr.out.keep hK2 HG.out); have HR2 := Aside0.mk hR2; have HB2 := Aside0.mk hB2; have HK2 := Aside0.mk (HKb.out.trans hK2 (.inl rfl)); have d1 := blk_cell HC2.out 1; clear hR2 hB2 hK2 b0)
   go_ret
   rw [← HF.out, E0.out]
   exact ⟨rfl, HB2.out, HK2.out, ⟨_, _, _, _, _, _, HR2.out, fun q h => by cases h⟩⟩
 ·
  obtain ⟨L, v5, cs, tb, hR, hSr, hF⟩ := hq
  have HR := Aside0.mk (hR.move (w' := wr.alloc (.cells #[.string ⟨#[119, 104, 101, 114, 101]⟩, .bool false, .func (.func 41) #[.pointer (some ⟨g, 0, none⟩)] #[]] 86)) (Below.heap_alloc _ _ _ hR.lt))
  have HF := Aside0.mk hF
  have HSr := Aside0.mk (hSr.ext ((Ext.refl _).alloc (.cells #[.string ⟨#[119, 104, 101, 114, 101]⟩, .bool false, .func (.func 41) #[.pointer (some ⟨g, 0, none⟩)] #[]] 86)))
  have HC := Aside0.mk (show (wr.alloc (.cells #[.string ⟨#[119, 104, 101, 114, 101]⟩, .bool false, .func (.func 41) #[.pointer (some ⟨g, 0, none⟩)] #[]] 86)).heap[wr.heap.size]? = some (.cells #[.string ⟨#[119, 104, 101, 114, 101]⟩, .bool false, .func (.func 41) #[.pointer (some ⟨g, 0, none⟩)] #[]] 86 (0, 0)) from heap_alloc_new _ _)
  have HBb := Aside0.mk (HBW.out.alloc HBW.out.size (.cells #[.string ⟨#[119, 104, 101, 114, 101]⟩, .bool false, .func (.func 41) #[.pointer (some ⟨g, 0, none⟩)] #[]] 86))
  have HKb := Aside0.mk (keep_then HKW.out ((Below.refl _ _).alloc HKW.out.1 (.cells #[.string ⟨#[119, 104, 101, 114, 101]⟩, .bool false, .func (.func 41) #[.pointer (some ⟨g, 0, none⟩)] #[]] 86)))
  have HCg := Aside0.mk (show wr.heap.size ≠ g by have := hR.lt; omega)
  clear hR hF hSr HBW HKW
  go_upto_region 6 with fail
  obtain ⟨cb, hcb⟩ : ∃ n, n = wr.heap.size := ⟨_, rfl⟩
  rw [← hcb] at HC HCg ⊢
  generalize (wr.alloc (.cells #[.string ⟨#[119, 104, 101, 114, 101]⟩, .bool false, .func (.func 41) #[.pointer (some ⟨g, 0, none⟩)] #[]] 86)) = wb at HR HC HBb HKb HSr ⊢
  have b0 := blk_cell HC.out 0
  rcases hp : passL 2 wWhere L with ⟨b, L1⟩
  have hcp : Calls Tryz.prog 45 #[.pointer (some ⟨g, 0, none⟩), .int .i64 2, .string ⟨#[119, 104, 101, 114, 101]⟩] wb (RdP w0 wb g s (.bool b) L1 v5 tb nilV [] false 0) := pass_p hs HR.out HBb.out 2 (by omega) wWhere hp
  have HP := Aside0.mk hp
  clear hp hcb
  cases b with
  | true =>
   go_upto_region 7 with (go_at_call 45; (with_reducible refine hcp.mono ?_); rintro e w2 ⟨rfl, hR2, hB2, hK2⟩; have HC2 := Aside0.mk ((hK2.2 cb (blk_lt HC.out) HCg.out (by simp)).trans HC.out); have HSr := Aside0.mk (HSr.out.keep hK2 HG.out); have HR2 := Aside0.mk hR2; have HB2 := Aside0.mk hB2; have HK2 := Aside0.mk (HKb.out.trans hK2 (.inl rfl)); have d1 := blk_cell HC2.out 1; have d2 := blk_cell HC2.out 2; clear hR2 hB2 hK2 b0)
   have hcc := tests_rd w0 w2 g s L1 v5 tb [] false 0 hs HR2.out HB2.out
   rcases hco : whL 8 [] L1 with ⟨o, L2⟩
   rw [hco] at hcc
   have HCO := Aside0.mk hco
   clear hco
   cases o with
   | none =>
    have e0 : c2 cs tb L = (none, L2) := by unfold c2; simp only [HP.out, HCO.out, if_true]
    have E0 := Aside0.mk e0
    clear e0
    go_wp2_with (go_at_call 41; (with_reducible refine hcc.mono ?_); rintro e w3 ⟨rfl, ⟨v7, hR3, hx⟩, hB3, hK3⟩; have HSr := Aside0.mk (HSr.out.keep hK3 HG.out); have HX := Aside0.mk hx; have HR3 := Aside0.mk hR3; have HB3 := Aside0.mk hB3; have HK3 := Aside0.mk (HK2.out.trans hK3 (.inl rfl)); clear hR3 hB3 hK3 hx)
    go_ret
    rw [← HF.out, E0.out]
    exact ⟨rfl, HB3.out, HK3.out, ⟨_, _, _, _, _, _, HR3.out, fun q h => by cases h⟩⟩
   | some wh =>
    have e0 : c2 cs tb L = c3 cs tb wh L2 := by unfold c2; simp only [HP.out, HCO.out, if_true]
    have E0 := Aside0.mk e0
    clear e0
    go_wp2_with (go_at_call 41; (with_reducible refine hcc.mono ?_); rintro e w3 ⟨rfl, ⟨v7, hR3, hx⟩, hB3, hK3⟩; have HSr := Aside0.mk (HSr.out.keep hK3 HG.out); have HX := Aside0.mk hx; have HR3 := Aside0.mk hR3; have HB3 := Aside0.mk hB3; have HK3 := Aside0.mk (HK2.out.trans hK3 (.inl rfl)); clear hR3 hB3 hK3 hx)
    go_roundw
    case rel => exact ⟨3, by omega, rfl, HB3.out, HK3.out, L2, v5, cs, tb, v7, wh, HR3.out, HSr.out, own_less (HX.out wh rfl) HK2.out.1, by rw [← E0.out]; exact HF.out⟩
    case measure => simp [intOf]
  | false =>
   have hL1 : L1 = L := pass_no HP.out
   subst hL1
   have e0 : c2 cs tb L1 = c3 cs tb [] L1 := by unfold c2; simp only [HP.out]; rfl
   have E0 := Aside0.mk e0
   clear e0
   go_wp2_with (go_at_call 45; (with_reducible refine hcp.mono ?_); rintro e w2 ⟨rfl, hR2, hB2, hK2⟩; have HC2 := Aside0.mk ((hK2.2 cb (blk_lt HC.out) HCg.out (by simp)).trans HC.out); have HSr := Aside0.mk (HSr.out.keep hK2 HG.out); have HR2 := Aside0.mk hR2; have HB2 := Aside0.mk hB2; have HK2 := Aside0.mk (HKb.out.trans hK2 (.inl rfl)); have d1 := blk_cell HC2.out 1; clear hR2 hB2 hK2 b0)
   go_roundw
   case rel => exact ⟨3, by omega, rfl, HB2.out, HK2.out, L1, v5, cs, tb, nilV, [], HR2.out, HSr.out, World.ownsRow_nil _ _ _ _, by rw [← E0.out]; exact HF.out⟩
   case measure => simp [intOf]
 ·
  obtain ⟨L, v5, cs, tb, v7, wh, hR, hSr, hTr, hF⟩ := hq
  have HR := Aside0.mk (hR.move (w' := wr.alloc (.cells #[.string ⟨#[111, 114, 100, 101, 114]⟩, .bool false, .func (.func 42) #[.pointer (some ⟨g, 0, none⟩)] #[]] 86)) (Below.heap_alloc _ _ _ hR.lt))
  have HF := Aside0.mk hF
  have HSr := Aside0.mk (hSr.ext ((Ext.refl _).alloc (.cells #[.string ⟨#[111, 114, 100, 101, 114]⟩, .bool false, .func (.func 42) #[.pointer (some ⟨g, 0, none⟩)] #[]] 86)))
  have HTr := Aside0.mk (hTr.ext ((Ext.refl _).alloc (.cells #[.string ⟨#[111, 114, 100, 101, 114]⟩, .bool false, .func (.func 42) #[.pointer (some ⟨g, 0, none⟩)] #[]] 86)))
  have HC := Aside0.mk (show (wr.alloc (.cells #[.string ⟨#[111, 114, 100, 101, 114]⟩, .bool false, .func (.func 42) #[.pointer (some ⟨g, 0, none⟩)] #[]] 86)).heap[wr.heap.size]? = some (.cells #[.string ⟨#[111, 114, 100, 101, 114]⟩, .bool false, .func (.func 42) #[.pointer (some ⟨g, 0, none⟩)] #[]] 86 (0, 0)) from heap_alloc_new _ _)
  have HBb := Aside0.mk (HBW.out.alloc HBW.out.size (.cells #[.string ⟨#[111, 114, 100, 101, 114]⟩, .bool false, .func (.func 42) #[.pointer (some ⟨g, 0, none⟩)] #[]] 86))
  have HKb := Aside0.mk (keep_then HKW.out ((Below.refl _ _).alloc HKW.out.1 (.cells #[.string ⟨#[111, 114, 100, 101, 114]⟩, .bool false, .func (.func 42) #[.pointer (some ⟨g, 0, none⟩)] #[]] 86)))
  have HCg := Aside0.mk (show wr.heap.size ≠ g by have := hR.lt; omega)
  clear hR hF hSr hTr HBW HKW
  go_upto_region 6 with fail
  obtain ⟨cb, hcb⟩ : ∃ n, n = wr.heap.size := ⟨_, rfl⟩
  rw [← hcb] at HC HCg ⊢
  generalize (wr.alloc (.cells #[.string ⟨#[111, 114, 100, 101, 114]⟩, .bool false, .func (.func 42) #[.pointer (some ⟨g, 0, none⟩)] #[]] 86)) = wb at HR HC HBb HKb HSr HTr ⊢
  have b0 := blk_cell HC.out 0
  rcases hp : passL 2 wOrder L with ⟨b, L1⟩
  have hcp : Calls Tryz.prog 45 #[.pointer (some ⟨g, 0, none⟩), .int .i64 2, .string ⟨#[111, 114, 100, 101, 114]⟩] wb (RdP w0 wb g s (.bool b) L1 v5 tb v7 [] false 0) := pass_p hs HR.out HBb.out 2 (by omega) wOrder hp
  have HP := Aside0.mk hp
  clear hp hcb
  cases b with
  | true =>
   go_upto_region 7 with (go_at_call 45; (with_reducible refine hcp.mono ?_); rintro e w2 ⟨rfl, hR2, hB2, hK2⟩; have HC2 := Aside0.mk ((hK2.2 cb (blk_lt HC.out) HCg.out (by simp)).trans HC.out); have HSr := Aside0.mk (HSr.out.keep hK2 HG.out); have HTr := Aside0.mk (HTr.out.keep hK2 HG.out); have HR2 := Aside0.mk hR2; have HB2 := Aside0.mk hB2; have HK2 := Aside0.mk (HKb.out.trans hK2 (.inl rfl)); have d1 := blk_cell HC2.out 1; have d2 := blk_cell HC2.out 2; clear hR2 hB2 hK2 b0)
   have hcc := order_rd hs HR2.out HB2.out
   rcases hco : orderL L1 with ⟨o, L2⟩
   rw [hco] at hcc
   have HCO := Aside0.mk hco
   clear hco
   cases o with
   | none =>
    have e0 : c3 cs tb wh L = (none, L2) := by unfold c3; simp only [HP.out, HCO.out, if_true]
    have E0 := Aside0.mk e0
    clear e0
    go_wp2_with (go_at_call 42; (with_reducible refine hcc.mono ?_); rintro e w3 ⟨rfl, hR3, hB3, hK3⟩; have HSr := Aside0.mk (HSr.out.keep hK3 HG.out); have HTr := Aside0.mk (HTr.out.keep hK3 HG.out); have HR3 := Aside0.mk hR3; have HB3 := Aside0.mk hB3; have HK3 := Aside0.mk (HK2.out.trans hK3 (.inl rfl)); clear hR3 hB3 hK3)
    go_ret
    rw [← HF.out, E0.out]
    exact ⟨rfl, HB3.out, HK3.out, ⟨_, _, _, _, _, _, HR3.out, fun q h => by cases h⟩⟩
   | some ox =>
    have e0 : c3 cs tb wh L = c4 cs tb wh ox.1 ox.2 L2 := by unfold c3; simp only [HP.out, HCO.out, if_true]
    have E0 := Aside0.mk e0
    clear e0
    go_wp2_with (go_at_call 42; (with_reducible refine hcc.mono ?_); rintro e w3 ⟨rfl, hR3, hB3, hK3⟩; have HSr := Aside0.mk (HSr.out.keep hK3 HG.out); have HTr := Aside0.mk (HTr.out.keep hK3 HG.out); have HR3 := Aside0.mk hR3; have HB3 := Aside0.mk hB3; have HK3 := Aside0.mk (HK2.out.trans hK3 (.inl rfl)); clear hR3 hB3 hK3)
    go_roundw
    case rel => exact ⟨4, by omega, rfl, HB3.out, HK3.out, L2, v5, cs, tb, v7, wh, ox.1, ox.2, HR3.out, HSr.out, HTr.out, by rw [← E0.out]; exact HF.out⟩
    case measure => simp [intOf]
  | false =>
   have hL1 : L1 = L := pass_no HP.out
   subst hL1
   have e0 : c3 cs tb wh L1 = c4 cs tb wh [] false L1 := by unfold c3; simp only [HP.out]; rfl
   have E0 := Aside0.mk e0
   clear e0
   go_wp2_with (go_at_call 45; (with_reducible refine hcp.mono ?_); rintro e w2 ⟨rfl, hR2, hB2, hK2⟩; have HC2 := Aside0.mk ((hK2.2 cb (blk_lt HC.out) HCg.out (by simp)).trans HC.out); have HSr := Aside0.mk (HSr.out.keep hK2 HG.out); have HTr := Aside0.mk (HTr.out.keep hK2 HG.out); have HR2 := Aside0.mk hR2; have HB2 := Aside0.mk hB2; have HK2 := Aside0.mk (HKb.out.trans hK2 (.inl rfl)); have d1 := blk_cell HC2.out 1; clear hR2 hB2 hK2 b0)
   go_roundw
   case rel => exact ⟨4, by omega, rfl, HB2.out, HK2.out, L1, v5, cs, tb, v7, wh, [], false, HR2.out, HSr.out, HTr.out, by rw [← E0.out]; exact HF.out⟩
   case measure => simp [intOf]
 ·
  obtain ⟨L, v5, cs, tb, v7, wh, od, dn, hR, hSr, hTr, hF⟩ := hq
  have HR := Aside0.mk (hR.move (w' := wr.alloc (.cells #[.string ⟨#[108, 105, 109, 105, 116]⟩, .bool false, .func (.func 43) #[.pointer (some ⟨g, 0, none⟩)] #[]] 86)) (Below.heap_alloc _ _ _ hR.lt))
  have HF := Aside0.mk hF
  have HSr := Aside0.mk (hSr.ext ((Ext.refl _).alloc (.cells #[.string ⟨#[108, 105, 109, 105, 116]⟩, .bool false, .func (.func 43) #[.pointer (some ⟨g, 0, none⟩)] #[]] 86)))
  have HTr := Aside0.mk (hTr.ext ((Ext.refl _).alloc (.cells #[.string ⟨#[108, 105, 109, 105, 116]⟩, .bool false, .func (.func 43) #[.pointer (some ⟨g, 0, none⟩)] #[]] 86)))
  have HC := Aside0.mk (show (wr.alloc (.cells #[.string ⟨#[108, 105, 109, 105, 116]⟩, .bool false, .func (.func 43) #[.pointer (some ⟨g, 0, none⟩)] #[]] 86)).heap[wr.heap.size]? = some (.cells #[.string ⟨#[108, 105, 109, 105, 116]⟩, .bool false, .func (.func 43) #[.pointer (some ⟨g, 0, none⟩)] #[]] 86 (0, 0)) from heap_alloc_new _ _)
  have HBb := Aside0.mk (HBW.out.alloc HBW.out.size (.cells #[.string ⟨#[108, 105, 109, 105, 116]⟩, .bool false, .func (.func 43) #[.pointer (some ⟨g, 0, none⟩)] #[]] 86))
  have HKb := Aside0.mk (keep_then HKW.out ((Below.refl _ _).alloc HKW.out.1 (.cells #[.string ⟨#[108, 105, 109, 105, 116]⟩, .bool false, .func (.func 43) #[.pointer (some ⟨g, 0, none⟩)] #[]] 86)))
  have HCg := Aside0.mk (show wr.heap.size ≠ g by have := hR.lt; omega)
  clear hR hF hSr hTr HBW HKW
  go_upto_region 6 with fail
  obtain ⟨cb, hcb⟩ : ∃ n, n = wr.heap.size := ⟨_, rfl⟩
  rw [← hcb] at HC HCg ⊢
  generalize (wr.alloc (.cells #[.string ⟨#[108, 105, 109, 105, 116]⟩, .bool false, .func (.func 43) #[.pointer (some ⟨g, 0, none⟩)] #[]] 86)) = wb at HR HC HBb HKb HSr HTr ⊢
  have b0 := blk_cell HC.out 0
  rcases hp : passL 2 wLimit L with ⟨b, L1⟩
  have hcp : Calls Tryz.prog 45 #[.pointer (some ⟨g, 0, none⟩), .int .i64 2, .string ⟨#[108, 105, 109, 105, 116]⟩] wb (RdP w0 wb g s (.bool b) L1 v5 tb v7 od dn 0) := pass_p hs HR.out HBb.out 2 (by omega) wLimit hp
  have HP := Aside0.mk hp
  clear hp hcb
  cases b with
  | true =>
   go_upto_region 7 with (go_at_call 45; (with_reducible refine hcp.mono ?_); rintro e w2 ⟨rfl, hR2, hB2, hK2⟩; have HC2 := Aside0.mk ((hK2.2 cb (blk_lt HC.out) HCg.out (by simp)).trans HC.out); have HSr := Aside0.mk (HSr.out.keep hK2 HG.out); have HTr := Aside0.mk (HTr.out.keep hK2 HG.out); have HR2 := Aside0.mk hR2; have HB2 := Aside0.mk hB2; have HK2 := Aside0.mk (HKb.out.trans hK2 (.inl rfl)); have d1 := blk_cell HC2.out 1; have d2 := blk_cell HC2.out 2; clear hR2 hB2 hK2 b0)
   have hcc := limit_rd hs HR2.out HB2.out HR2.out.num
   rcases hco : limitL L1 with ⟨o, L2⟩
   rw [hco] at hcc
   have HCO := Aside0.mk hco
   clear hco
   cases o with
   | none =>
    have e0 : c4 cs tb wh od dn L = (none, L2) := by unfold c4; simp only [HP.out, HCO.out, if_true]
    have E0 := Aside0.mk e0
    clear e0
    go_wp2_with (go_at_call 43; (with_reducible refine hcc.mono ?_); rintro e w3 ⟨rfl, hR3, hB3, hK3⟩; have HSr := Aside0.mk (HSr.out.keep hK3 HG.out); have HTr := Aside0.mk (HTr.out.keep hK3 HG.out); have HR3 := Aside0.mk hR3; have HB3 := Aside0.mk hB3; have HK3 := Aside0.mk (HK2.out.trans hK3 (.inl rfl)); clear hR3 hB3 hK3)
    go_ret
    rw [← HF.out, E0.out]
    exact ⟨rfl, HB3.out, HK3.out, ⟨_, _, _, _, _, _, HR3.out, fun q h => by cases h⟩⟩
   | some lm =>
    have e0 : c4 cs tb wh od dn L = c5 cs tb wh od dn lm L2 := by unfold c4; simp only [HP.out, HCO.out, if_true]
    have E0 := Aside0.mk e0
    clear e0
    go_wp2_with (go_at_call 43; (with_reducible refine hcc.mono ?_); rintro e w3 ⟨rfl, hR3, hB3, hK3⟩; have HSr := Aside0.mk (HSr.out.keep hK3 HG.out); have HTr := Aside0.mk (HTr.out.keep hK3 HG.out); have HR3 := Aside0.mk hR3; have HB3 := Aside0.mk hB3; have HK3 := Aside0.mk (HK2.out.trans hK3 (.inl rfl)); clear hR3 hB3 hK3)
    go_roundw
    case rel => exact ⟨5, by omega, rfl, HB3.out, HK3.out, L2, v5, cs, tb, v7, wh, od, dn, lm, HR3.out, HSr.out, HTr.out, by rw [← E0.out]; exact HF.out⟩
    case measure => simp [intOf]
  | false =>
   have hL1 : L1 = L := pass_no HP.out
   subst hL1
   have e0 : c4 cs tb wh od dn L1 = c5 cs tb wh od dn 0 L1 := by unfold c4; simp only [HP.out]; rfl
   have E0 := Aside0.mk e0
   clear e0
   go_wp2_with (go_at_call 45; (with_reducible refine hcp.mono ?_); rintro e w2 ⟨rfl, hR2, hB2, hK2⟩; have HC2 := Aside0.mk ((hK2.2 cb (blk_lt HC.out) HCg.out (by simp)).trans HC.out); have HSr := Aside0.mk (HSr.out.keep hK2 HG.out); have HTr := Aside0.mk (HTr.out.keep hK2 HG.out); have HR2 := Aside0.mk hR2; have HB2 := Aside0.mk hB2; have HK2 := Aside0.mk (HKb.out.trans hK2 (.inl rfl)); have d1 := blk_cell HC2.out 1; clear hR2 hB2 hK2 b0)
   go_roundw
   case rel => exact ⟨5, by omega, rfl, HB2.out, HK2.out, L1, v5, cs, tb, v7, wh, od, dn, 0, HR2.out, HSr.out, HTr.out, by rw [← E0.out]; exact HF.out⟩
   case measure => simp [intOf]
 ·
  obtain ⟨L, v5, cs, tb, v7, wh, od, dn, lm, hR, hSr, hTr, hF⟩ := hq
  have HR := Aside0.mk hR
  have HF := Aside0.mk hF
  have HSr := Aside0.mk hSr
  have HTr := Aside0.mk hTr
  have k2 := hR.c23.1
  clear hF hR hSr hTr
  have hnl : ¬ ((5 : Int) < 5) := by omega
  by_cases hk : (hdT L).kind = 0
  ·
   have e0 : c5 cs tb wh od dn lm L = (some ⟨cs, tb, wh, od, dn, lm⟩, L) := by unfold c5; rw [if_pos hk]
   have E0 := Aside0.mk e0
   have hkb : (((hdT L).kind : Int) == 0) = true := by rw [hk]; rfl
   clear hk e0
   go_wp2_with fail
   go_ret
   rw [← HF.out, E0.out]
   exact ⟨rfl, HBW.out, HKW.out, ⟨_, _, _, _, _, _, HR.out, fun q h => by obtain rfl := Option.some.inj h; exact ⟨HSr.out, HTr.out, rfl, rfl, rfl, rfl⟩⟩⟩
  ·
   have e0 : c5 cs tb wh od dn lm L = (none, L) := by unfold c5; rw [if_neg hk]
   have E0 := Aside0.mk e0
   have hkb : (((hdT L).kind : Int) == 0) = false := by rw [beq_eq_false_iff_ne]; omega
   clear hk e0
   go_wp2_with fail
   go_ret
   rw [← HF.out, E0.out]
   exact ⟨rfl, HBW.out, HKW.out, ⟨_, _, _, _, _, _, HR.out, fun q h => by cases h⟩⟩
end Go.Proofs.YthhemephaabblaaGreatDoor.Hq
namespace Go.Proofs.YthhemephaabblaaGreatDoor.Hq
open Go.RowKit Go.Proofs.YthhemephaabblaaGreatDoorW.PrintWords Go.Proofs.YthhemephaabblaaGreatDoorW.PrintLast Go.Proofs.YthhemephaabblaaGreatDoorW.PrintMore Go.Proofs.YthhemephaabblaaGreatDoor Go.Proofs.YthhemephaabblaaGreatDoor.Q Go.Proofs.YthhemephaabblaaGreatDoor.R
set_option linter.unusedVariables false
set_option linter.unusedSimpArgs false
theorem quoL_len : ∀ (n : Nat) (l : List UInt8) (x : List UInt8 × Nat), l.length = n → quoL l = some x → x.1.length ≤ l.length
 | _, [], x, _, h => by cases h
 | 0, c :: r, x, hn, h => by simp at hn
 | n + 1, c :: r, x, hn, h => by
  rw [quoL_cons] at h
  by_cases h34 : c = 34
  ·
   rw [if_pos h34] at h
   obtain rfl := Option.some.inj h
   simp
  ·
   rw [if_neg h34] at h
   by_cases h92 : c = 92
   ·
    rw [if_pos h92] at h
    match r, hn, h with
    | [], _, h => cases h
    | d :: r', hn, h =>
     simp only at h
     by_cases hd : d = 34 ∨ d = 92
     ·
      rw [if_pos hd] at h
      obtain ⟨y, hy, rfl⟩ := Option.map_eq_some_iff.1 h
      have hn' : r'.length + 1 + 1 = n + 1 := by simpa using hn
      have := quoL_len (n - 1) r' y (by omega) hy
      simp only [List.length_cons]
      omega
     ·
      rw [if_neg hd] at h; cases h
   ·
    rw [if_neg h92] at h
    obtain ⟨y, hy, rfl⟩ := Option.map_eq_some_iff.1 h
    have hn' : r.length + 1 = n + 1 := by simpa using hn
    have := quoL_len n r y (by omega) hy
    simp only [List.length_cons]
    omega
theorem tk_says (s : List UInt8) (a : Nat) : (tk s a).1.says.length ≤ s.length := by
 unfold tk
 cases hc : s[a]? with
 | none => simp
 | some c =>
  have ht : ∀ p : UInt8 → Bool, ((s.drop a).takeWhile p).length ≤ s.length := fun p => by
   have := (List.takeWhile_prefix (l := s.drop a) p).length_le
   rw [List.length_drop] at this
   omega
  simp only
  split
  ·
   exact ht _
  ·
   split
   ·
    exact ht _
   ·
    split
    ·
     split
     ·
      rename_i x hx
      have := quoL_len _ _ x rfl hx
      rw [List.length_drop] at this
      exact Nat.le_trans this (Nat.sub_le _ _)
     ·
      simp
    ·
     split
     ·
      simp
     ·
      have := signOf_le (s.drop a)
      rw [List.length_drop] at this
      exact Nat.le_trans this (Nat.sub_le _ _)
theorem toksF_says (s : List UInt8) : ∀ (n p : Nat), ∀ t ∈ toksF n s p, t.says.length ≤ s.length
 | 0, _, t, h => by cases h
 | n + 1, p, t, h => by
  rw [toksF] at h
  rcases List.mem_cons.1 h with rfl | h
  ·
   rw [tokAt_tk]; exact tk_says s _
  ·
   split at h
   ·
    cases h
   ·
    exact toksF_says s n _ t h
def Sub (L' L : List Tk) : Prop := ∀ t ∈ L', t ∈ L
theorem Sub.refl (L : List Tk) : Sub L L := fun _ h => h
theorem Sub.trans {A B C : List Tk} (h : Sub A B) (k : Sub B C) : Sub A C := fun t ht => k t (h t ht)
theorem Sub.tail (L : List Tk) : Sub L.tail L := fun t h => List.mem_of_mem_tail h
theorem hd_says {L : List Tk} {M : Nat} (h : ∀ t ∈ L, t.says.length ≤ M) : (hdT L).says.length ≤ M := by
 match L, h with
 | [], _ => exact Nat.zero_le _
 | t :: _, h => exact h t (by simp)
theorem pass_sub (k : Nat) (w : List UInt8) (L : List Tk) : Sub (passL k w L).2 L := by
 unfold passL
 split
 ·
  exact Sub.tail L
 ·
  exact Sub.refl L
theorem name_len {L : List Tk} {c : List UInt8} {L1 : List Tk} (h : nameL L = (some c, L1)) : c.length ≤ 16 ∧ Sub L1 L := by
 unfold nameL at h
 split at h
 ·
  rename_i hh
  obtain ⟨h1, rfl⟩ := Prod.mk.inj h
  obtain rfl := Option.some.inj h1
  exact ⟨hh.2, Sub.tail L⟩
 ·
  simp at h
theorem cols_bnd : ∀ (n : Nat) (acc : List (List UInt8)) (L : List Tk) (cs : List (List UInt8)) (L1 : List Tk), (∀ c ∈ acc, c.length ≤ 16) → colsL n acc L = (some cs, L1) → (∀ c ∈ cs, c.length ≤ 16) ∧ cs.length ≤ acc.length + n ∧ Sub L1 L
 | 0, acc, L, cs, L1, _, h => by unfold colsL at h; simp at h
 | n + 1, acc, L, cs, L1, ha, h => by
  rw [colsL] at h
  rcases hn : nameL L with ⟨o, L2⟩
  rw [hn] at h
  cases o with
  | none => simp at h
  | some c =>
   obtain ⟨hc, hs⟩ := name_len hn
   have hac : ∀ x ∈ acc ++ [c], x.length ≤ 16 := by
    intro x hx
    rcases List.mem_append.1 hx with hx | hx
    ·
     exact ha x hx
    ·
     rw [List.mem_singleton] at hx; subst hx; exact hc
   simp only at h
   split at h
   ·
    obtain ⟨h1, h2, h3⟩ := cols_bnd n _ _ cs L1 hac h
    exact ⟨h1, by simp at h2; omega, (h3.trans (pass_sub _ _ _)).trans hs⟩
   ·
    obtain ⟨h1, rfl⟩ := Prod.mk.inj h
    obtain rfl := Option.some.inj h1
    exact ⟨hac, by simp, hs⟩
theorem columns_bnd {L : List Tk} {cs : List (List UInt8)} {L1 : List Tk} (h : columnsL L = (some cs, L1)) : (∀ c ∈ cs, c.length ≤ 16) ∧ cs.length ≤ 8 ∧ Sub L1 L := by
 unfold columnsL at h
 split at h
 ·
  obtain ⟨h1, rfl⟩ := Prod.mk.inj h
  obtain rfl := Option.some.inj h1
  refine ⟨fun c hc => ?_, ?_, pass_sub _ _ _⟩
  ·
   cases hc
  ·
   simp
 ·
  have := cols_bnd 8 [] L cs L1 (fun c hc => by cases hc) h
  simpa using this
theorem test_bnd {M : Nat} {L : List Tk} {t : Tst} {L1 : List Tk} (hM : ∀ t ∈ L, t.says.length ≤ M) (h : testL L = (some t, L1)) : t.col.length ≤ 16 ∧ t.val.length ≤ M ∧ Sub L1 L := by
 unfold testL at h
 rcases hn : nameL L with ⟨o, L2⟩
 rw [hn] at h
 cases o with
 | none => simp at h
 | some c =>
  obtain ⟨hc, hs⟩ := name_len hn
  simp only at h
  split at h
  ·
   split at h
   ·
    obtain ⟨h1, rfl⟩ := Prod.mk.inj h
    obtain rfl := Option.some.inj h1
    exact ⟨hc, hd_says (fun t ht => hM t (((Sub.tail _).trans hs) t ht)), ((Sub.tail _).trans (Sub.tail _)).trans hs⟩
   ·
    simp at h
  ·
   simp at h
theorem wh_bnd {M : Nat} : ∀ (n : Nat) (acc : List Tst) (L : List Tk) (ts : List Tst) (L1 : List Tk), (∀ t ∈ L, t.says.length ≤ M) → (∀ t ∈ acc, t.col.length ≤ 16 ∧ t.val.length ≤ M) → whL n acc L = (some ts, L1) → (∀ t ∈ ts, t.col.length ≤ 16 ∧ t.val.length ≤ M) ∧ ts.length ≤ acc.length + n ∧ Sub L1 L
 | 0, acc, L, ts, L1, _, _, h => by unfold whL at h; simp at h
 | n + 1, acc, L, ts, L1, hM, ha, h => by
  rw [whL] at h
  rcases hn : testL L with ⟨o, L2⟩
  rw [hn] at h
  cases o with
  | none => simp at h
  | some t =>
   obtain ⟨h1, h2, hs⟩ := test_bnd hM hn
   have hat : ∀ x ∈ acc ++ [t], x.col.length ≤ 16 ∧ x.val.length ≤ M := by
    intro x hx
    rcases List.mem_append.1 hx with hx | hx
    ·
     exact ha x hx
    ·
     rw [List.mem_singleton] at hx; subst hx; exact ⟨h1, h2⟩
   simp only at h
   split at h
   ·
    obtain ⟨h1, h2, h3⟩ := wh_bnd n _ _ ts L1 (fun t ht => hM t (((pass_sub _ _ _).trans hs) t ht)) hat h
    exact ⟨h1, by simp at h2; omega, (h3.trans (pass_sub _ _ _)).trans hs⟩
   ·
    obtain ⟨h1, rfl⟩ := Prod.mk.inj h
    obtain rfl := Option.some.inj h1
    exact ⟨hat, by simp, hs⟩
structure PB (M : Nat) (q : Qry) : Prop where
 cols : ∀ c ∈ q.cols, c.length ≤ 16
 ncols : q.cols.length ≤ 8
 tab : q.tab.length ≤ 16
 wh : ∀ t ∈ q.wh, t.col.length ≤ 16 ∧ t.val.length ≤ M
 nwh : q.wh.length ≤ 8
 ord : q.ord.length ≤ 16
theorem PB.okQ {M : Nat} {q : Qry} (h : PB M q) (hM : M ≤ 1000000000000) : okQ q :=
 ⟨fun c hc => by have := h.cols c hc; omega, by have := h.tab; omega, fun t ht => by have := h.wh t ht; omega, by have := h.ord; omega, by have := h.ncols; omega, by have := h.nwh; omega⟩
theorem c5_bnd {M : Nat} {cs tb wh od dn lm} {L : List Tk} {q : Qry} {L1 : List Tk} (h1 : ∀ c ∈ cs, c.length ≤ 16) (h2 : cs.length ≤ 8) (h3 : tb.length ≤ 16) (h4 : ∀ t ∈ wh, t.col.length ≤ 16 ∧ t.val.length ≤ M) (h5 : wh.length ≤ 8) (h6 : od.length ≤ 16) (h : c5 cs tb wh od dn lm L = (some q, L1)) : PB M q := by
 unfold c5 at h
 split at h
 ·
  obtain ⟨h0, _⟩ := Prod.mk.inj h
  obtain rfl := Option.some.inj h0
  exact ⟨h1, h2, h3, h4, h5, h6⟩
 ·
  simp at h
theorem parse_bnd {M : Nat} {L : List Tk} {q : Qry} {L1 : List Tk} (hM : ∀ t ∈ L, t.says.length ≤ M) (h : parseL L = (some q, L1)) : PB M q := by
 unfold parseL at h
 split at h
 ·
  rcases hc : columnsL (passL 2 wSelect L).2 with ⟨o, La⟩
  rw [hc] at h
  cases o with
  | none => simp at h
  | some cs =>
   obtain ⟨k1, k2, s1⟩ := columns_bnd hc
   have S1 := s1.trans (pass_sub _ _ _)
   simp only at h
   unfold c1 at h
   split at h
   ·
    rcases hn : nameL (passL 2 wFrom La).2 with ⟨o, Lb⟩
    rw [hn] at h
    cases o with
    | none => simp at h
    | some tb =>
     obtain ⟨k3, s2⟩ := name_len hn
     have S2 := (s2.trans (pass_sub _ _ _)).trans S1
     simp only at h
     unfold c2 at h
     have after : ∀ wh Lc, (∀ t ∈ wh, t.col.length ≤ 16 ∧ t.val.length ≤ M) → wh.length ≤ 8 → c3 cs tb wh Lc = (some q, L1) → PB M q := by
      intro wh Lc k4 k5 h
      unfold c3 at h
      have fin : ∀ od dn Ld, od.length ≤ 16 → c4 cs tb wh od dn Ld = (some q, L1) → PB M q := by
       intro od dn Ld k6 h
       unfold c4 at h
       split at h
       ·
        rcases hl : limitL (passL 2 wLimit Ld).2 with ⟨o, Le⟩
        rw [hl] at h
        cases o with
        | none => simp at h
        | some lm => exact c5_bnd k1 k2 k3 k4 k5 k6 h
       ·
        exact c5_bnd k1 k2 k3 k4 k5 k6 h
      split at h
      ·
       rcases ho : orderL (passL 2 wOrder Lc).2 with ⟨o, Ld⟩
       rw [ho] at h
       cases o with
       | none => simp at h
       | some od =>
        refine fin _ _ Ld ?_ h
        unfold orderL at ho
        split at ho
        ·
         rcases hn2 : nameL (passL 2 wBy (passL 2 wOrder Lc).2).2 with ⟨o2, Le⟩
         rw [hn2] at ho
         cases o2 with
         | none => simp at ho
         | some c =>
          obtain ⟨h0, _⟩ := Prod.mk.inj ho
          obtain rfl := Option.some.inj h0
          exact (name_len hn2).1
        ·
         simp at ho
      ·
       exact fin _ _ Lc (by simp) h
     split at h
     ·
      rcases hw : whL 8 [] (passL 2 wWhere Lb).2 with ⟨o, Lc⟩
      rw [hw] at h
      cases o with
      | none => simp at h
      | some wh =>
       obtain ⟨k4, k5, s3⟩ := wh_bnd 8 [] _ wh Lc (fun t ht => hM t (((pass_sub _ _ _).trans S2) t ht)) (fun t ht => by cases ht) hw
       exact after wh Lc k4 (by simpa using k5) h
     ·
      exact after [] Lb (fun t ht => by cases ht) (by simp) h
   ·
    simp at h
 ·
  simp at h
theorem parse_ok (s : List UInt8) {q : Qry} {L1 : List Tk} (h : parseL (toks s 0) = (some q, L1)) : PB s.length q := parse_bnd (fun t ht => toksF_says s _ _ t ht) h
theorem sr_C {B : Nat} {w : World} {v : Value} {xs : List (List UInt8)} (h : Sr B w v xs) (hl : xs.length ≤ 1000000000) : ∃ A c, v = .slice A xs.length c ∧ xs.length ≤ c ∧ Kd.C Kd.string w A xs.length (xs.map strB) := by
 obtain ⟨A, c, rfl, hc⟩ := own_form h
 refine ⟨A, c, rfl, hc, by rw [List.length_map], by omega, fun hp => ?_⟩
 rcases h.2 with ⟨he, h0⟩ | ⟨g, cap, cur, he, _⟩
 ·
  omega
 ·
  injection he with hA _ _
  subst hA
  refine ⟨_, rfl, fun j p hj => ⟨[.string p], rfl, rfl, fun i u hu => ?_⟩⟩
  have hi : i = 0 := by have := (List.getElem?_eq_some_iff.1 hu).1; simpa using this
  subst hi
  simp only [List.getElem?_cons_zero, Option.some.injEq] at hu
  subst hu
  have e : Kd.string.sz = 1 := rfl
  rw [e, Nat.mul_one, Nat.add_zero]
  refine World.ownsRow.cells h (g := g) rfl j _ ?_
  rw [List.getElem?_map] at hj ⊢
  cases hx : xs[j]? with
  | none => rw [hx] at hj; cases hj
  | some y => rw [hx] at hj; obtain rfl := Option.some.inj hj; rfl
theorem flat_get (ts : List Tst) : ∀ (j i : Nat) (t : Tst), ts[j]? = some t → i < 3 → (ts.flatMap tcells)[j * 3 + i]? = (tcells t)[i]? := by
 induction ts with
 | nil => intro j i t h; simp at h
 | cons x ts ih =>
  intro j i t h hi
  rw [List.flatMap_cons]
  cases j with
  | zero =>
   simp only [List.getElem?_cons_zero, Option.some.injEq] at h
   subst h
   rw [Nat.zero_mul, Nat.zero_add, List.getElem?_append_left (by simpa [tcells] using hi)]
  | succ j =>
   rw [List.getElem?_append_right (by simp [tcells]; omega)]
   have := ih j i t (by simpa using h) hi
   rw [← this]
   congr 1
   simp [tcells]
   omega
theorem tr_C {B : Nat} {w : World} {v : Value} {ts : List Tst} (h : Tr B w v ts) (hl : ts.length ≤ 1000000000) : ∃ A c, v = .slice A ts.length c ∧ ts.length ≤ c ∧ Kd.C k37 w A ts.length (ts.map t37) := by
 obtain ⟨A, c, rfl, hc⟩ := own_form h
 refine ⟨A, c, rfl, hc, by rw [List.length_map], by omega, fun hp => ?_⟩
 rcases h.2 with ⟨he, h0⟩ | ⟨g, cap, cur, he, _⟩
 ·
  omega
 ·
  injection he with hA _ _
  subst hA
  refine ⟨_, rfl, fun j p hj => ⟨[.string p.f0, .int .i64 p.f1, .string p.f2], rfl, k37_mk w p, fun i u hu => ?_⟩⟩
  have hi : i < 3 := (List.getElem?_eq_some_iff.1 hu).1
  have e : k37.sz = 3 := rfl
  rw [e]
  refine World.ownsRow.cells h (g := g) rfl _ _ ?_
  rw [List.getElem?_map] at hj
  cases hx : ts[j]? with
  | none => rw [hx] at hj; cases hj
  | some y =>
   rw [hx] at hj
   obtain rfl := Option.some.inj hj
   rw [flat_get ts j i y hx hi]
   exact hu
end Go.Proofs.YthhemephaabblaaGreatDoor.Hq
set_option linter.unusedVariables false
set_option linter.unusedSimpArgs false
namespace Go.Proofs.YthhemephaabblaaGreatDoorW.PrintLast
open Go.RowKit
section
variable {P : Program} {ops : Array Oper} {Q : Exit → Act → World → Prop}
def GoodK (Ri : World → World → Prop) (P : Program) (o : Oper) (a : Act) (w : World) (Gi : World → Value → Prop) : Prop :=
 (∃ v w', (execOp a.eval o).run P w = .ok (.value v) w' ∧ Ri w w' ∧ Gi w' v) ∨
 (∃ f vs, (execOp a.eval o).run P w = .ok (.enter f vs) w ∧ Calls P f vs w (fun e w' => ∃ v, e = .returned v ∧ Ri w w' ∧ Gi w' v)) ∨
 (∃ w', (execOp a.eval o).run P w = .ok .skip w' ∧ Ri w w' ∧ Gi w' undef)
theorem GoodK.wp {Ri : World → World → Prop} {o : Oper} {a : Act} {w : World} {Gi : World → Value → Prop} {K : Act → World → Prop} (h : GoodK Ri P o a w Gi) (hk : ∀ v w', Ri w w' → Gi w' v → K (a.put o.dst v) w') : Oper.wp P o a w K Q := by
 unfold Oper.wp
 rcases h with ⟨v, w', e, h1, h2⟩ | ⟨f, vs, e, hc⟩ | ⟨w', e, h1, h2⟩
 ·
  rw [e]; exact hk v w' h1 h2
 ·
  rw [e]; exact hc.mono (fun e w' ⟨v, he, h1, h2⟩ => by subst he; exact hk v w' h1 h2)
 ·
  rw [e]; exact hk undef w' h1 h2
def StepK (J : World → Prop) (R : Nat → World → World → Prop) (P : Program) (ops : Array Oper) (a0 : Act) (D : List (Nat × Tmp)) (G : Nat → World → Value → Prop) (i : Nat) : Prop :=
 ∃ o, ops[i]? = some o ∧ ∀ a w, J w → Has a0 a D ((bitsOf (rtab .any ops).2).getD i 0) G w →
  (Region.wanted o (yielded ops a.tmps) = true ∧ GoodK (R i) P o a w (G i)) ∨ (Region.wanted o (yielded ops a.tmps) = false ∧ G i w undef)
theorem stepK_nil {J : World → Prop} {R : Nat → World → World → Prop} {a0 : Act} {D : List (Nat × Tmp)} {G : Nat → World → Value → Prop} : ∀ i ∈ ([] : List Nat), StepK J R P ops a0 D G i := fun _ h => by cases h
theorem stepK_cons {J : World → Prop} {R : Nat → World → World → Prop} {a0 : Act} {D : List (Nat × Tmp)} {G : Nat → World → Value → Prop} {i : Nat} {rs : List Nat} (h : StepK J R P ops a0 D G i) (hs : ∀ j ∈ rs, StepK J R P ops a0 D G j) : ∀ j ∈ i :: rs, StepK J R P ops a0 D G j := fun j hj => by
 rcases List.mem_cons.1 hj with rfl | hj
 ·
  exact h
 ·
  exact hs j hj
theorem exk_tail (J : World → Prop) (R : Nat → World → World → Prop) {id : Nat} {a0 : Act} {w0 : World} (n : Nat) (D : List (Nat × Tmp)) (O : List Nat) (G : Nat → World → Value → Prop) (hm : P.follows .mixedOrders = true) (hok : extOk1 ops D n = true) (hfit : fits a0 D = true) (hO : List.range (n - 1) = O)
  (hJ0 : J w0.drew) (hRJ : ∀ i w w', J w → R i w w' → J w') (hR0 : ∀ i w, R i w w) (hG : ∀ i j w w' v, j ≠ i → G j w v → R i w w' → G j w' v) (hs : ∀ i ∈ O, StepK J R P ops a0 D G i)
  (hend : ∃ o, ops[n - 1]? = some o ∧ ∀ (vals : Nat → Value) (w' : World), J w' → (∀ i ∈ O, (D.any fun e => e.1 == i) = true → G i w' (vals i)) →
   Region.wanted o (yielded ops (putAll a0 (D.map fun e => (e.2, vals e.1))).tmps) = true ∧ ∀ K : Act → World → Prop, Shut (∀ a' w'', Q .normal a' w'' → K a' w'') → Oper.wp P o (putAll a0 (D.map fun e => (e.2, vals e.1))) w' K Q) :
  (Code.region id ops true).wp P Q a0 w0 := by
 subst hO
 simp only [extOk1, Bool.and_eq_true, beq_iff_eq] at hok
 obtain ⟨⟨⟨⟨⟨⟨⟨hn, hw⟩, hk⟩, hd⟩, hdist⟩, hDlt⟩, hall1⟩, hpos⟩ := hok
 have hn0 : 0 < n := of_decide_eq_true hpos
 have hfall : ∀ j, j < n - 1 → ((bitsOf (rtab .any ops).2).getD (n - 1) 0).testBit j = true := fun j hj => List.all_eq_true.1 hall1 j (List.mem_range.2 hj)
 have hdist' : ∀ (k : Nat) (i : Nat) (t : Tmp), D[k]? = some (i, t) → ((D.take k ++ D.drop (k + 1)).all fun e => !(e.1 == i) && !(e.2 == t)) = true := fun k i t h => by
  have h1 := List.all_eq_true.1 hdist k (List.mem_range.2 (List.getElem?_eq_some_iff.1 h).1)
  rw [h] at h1
  exact h1
 have hfit' : ∀ e ∈ D, Nat.ble (e.2 + 1) a0.tmps.size = true := fun e he => List.all_eq_true.1 hfit e he
 refine start_ (n := n) (S := fun _ => True) (ds := []) (Array.replicate n false) hm hn rfl trivial (fun _ => ?_)
 have hTl : (rtab .any ops).2.length = n := by rw [rtab_length, hn]
 refine inv_ (md := .any) (T := rtab .any ops) (B := bitsOf (rtab .any ops).2) (List.range n)
  (fun b a w => if b (n - 1) = true then Q .normal a w else (J w ∧ ∃ vals : Nat → Value, a = putSel a0 b (D.map fun e => (e.1, e.2, vals e.1)) ∧ ∀ i, b i = true → G i w (vals i))) rfl hw hk ?_ ?_ ?_ ?_
 ·
  rw [hTl, Bool.and_eq_true, beq_iff_eq, beq_iff_eq]
  refine ⟨?_, by simp⟩
  rw [Array.toList_replicate]
  refine List.ext_getElem (by simp [lof]) (fun j h1 h2 => ?_)
  have hj : j < n := by simpa [lof] using h1
  simp [lof, hj]
 ·
  dsimp only
  rw [if_neg Bool.false_ne_true]
  refine ⟨hJ0, fun _ => undef, ?_, fun i h => by cases h⟩
  rw [putSel_begin (fun e he => rfl)]
 ·
  intro i hi b a w hI hbi hon hoff
  have hin : i < n := List.mem_range.1 hi
  by_cases hif : i = n - 1
  ·
   subst hif
   rw [if_neg (by rw [hbi]; decide)] at hI
   obtain ⟨hE, vals, ha, hg⟩ := hI
   obtain ⟨o, ho, hlast⟩ := hend
   have hall' : ∀ j, j < n - 1 → b j = true := fun j hj => hon j (by rw [hfall j hj, Bool.and_true]; exact List.contains_iff_mem.2 (List.mem_range.2 (by omega)))
   have ha' : a = putAll a0 (D.map fun e => (e.2, vals e.1)) := by
    rw [ha, putSel_all (fun x hx => by
     obtain ⟨e, he, rfl⟩ := List.mem_map.1 hx
     exact hall' _ (of_decide_eq_true (List.all_eq_true.1 hDlt e he))), List.map_map]
    rfl
   refine ⟨o, ho, fun K hK => ?_⟩
   obtain ⟨hw1, hfin⟩ := hlast vals w hE (fun j hj _ => hg j (hall' j (List.mem_range.1 hj)))
   rw [← ha'] at hw1 hfin
   rw [if_pos hw1]
   exact hfin K (fun a' w'' hq => hK a' w'' (by dsimp only; rw [if_pos (up_self b _)]; exact hq))
  have hi1 : i ∈ List.range (n - 1) := List.mem_range.2 (by omega)
  have hbf : b (n - 1) = false := hoff (n - 1) (by rw [hfall i (by omega), Bool.and_true]; exact List.contains_iff_mem.2 (List.mem_range.2 (by omega)))
  rw [if_neg (by rw [hbf]; decide)] at hI
  obtain ⟨hE, vals, ha, hg⟩ := hI
  obtain ⟨o, ho, hstep⟩ := hs i hi1
  refine ⟨o, ho, fun K hK => ?_⟩
  have hD := List.all_eq_true.1 hd i hi1
  rw [ho] at hD
  simp only at hD
  have next : ∀ v w', R i w w' → G i w' v → K (a.put o.dst v) w' := by
   intro v w' hE' hv
   refine hK _ _ ?_
   dsimp only
   rw [if_neg (by rw [up_ne (fun e => hif e.symm), hbf]; decide)]
   refine ⟨hRJ i _ _ hE hE', fun j => if j = i then v else vals j, ?_, fun j hj => ?_⟩
   ·
    cases hdst : o.dst with
    | none =>
     rw [hdst] at hD
     have hD' : ∀ e ∈ D, e.1 ≠ i := fun e he => by have := List.all_eq_true.1 hD e he; simpa using this
     have hnoi : ((D.map fun e => (e.1, e.2, (fun j => if j = i then v else vals j) e.1)).all fun e => !(e.1 == i)) = true :=
      List.all_eq_true.2 (fun x hx => by
       obtain ⟨e, he, rfl⟩ := List.mem_map.1 hx
       have := hD' e he
       simp [this])
     rw [putSel_same hnoi]
     show a = _
     rw [ha]
     exact putSel_congr (f := vals) (g := fun j => if j = i then v else vals j) (fun e he => by rw [if_neg (hD' e he)])
    | some t =>
     rw [hdst] at hD
     have hmem : (i, t) ∈ D := List.contains_iff_mem.1 hD
     obtain ⟨k, hkD⟩ := List.getElem?_of_mem hmem
     have hdi := hdist' k i t hkD
     rw [ha]
     refine putSel_upk k (v0 := vals i) hbi (by rw [List.getElem?_map, hkD]; rfl) ?_ ?_
     ·
      refine List.ext_getElem? (fun j => ?_)
      rw [List.getElem?_set, List.getElem?_map, List.getElem?_map]
      by_cases hkj : k = j
      ·
       subst hkj
       have hlt : k < D.length := (List.getElem?_eq_some_iff.1 hkD).1
       rw [if_pos rfl, if_pos (by simpa using hlt), hkD]
       simp
      ·
       rw [if_neg hkj]
       cases hj : D[j]? with
       | none => rfl
       | some e =>
        have he : e.1 ≠ i := by
         have hm1 : e ∈ D.take k ++ D.drop (k + 1) := by
          rw [List.mem_append]
          rcases Nat.lt_or_gt_of_ne hkj with h | h
          ·
           right
           refine List.mem_of_getElem? (i := j - (k + 1)) ?_
           rw [List.getElem?_drop, show k + 1 + (j - (k + 1)) = j by omega, hj]
          ·
           left
           refine List.mem_of_getElem? (i := j) ?_
           rw [List.getElem?_take, if_pos h, hj]
         have := List.all_eq_true.1 hdi e hm1
         simp only [Bool.and_eq_true] at this
         simpa using this.1
        simp [he]
     ·
      refine List.all_eq_true.2 (fun x hx => ?_)
      rw [← List.map_take, ← List.map_drop, ← List.map_append] at hx
      obtain ⟨e, he, rfl⟩ := List.mem_map.1 hx
      exact List.all_eq_true.1 hdi e he
   ·
    by_cases hji : j = i
    ·
     subst hji; simpa using hv
    ·
     rw [up_ne hji] at hj
     simp only [if_neg hji]
     exact hG i j _ _ _ hji (hg j hj) hE'
  have has : Has a0 a D ((bitsOf (rtab .any ops).2).getD i 0) G w := by
   refine ⟨fun j t hjt hbit => ?_, fun t ht => ?_⟩
   ·
    have hmem : (j, t) ∈ D := List.contains_iff_mem.1 hjt
    have hjn : j < n := by
     by_cases hlt : j < n
     ·
      exact hlt
     ·
      exfalso
      have hTi : (rtab .any ops).2[i]? = some ((rtab .any ops).2[i]'(by rw [hTl]; exact hin)) := List.getElem?_eq_getElem _
      have key : ∀ (m d : Nat), d ≤ m → d < n → ∀ q, ((bitsOf (rtab .any ops).2).getD d 0).testBit q = true → q < n := by
       intro m
       induction m with
       | zero =>
        intro d hdm hdn q hq
        obtain rfl : d = 0 := by omega
        have hr : (rtab .any ops).2[0]? = some ((rtab .any ops).2[0]'(by rw [hTl]; exact hdn)) := List.getElem?_eq_getElem _
        have h1 := List.all_eq_true.1 hw 0 (List.mem_range.2 (by rw [hTl]; exact hdn))
        rw [hr] at h1
        simp only [beq_iff_eq] at h1
        have h2 : (upM (bitsOf (rtab .any ops).2) 0 ((rtab .any ops).2[0]'(by rw [hTl]; exact hdn)).1).testBit q = true := by rw [← h1, Nat.testBit_or, hq, Bool.true_or]
        obtain ⟨p, hp, h3⟩ := upM_bit h2
        have := (baseOk_row hk hr).2 p hp
        omega
       | succ m ih =>
        intro d hdm hdn q hq
        have hr : (rtab .any ops).2[d]? = some ((rtab .any ops).2[d]'(by rw [hTl]; exact hdn)) := List.getElem?_eq_getElem _
        have h1 := List.all_eq_true.1 hw d (List.mem_range.2 (by rw [hTl]; exact hdn))
        rw [hr] at h1
        simp only [beq_iff_eq] at h1
        have h2 : (upM (bitsOf (rtab .any ops).2) d ((rtab .any ops).2[d]'(by rw [hTl]; exact hdn)).1).testBit q = true := by rw [← h1, Nat.testBit_or, hq, Bool.true_or]
        obtain ⟨p, hp, h3⟩ := upM_bit h2
        have h4 := (baseOk_row hk hr).2 p hp
        rcases h3 with rfl | ⟨h5, h6⟩
        ·
         omega
        ·
         exact ih p (by omega) (by omega) q h6
      exact hlt (key i i (Nat.le_refl _) hin j hbit)
    have hbj : b j = true := hon j (by rw [hbit, Bool.and_true]; exact List.contains_iff_mem.2 (List.mem_range.2 hjn))
    obtain ⟨k, hkD⟩ := List.getElem?_of_mem hmem
    refine ⟨vals j, ?_, hg j hbj⟩
    rw [ha]
    refine putSel_on (e := (j, t, vals j)) k (by rw [List.getElem?_map, hkD]; rfl) ?_ hbj (hfit' _ hmem)
    refine List.all_eq_true.2 (fun x hx => ?_)
    rw [← List.map_drop] at hx
    obtain ⟨e, he, rfl⟩ := List.mem_map.1 hx
    have := List.all_eq_true.1 (hdist' k j t hkD) e (List.mem_append_right _ he)
    simp only [Bool.and_eq_true] at this
    exact this.2
   ·
    rw [ha]
    refine putSel_off (List.all_eq_true.2 (fun x hx => ?_))
    obtain ⟨e, he, rfl⟩ := List.mem_map.1 hx
    exact List.all_eq_true.1 ht e he
  rcases hstep a w hE has with ⟨hw1, hgood⟩ | ⟨hw0, hu⟩
  ·
   rw [if_pos hw1]
   exact hgood.wp next
  ·
   rw [if_neg (by rw [hw0]; decide)]
   exact next undef w (hR0 i w) hu
 ·
  intro b a w hall hI
  rw [if_pos (hall (n - 1) (List.contains_iff_mem.2 (List.mem_range.2 (by omega))))] at hI
  exact hI
theorem goodK_of {Ri : World → World → Prop} {o : Oper} {a : Act} {w : World} {Gi : World → Value → Prop} (hR : Ri = Ext) (h : Good P o a w Gi) : GoodK Ri P o a w Gi := by
 subst hR
 rcases h with h | h
 ·
  exact .inl h
 ·
  exact .inr (.inl h)
theorem goodK_skip {Ri : World → World → Prop} {o : Oper} {a : Act} {w : World} {Gi : World → Value → Prop} (w' : World) (hr : (execOp a.eval o).run P w = .ok .skip w') (hE : Ri w w') (hg : Gi w' undef) : GoodK Ri P o a w Gi := .inr (.inr ⟨w', hr, hE, hg⟩)
end
end Go.Proofs.YthhemephaabblaaGreatDoorW.PrintLast
namespace Go.Proofs.YthhemephaabblaaGreatDoor.Hq
open Go.RowKit Go.Proofs.YthhemephaabblaaGreatDoorW.PrintWords Go.Proofs.YthhemephaabblaaGreatDoorW.PrintLast Go.Proofs.YthhemephaabblaaGreatDoorW.PrintMore Go.Proofs.YthhemephaabblaaGreatDoor Go.Proofs.YthhemephaabblaaGreatDoor.Q Go.Proofs.YthhemephaabblaaGreatDoor.R
set_option linter.unusedVariables false
set_option linter.unusedSimpArgs false
theorem setRow_same {w : World} {b : Nat} {cs : Array Value} {t : TypeId} {fr : Nat × Nat} (h : w.heap[b]? = some (.cells cs t fr)) : Ext w (w.setRow b cs) := by
 refine ⟨rfl, rfl, rfl, by simp [World.setRow], fun k hk => ?_⟩
 by_cases hkb : k = b
 ·
  subst hkb
  rw [setRow_heap w k _ cs _ _ h, h]
 ·
  exact setRow_heap_other _ _ _ _ hkb
theorem store_run {P : Program} {w : World} {t ty : TypeId} (g : Nat) (cells old : Array Value) {p v : Value} (hx : p = .pointer (some ⟨g, 0, none⟩)) (hy : v = .agg cells) (hg : w.heap[g]? = some (.cells old t (0, 0))) (hi : (P.info? ty).map (·.size) = some cells.size) (hold : old.size = cells.size) (h1 : cells.all (·.oneCell') = true) : (Instr.storeAt ty p v).run P w = .ok () (w.setRow g cells) := by
 subst hx hy
 simp only [Instr.storeAt, Instr.sureAddr, Sem.run_bind, Sem.run_pure, Result.andThen_ok, run_storeVar_row w g t ty old cells hg hi hold h1]
def QV (B : Nat) (w : World) (q : Qry) (v5 v7 : Value) : Prop := Sr B w v5 q.cols ∧ Tr B w v7 q.wh
def qval (q : Qry) (v5 v7 : Value) : Value := .agg #[v5, .string (strB q.tab), v7, .string (strB q.ord), .bool q.down, .int .i64 q.lim]
def ParP (w : World) (r : Qry × Nat × Int) (e : Ending) (w' : World) : Prop :=
 ∃ v5 v7, e = .returned (.tuple #[qval r.1 v5 v7, .int .i64 (r.2.1 : Int), .int .i64 r.2.2]) ∧ QV w.heap.size w' r.1 v5 v7 ∧ Below w.heap.size w w'
theorem Rd.cells {w0 w : World} {g : Nat} {s : List UInt8} {L : List Tk} {v5 : Value} {tab : List UInt8} {v7 : Value} {ord : List UInt8} {down : Bool} {lim : Int} (h : Rd w0 w g s L v5 tab v7 ord down lim) : w.cell? ⟨g, 5, none⟩ = some v5 ∧ w.cell? ⟨g, 6, none⟩ = some (.string (strB tab)) ∧ w.cell? ⟨g, 7, none⟩ = some v7 ∧ w.cell? ⟨g, 8, none⟩ = some (.string (strB ord)) ∧ w.cell? ⟨g, 9, none⟩ = some (.bool down) ∧ w.cell? ⟨g, 10, none⟩ = some (.int .i64 lim) := by
 obtain ⟨p, hp, hL, hb, hg⟩ := h
 exact ⟨(blk_cell hb 5).trans rfl, (blk_cell hb 6).trans rfl, (blk_cell hb 7).trans rfl, (blk_cell hb 8).trans rfl, (blk_cell hb 9).trans rfl, (blk_cell hb 10).trans rfl⟩
theorem no_QV (B : Nat) (w : World) : QV B w ⟨[], [], [], [], false, 0⟩ (.slice none 0 0) (.slice none 0 0) := ⟨World.ownsRow_nil _ _ _ _, World.ownsRow_nil _ _ _ _⟩
set_option maxRecDepth 100000 in
set_option maxHeartbeats 3200000 in
theorem parse_calls (s : List UInt8) (w : World) (hG : Glob w) (hs : s.length ≤ 1000000000000) :
  Calls Tryz.prog 7 #[.string (strB s)] w (ParP w (parseQ s)) := by
 have hsz := strB_size s
 by_cases hl : s.length ≤ 1024
 ·
  have hd : decide ((1024 : Int) < (s.length : Int)) = false := decide_eq_false (by omega)
  have hd2 : ¬ ((1024 : Int) < (s.length : Int)) := by omega
  go_enter Tryz.func7, Tryz.ntmps7
  go_upto_region 4 with fail
  obtain ⟨wa, hwa⟩ : ∃ W, W = w.alloc (.cells #[.slice none 0 0, .string ⟨#[]⟩, .slice none 0 0, .string ⟨#[]⟩, .bool false, .int .i64 0] 25) := ⟨_, rfl⟩
  have hza : wa.heap.size = w.heap.size + 1 := by rw [hwa]; simp
  have hZa : wa.heap[w.heap.size]? = some (.cells #[.slice none 0 0, .string ⟨#[]⟩, .slice none 0 0, .string ⟨#[]⟩, .bool false, .int .i64 0] 25 (0, 0)) := by rw [hwa]; exact heap_alloc_new _ _
  have hBa : Below w.heap.size w wa := by rw [hwa]; exact (Below.refl _ _).alloc (Nat.le_refl _) _
  have hR0 : R0 wa (wa.alloc (.cells #[.string (strB s), .int .i64 0, .int .i64 0, .string ⟨#[]⟩, .int .i64 0, .slice none 0 0, .string ⟨#[]⟩, .slice none 0 0, .string ⟨#[]⟩, .bool false, .int .i64 0] 60)) (w.heap.size + 1) s := ⟨by rw [← hza]; exact heap_alloc_new _ _, by omega⟩
  have hBb : Below wa.heap.size wa (wa.alloc (.cells #[.string (strB s), .int .i64 0, .int .i64 0, .string ⟨#[]⟩, .int .i64 0, .slice none 0 0, .string ⟨#[]⟩, .slice none 0 0, .string ⟨#[]⟩, .bool false, .int .i64 0] 60)) := (Below.refl _ _).alloc (Nat.le_refl _) _
  rw [← hwa]
  generalize (wa.alloc (.cells #[.string (strB s), .int .i64 0, .int .i64 0, .string ⟨#[]⟩, .int .i64 0, .slice none 0 0, .string ⟨#[]⟩, .slice none 0 0, .string ⟨#[]⟩, .bool false, .int .i64 0] 60)) = wb at hR0 hBb ⊢
  have hq := question_rd wa wb (w.heap.size + 1) s hs hR0 hBb
  obtain ⟨g, hg⟩ : ∃ n, n = w.heap.size + 1 := ⟨_, rfl⟩
  rw [← hg] at hq ⊢
  obtain ⟨rb, hrb⟩ : ∃ n, n = w.heap.size := ⟨_, rfl⟩
  rw [← hrb] at hZa ⊢
  have HZA := Aside0.mk hZa
  have HBA := Aside0.mk hBa
  have HRB := Aside0.mk hrb
  have HGE := Aside0.mk hg
  have HZS := Aside0.mk hza
  have HWB := Aside0.mk hBb
  clear hwa hza hZa hBa hR0 hBb hg hrb
  rcases hpq : parseL (toks s 0) with ⟨o, L'⟩
  rw [hpq] at hq
  have HPQ := Aside0.mk hpq
  clear hpq
  cases o with
  | none =>
   have e0 : parseQ s = (⟨[], [], [], [], false, 0⟩, (hdT L').place, 320) := by unfold parseQ; rw [if_pos hl, HPQ.out]
   have HE0 := Aside0.mk e0
   clear e0
   go_upto_region 5 with (go_at_call 18; (with_reducible refine hq.mono ?_); rintro e w2 ⟨rfl, hB2, hK2, v5, tb, v7, od, dn, lm, hR2, _⟩; have hZ2 : w2.heap[rb]? = some (.cells #[.slice none 0 0, .string ⟨#[]⟩, .slice none 0 0, .string ⟨#[]⟩, .bool false, .int .i64 0] 25 (0, 0)) := (hB2.block rb (by have := HZS.out; have := HRB.out; omega)).trans HZA.out; have HZ2 := Aside0.mk hZ2; have HB2 := Aside0.mk hB2; have HK4 := Aside0.mk hR2.c23.2.2; clear hB2 hK2 hR2 hZ2)
   refine exk_tail (fun W => Ext w2.drew W) (fun _ => Ext) 9 [(0, 18), (1, 19), (2, 20), (3, 21), (4, 22), (5, 23), (7, 3)] [0, 1, 2, 3, 4, 5, 6, 7] (fun i w v => match i with | 0 => v = .agg #[.slice none 0 0, .string ⟨#[]⟩, .slice none 0 0, .string ⟨#[]⟩, .bool false, .int .i64 0] | 1 => v = .pointer (some ⟨g, 0, none⟩) | 2 => v = .pointer (some ⟨g, 0, none⟩) | 3 => v = .pointer (some ⟨g, 2, none⟩) | 4 => v = .pointer (some ⟨g, 4, none⟩) | 5 => v = .int .i64 ((hdT L').place : Int) | 7 => v = .int .i64 ((hdT L').place : Int) | _ => True) (by kernel_rfl) (by kernel_rfl) (by rfl) rfl ?j0 ?rj ?r0 ?mono5 ?steps5 ?fin5
   case j0 => exact Ext.refl _
   case rj => exact fun i W W' h hR => h.trans hR
   case r0 => exact fun i W => Ext.refl W
   case mono5 =>
    intro i j w w' v hne h hR
    match j with
    | 0 => exact h
    | 1 => exact h
    | 2 => exact h
    | 3 => exact h
    | 4 => exact h
    | 5 => exact h
    | 6 => exact h
    | 7 => exact h
    | 8 => exact h
    | _ + 9 => trivial
   case steps5 =>
    refine stepK_cons ⟨_, rfl, fun a w hE hH => ?_⟩ ?_
    ·
     exact Or.inl ⟨(rfl), goodK_of rfl (goodE_val (.agg #[.slice none 0 0, .string ⟨#[]⟩, .slice none 0 0, .string ⟨#[]⟩, .bool false, .int .i64 0]) (by simp [execOp, Act.eval, go_sem]) rfl)⟩
    refine stepK_cons ⟨_, rfl, fun a w hE hH => ?_⟩ ?_
    ·
     have e5 : a.tmps[5]? = some (.pointer (some ⟨g, 0, none⟩)) := hH.old 5 rfl
     exact Or.inl ⟨rfl, goodK_of rfl (goodE_move _ rfl (eval_of e5) rfl)⟩
    refine stepK_cons ⟨_, rfl, fun a w hE hH => ?_⟩ ?_
    ·
     obtain ⟨v19, e19, g19⟩ := hH.dep 1 19 rfl (by kernel_rfl)
     have q19 : v19 = .pointer (some ⟨g, 0, none⟩) := g19
     subst q19
     exact Or.inl ⟨rfl, goodK_of rfl (goodE_val (.pointer (some ⟨g, 0, none⟩)) (by simp [execOp, Act.eval, e19, go_sem]) rfl)⟩
    refine stepK_cons ⟨_, rfl, fun a w hE hH => ?_⟩ ?_
    ·
     obtain ⟨v20, e20, g20⟩ := hH.dep 2 20 rfl (by kernel_rfl)
     have q20 : v20 = .pointer (some ⟨g, 0, none⟩) := g20
     subst q20
     exact Or.inl ⟨rfl, goodK_of rfl (goodE_val (.pointer (some ⟨g, 2, none⟩)) (by simp [execOp, Act.eval, e20, go_sem]) rfl)⟩
    refine stepK_cons ⟨_, rfl, fun a w hE hH => ?_⟩ ?_
    ·
     obtain ⟨v21, e21, g21⟩ := hH.dep 3 21 rfl (by kernel_rfl)
     have q21 : v21 = .pointer (some ⟨g, 2, none⟩) := g21
     subst q21
     exact Or.inl ⟨rfl, goodK_of rfl (goodE_val (.pointer (some ⟨g, 4, none⟩)) (by simp [execOp, Act.eval, e21, go_sem]) rfl)⟩
    refine stepK_cons ⟨_, rfl, fun a w hE hH => ?_⟩ ?_
    ·
     obtain ⟨v22, e22, g22⟩ := hH.dep 4 22 rfl (by kernel_rfl)
     have q22 : v22 = .pointer (some ⟨g, 4, none⟩) := g22
     subst q22
     have hc := cell_ext ((Ext.to_drew _).trans hE) HK4.out
     exact Or.inl ⟨(rfl), goodK_of rfl (goodE_val (.int .i64 ((hdT L').place : Int)) (by simp [execOp, Act.eval, e22, hc, go_sem]) rfl)⟩
    refine stepK_cons ⟨_, rfl, fun a w hE hH => ?_⟩ ?_
    ·
     have e2 : a.tmps[2]? = some (.pointer (some ⟨rb, 0, none⟩)) := hH.old 2 rfl
     obtain ⟨v18, e18, g18⟩ := hH.dep 0 18 rfl (by kernel_rfl)
     have q18 : v18 = .agg #[.slice none 0 0, .string ⟨#[]⟩, .slice none 0 0, .string ⟨#[]⟩, .bool false, .int .i64 0] := g18
     subst q18
     have hz := heap_below HZ2.out ((Ext.to_drew _).trans hE)
     exact Or.inl ⟨(rfl), goodK_skip (w.setRow rb #[.slice none 0 0, .string ⟨#[]⟩, .slice none 0 0, .string ⟨#[]⟩, .bool false, .int .i64 0]) (exec_store rfl (store_run rb #[.slice none 0 0, .string ⟨#[]⟩, .slice none 0 0, .string ⟨#[]⟩, .bool false, .int .i64 0] #[.slice none 0 0, .string ⟨#[]⟩, .slice none 0 0, .string ⟨#[]⟩, .bool false, .int .i64 0] (by simp [Act.eval, e2]) (by simp [Act.eval, e18]) hz (by kernel_rfl) rfl (by simp [Value.oneCell']))) (setRow_same hz) trivial⟩
    refine stepK_cons ⟨_, rfl, fun a w hE hH => ?_⟩ ?_
    ·
     obtain ⟨v23, e23, g23⟩ := hH.dep 5 23 rfl (by kernel_rfl)
     exact Or.inl ⟨rfl, goodK_of rfl (goodE_assign v23 rfl (eval_of e23) g23)⟩
    exact stepK_nil
   refine ⟨⟨(some 4), .assign (.const (.int .i64 320)), _, _, _, none⟩, rfl, ?_⟩
   rintro vals wz hE hV
   have k3 : vals 7 = .int .i64 ((hdT L').place : Int) := hV 7 (by simp) rfl
   refine ⟨rfl, ?_⟩
   intro KK hKK
   simp only [List.map_cons, List.map_nil, putAll, Act.put, List.setIfInBounds_toArray, List.set_cons_zero, List.set_cons_succ, k3]
   refine finE_val (w1 := wz) (v := .int .i64 320) (by simp [execOp, Act.eval, Act.put]) (hKK _ _ ?_)
   have hF := heap_below HZ2.out ((Ext.to_drew _).trans hE)
   have hBF : Below w.heap.size w wz := Below.trans HBA.out (Below.mono (below_step HB2.out ((Ext.to_drew _).trans hE)) (by have := HZS.out; omega))
   generalize wz = wf at hF hBF ⊢
   have HFF := Aside0.mk hF
   have HBF := Aside0.mk hBF
   have z0 := blk_cell hF 0
   have z1 := blk_cell hF 1
   have z2 := blk_cell hF 2
   have z3 := blk_cell hF 3
   have z4 := blk_cell hF 4
   have z5 := blk_cell hF 5
   clear hE hV k3 hKK hF hBF
   go_wp2_with fail
   refine bodyPost_ret (v := .tuple #[.agg #[.slice none 0 0, .string ⟨#[]⟩, .slice none 0 0, .string ⟨#[]⟩, .bool false, .int .i64 0], .int .i64 ((hdT L').place : Int), .int .i64 320]) (by simp [results, Tryz.results7, go_sem, z0, z1, z2, z3, z4, z5]) rfl ⟨.slice none 0 0, .slice none 0 0, by rw [HE0.out]; rfl, by rw [HE0.out]; exact no_QV _ _, HBF.out⟩
  | some q =>
   have hpb := parse_ok s HPQ.out
   have hokq := hpb.okQ (by omega)
   have hpf := print_f q hokq (q.cols.length + q.wh.length + 51) (by omega)
   have HOK := Aside0.mk hpb
   have HPF := Aside0.mk hpf
   clear hpf hokq hpb
   go_upto_region 6 with (go_at_call 18; (with_reducible refine hq.mono ?_); rintro e w2 ⟨rfl, hB2, hK2, v5, tb, v7, od, dn, lm, hR2, hx⟩; obtain ⟨hS2, hT2, rfl, rfl, rfl, rfl⟩ := hx q rfl; have hZ2 : w2.heap[rb]? = some (.cells #[.slice none 0 0, .string ⟨#[]⟩, .slice none 0 0, .string ⟨#[]⟩, .bool false, .int .i64 0] 25 (0, 0)) := (hB2.block rb (by have := HZS.out; have := HRB.out; omega)).trans HZA.out; have HZ2 := Aside0.mk hZ2; have HB2 := Aside0.mk hB2; have HS2 := Aside0.mk hS2; have HT2 := Aside0.mk hT2; have HR2 := Aside0.mk hR2; clear hB2 hK2 hR2 hZ2 hS2 hT2 hx)
   obtain ⟨A5, p5, rfl, hp5, hC5⟩ := sr_C HS2.out (by have := HOK.out.ncols; omega)
   obtain ⟨A7, p7, rfl, hp7, hC7⟩ := tr_C HT2.out (by have := HOK.out.nwh; omega)
   obtain ⟨q5, q6, q7, q8, q9, q10⟩ := HR2.out.cells
   have hG2 : Glob w2 := Glob.of_below hG (Below.trans HBA.out (Below.mono HB2.out (by have := HZS.out; omega)))
   have hpr := query_Print.calls (q.cols.length + q.wh.length + 51) A5 p5 (q.cols.map strB) (strB q.tab) A7 p7 (q.wh.map t37) (strB q.ord) q.down q.lim (strB (printQ q).1) (printQ q).2 w2 (by rw [List.length_map]; exact hC5) (by rw [List.length_map]; exact hp5) (by rw [List.length_map]; exact hC7) (by rw [List.length_map]; exact hp7) hG2 HPF.out
   rw [List.length_map, List.length_map] at hpr
   clear hC5 hC7 hG2
   by_cases h0 : (printQ q).2 = 0
   ·
    have e0 : parseQ s = (q, 0, 0) := by unfold parseQ; rw [if_pos hl, HPQ.out]; simp only; rw [if_pos h0]
    have HE0 := Aside0.mk e0
    rw [h0] at hpr
    clear e0 h0
    go_upto_region 9 with (go_at_call 13; (with_reducible refine hpr.mono ?_); rintro e w3 ⟨rfl, hb3⟩; have HS3 := Aside0.mk (HS2.out.ext hb3); have HT3 := Aside0.mk (HT2.out.ext hb3); have hZ3 := heap_below HZ2.out hb3; have HB3 := Aside0.mk (Below.trans HBA.out (Below.mono (below_step HB2.out hb3) (by have := HZS.out; omega))); have HZ3 := Aside0.mk hZ3; have hR3 := HR2.out.move (hb3.block _ HR2.out.lt); obtain ⟨r5, r6, r7, r8, r9, r10⟩ := hR3.cells; have z0 := blk_cell hZ3 0; have z1 := blk_cell hZ3 1; have z2 := blk_cell hZ3 2; have z3 := blk_cell hZ3 3; have z4 := blk_cell hZ3 4; have z5 := blk_cell hZ3 5; have f0 := blk_frozen hZ3 0; have f1 := blk_frozen hZ3 1; have f2 := blk_frozen hZ3 2; have f3 := blk_frozen hZ3 3; have f4 := blk_frozen hZ3 4; have f5 := blk_frozen hZ3 5; clear hb3 hZ3 hR3 q5 q6 q7 q8 q9 q10)
    go_wp2_with fail
    have hF : ((((((w3.setCell ⟨rb, 0, none⟩ (.slice A5 q.cols.length p5)).setCell ⟨rb, 1, none⟩ (.string (strB q.tab))).setCell ⟨rb, 2, none⟩ (.slice A7 q.wh.length p7)).setCell ⟨rb, 3, none⟩ (.string (strB q.ord))).setCell ⟨rb, 4, none⟩ (.bool q.down)).setCell ⟨rb, 5, none⟩ (.int .i64 q.lim)).heap[rb]? = some (.cells #[.slice A5 q.cols.length p5, .string (strB q.tab), .slice A7 q.wh.length p7, .string (strB q.ord), .bool q.down, .int .i64 q.lim] 25 (0, 0)) := by
     have h := (blk_set (blk_set (blk_set (blk_set (blk_set (blk_set HZ3.out 0 (.slice A5 q.cols.length p5)) 1 (.string (strB q.tab))) 2 (.slice A7 q.wh.length p7)) 3 (.string (strB q.ord))) 4 (.bool q.down)) 5 (.int .i64 q.lim))
     simpa using h
    have hK : KeepBut w3 ((((((w3.setCell ⟨rb, 0, none⟩ (.slice A5 q.cols.length p5)).setCell ⟨rb, 1, none⟩ (.string (strB q.tab))).setCell ⟨rb, 2, none⟩ (.slice A7 q.wh.length p7)).setCell ⟨rb, 3, none⟩ (.string (strB q.ord))).setCell ⟨rb, 4, none⟩ (.bool q.down)).setCell ⟨rb, 5, none⟩ (.int .i64 q.lim)) rb none := ((((((KeepBut.of_below (Ext.refl w3) rb none).set_ 0 (.slice A5 q.cols.length p5)).set_ 1 (.string (strB q.tab))).set_ 2 (.slice A7 q.wh.length p7)).set_ 3 (.string (strB q.ord))).set_ 4 (.bool q.down)).set_ 5 (.int .i64 q.lim)
    have hBF : Below w.heap.size w ((((((w3.setCell ⟨rb, 0, none⟩ (.slice A5 q.cols.length p5)).setCell ⟨rb, 1, none⟩ (.string (strB q.tab))).setCell ⟨rb, 2, none⟩ (.slice A7 q.wh.length p7)).setCell ⟨rb, 3, none⟩ (.string (strB q.ord))).setCell ⟨rb, 4, none⟩ (.bool q.down)).setCell ⟨rb, 5, none⟩ (.int .i64 q.lim)) := ((((((HB3.out.setCell (show w.heap.size ≤ rb by rw [HRB.out]; exact Nat.le_refl _) _).setCell (show w.heap.size ≤ rb by rw [HRB.out]; exact Nat.le_refl _) _).setCell (show w.heap.size ≤ rb by rw [HRB.out]; exact Nat.le_refl _) _).setCell (show w.heap.size ≤ rb by rw [HRB.out]; exact Nat.le_refl _) _).setCell (show w.heap.size ≤ rb by rw [HRB.out]; exact Nat.le_refl _) _).setCell (show w.heap.size ≤ rb by rw [HRB.out]; exact Nat.le_refl _) _)
    generalize ((((((w3.setCell ⟨rb, 0, none⟩ (.slice A5 q.cols.length p5)).setCell ⟨rb, 1, none⟩ (.string (strB q.tab))).setCell ⟨rb, 2, none⟩ (.slice A7 q.wh.length p7)).setCell ⟨rb, 3, none⟩ (.string (strB q.ord))).setCell ⟨rb, 4, none⟩ (.bool q.down)).setCell ⟨rb, 5, none⟩ (.int .i64 q.lim)) = wf at hF hK hBF ⊢
    have hlb : rb < wb.heap.size := by have := HWB.out.size; have := HZS.out; have := HRB.out; omega
    have hSf := own_less (HS3.out.keep hK hlb) (show w.heap.size ≤ wb.heap.size by have := HRB.out; omega)
    have hTf := own_less (HT3.out.keep hK hlb) (show w.heap.size ≤ wb.heap.size by have := HRB.out; omega)
    have y0 := blk_cell hF 0
    have y1 := blk_cell hF 1
    have y2 := blk_cell hF 2
    have y3 := blk_cell hF 3
    have y4 := blk_cell hF 4
    have y5 := blk_cell hF 5
    refine bodyPost_ret (v := .tuple #[.agg #[.slice A5 q.cols.length p5, .string (strB q.tab), .slice A7 q.wh.length p7, .string (strB q.ord), .bool q.down, .int .i64 q.lim], .int .i64 0, .int .i64 0]) (by simp [results, Tryz.results7, go_sem, y0, y1, y2, y3, y4, y5]) rfl ⟨_, _, by rw [HE0.out]; rfl, by rw [HE0.out]; exact ⟨hSf, hTf⟩, hBF⟩
   ·
    have e0 : parseQ s = (⟨[], [], [], [], false, 0⟩, 0, 2) := by unfold parseQ; rw [if_pos hl, HPQ.out]; simp only; rw [if_neg h0]
    have HE0 := Aside0.mk e0
    have h1 : (printQ q).2 = 320 := by
     unfold printQ at h0 ⊢
     split at h0
     ·
      split at h0
      ·
       exact absurd rfl h0
      ·
       rename_i h2 h3; rw [if_pos h2, if_neg h3]
     ·
      rename_i h2; rw [if_neg h2]
    rw [h1] at hpr
    clear e0 h0 h1
    go_upto_region 8 with (go_at_call 13; (with_reducible refine hpr.mono ?_); rintro e w3 ⟨rfl, hb3⟩; have hZ3 := heap_below HZ2.out hb3; have HB3 := Aside0.mk (Below.trans HBA.out (Below.mono (below_step HB2.out hb3) (by have := HZS.out; omega))); have HZ3 := Aside0.mk hZ3; have z0 := blk_cell hZ3 0; have z1 := blk_cell hZ3 1; have z2 := blk_cell hZ3 2; have z3 := blk_cell hZ3 3; have z4 := blk_cell hZ3 4; have z5 := blk_cell hZ3 5; have f0 := blk_frozen hZ3 0; have f1 := blk_frozen hZ3 1; have f2 := blk_frozen hZ3 2; have f3 := blk_frozen hZ3 3; have f4 := blk_frozen hZ3 4; have f5 := blk_frozen hZ3 5; clear hb3 hZ3 q5 q6 q7 q8 q9 q10)
    go_wp2_with fail
    have hF : ((((((w3.setCell ⟨rb, 0, none⟩ (.slice none 0 0)).setCell ⟨rb, 1, none⟩ (.string ⟨#[]⟩)).setCell ⟨rb, 2, none⟩ (.slice none 0 0)).setCell ⟨rb, 3, none⟩ (.string ⟨#[]⟩)).setCell ⟨rb, 4, none⟩ (.bool false)).setCell ⟨rb, 5, none⟩ (.int .i64 0)).heap[rb]? = some (.cells #[.slice none 0 0, .string ⟨#[]⟩, .slice none 0 0, .string ⟨#[]⟩, .bool false, .int .i64 0] 25 (0, 0)) := by
     have h := (blk_set (blk_set (blk_set (blk_set (blk_set (blk_set HZ3.out 0 (.slice none 0 0)) 1 (.string ⟨#[]⟩)) 2 (.slice none 0 0)) 3 (.string ⟨#[]⟩)) 4 (.bool false)) 5 (.int .i64 0))
     simpa using h
    have hBF : Below w.heap.size w ((((((w3.setCell ⟨rb, 0, none⟩ (.slice none 0 0)).setCell ⟨rb, 1, none⟩ (.string ⟨#[]⟩)).setCell ⟨rb, 2, none⟩ (.slice none 0 0)).setCell ⟨rb, 3, none⟩ (.string ⟨#[]⟩)).setCell ⟨rb, 4, none⟩ (.bool false)).setCell ⟨rb, 5, none⟩ (.int .i64 0)) := ((((((HB3.out.setCell (show w.heap.size ≤ rb by rw [HRB.out]; exact Nat.le_refl _) _).setCell (show w.heap.size ≤ rb by rw [HRB.out]; exact Nat.le_refl _) _).setCell (show w.heap.size ≤ rb by rw [HRB.out]; exact Nat.le_refl _) _).setCell (show w.heap.size ≤ rb by rw [HRB.out]; exact Nat.le_refl _) _).setCell (show w.heap.size ≤ rb by rw [HRB.out]; exact Nat.le_refl _) _).setCell (show w.heap.size ≤ rb by rw [HRB.out]; exact Nat.le_refl _) _)
    generalize ((((((w3.setCell ⟨rb, 0, none⟩ (.slice none 0 0)).setCell ⟨rb, 1, none⟩ (.string ⟨#[]⟩)).setCell ⟨rb, 2, none⟩ (.slice none 0 0)).setCell ⟨rb, 3, none⟩ (.string ⟨#[]⟩)).setCell ⟨rb, 4, none⟩ (.bool false)).setCell ⟨rb, 5, none⟩ (.int .i64 0)) = wf at hF hBF ⊢
    have y0 := blk_cell hF 0
    have y1 := blk_cell hF 1
    have y2 := blk_cell hF 2
    have y3 := blk_cell hF 3
    have y4 := blk_cell hF 4
    have y5 := blk_cell hF 5
    refine bodyPost_ret (v := .tuple #[.agg #[.slice none 0 0, .string ⟨#[]⟩, .slice none 0 0, .string ⟨#[]⟩, .bool false, .int .i64 0], .int .i64 0, .int .i64 2]) (by simp [results, Tryz.results7, go_sem, y0, y1, y2, y3, y4, y5]) rfl ⟨.slice none 0 0, .slice none 0 0, by rw [HE0.out]; rfl, by rw [HE0.out]; exact no_QV _ _, hBF⟩
 ·
  have e0 : parseQ s = (⟨[], [], [], [], false, 0⟩, 0, 2) := by unfold parseQ; rw [if_neg hl]
  rw [e0]
  have hd : (1024 : Int) < (s.length : Int) := by omega
  clear e0
  go_enter Tryz.func7, Tryz.ntmps7
  go_wp2_with fail
  refine bodyPost_ret (v := .tuple #[.agg #[.slice none 0 0, .string ⟨#[]⟩, .slice none 0 0, .string ⟨#[]⟩, .bool false, .int .i64 0], .int .i64 0, .int .i64 2]) (by simp [results, Tryz.results7, go_sem]) rfl ⟨.slice none 0 0, .slice none 0 0, rfl, no_QV _ _, ?_⟩
  first | exact (Below.refl _ _).alloc (Nat.le_refl _) _ | skip
end Go.Proofs.YthhemephaabblaaGreatDoor.Hq
namespace Go.Proofs.YthhemephaabblaaGreatDoor.Hq
open Go.RowKit Go.Proofs.YthhemephaabblaaGreatDoorW.PrintWords Go.Proofs.YthhemephaabblaaGreatDoorW.PrintLast Go.Proofs.YthhemephaabblaaGreatDoorW.PrintMore Go.Proofs.YthhemephaabblaaGreatDoor Go.Proofs.YthhemephaabblaaGreatDoor.Q Go.Proofs.YthhemephaabblaaGreatDoor.R
set_option linter.unusedVariables false
set_option linter.unusedSimpArgs false
def KB (w w' : World) (g : Nat) : Prop := w.heap.size ≤ w'.heap.size ∧ (∀ i, i < w.heap.size → i ≠ g → some i ≠ (none : Option Nat) → w'.heap[i]? = w.heap[i]?) ∧ w'.os = w.os ∧ w'.tape = w.tape ∧ w'.output = w.output
end Go.Proofs.YthhemephaabblaaGreatDoor.Hq
namespace Go.Proofs.YthhemephaabblaaGreatDoor.Hq
open Go.RowKit Go.Proofs.YthhemephaabblaaGreatDoorW.PrintWords Go.Proofs.YthhemephaabblaaGreatDoorW.PrintLast Go.Proofs.YthhemephaabblaaGreatDoorW.PrintMore Go.Proofs.YthhemephaabblaaGreatDoor Go.Proofs.YthhemephaabblaaGreatDoor.Q Go.Proofs.YthhemephaabblaaGreatDoor.R
set_option linter.unusedVariables false
set_option linter.unusedSimpArgs false
theorem RD.says {s : List UInt8} {x : Tk} {l : List Tk} {p : Nat} (h : toks s p = x :: l) : x.says.length ≤ s.length := toksF_says s _ p x (by have e : toksF _ s p = x :: l := h; rw [e]; simp)
end Go.Proofs.YthhemephaabblaaGreatDoor.Hq
namespace Go.Proofs.YthhemephaabblaaGreatDoor.Hq
open Go.RowKit Go.Proofs.YthhemephaabblaaGreatDoorW.PrintWords Go.Proofs.YthhemephaabblaaGreatDoorW.PrintLast Go.Proofs.YthhemephaabblaaGreatDoorW.PrintMore Go.Proofs.YthhemephaabblaaGreatDoor Go.Proofs.YthhemephaabblaaGreatDoor.Q Go.Proofs.YthhemephaabblaaGreatDoor.R
set_option linter.unusedVariables false
set_option linter.unusedSimpArgs false
end Go.Proofs.YthhemephaabblaaGreatDoor.Hq
namespace Go.Proofs.YthhemephaabblaaGreatDoor.Hq
open Go.RowKit Go.Proofs.YthhemephaabblaaGreatDoorW.PrintWords Go.Proofs.YthhemephaabblaaGreatDoorW.PrintLast Go.Proofs.YthhemephaabblaaGreatDoorW.PrintMore Go.Proofs.YthhemephaabblaaGreatDoor Go.Proofs.YthhemephaabblaaGreatDoor.Q Go.Proofs.YthhemephaabblaaGreatDoor.R
set_option linter.unusedVariables false
set_option linter.unusedSimpArgs false
end Go.Proofs.YthhemephaabblaaGreatDoor.Hq
namespace Go.Proofs
open Go.Shelf Go.RowKit
end Go.Proofs
namespace Go.Proofs.YthhemephaabblaaGreatDoor.Hq
open Go.RowKit Go.Proofs.YthhemephaabblaaGreatDoorW.PrintWords Go.Proofs.YthhemephaabblaaGreatDoorW.PrintLast Go.Proofs.YthhemephaabblaaGreatDoorW.PrintMore Go.Proofs.YthhemephaabblaaGreatDoor Go.Proofs.YthhemephaabblaaGreatDoor.Q Go.Proofs.YthhemephaabblaaGreatDoor.R
set_option linter.unusedVariables false
set_option linter.unusedSimpArgs false
structure Glob2 (w : World) : Prop where
 tab : Glob w
 syn : ∃ tp p, w.var? Tryz.prog "strconv.ErrSyntax" = some #[.iface tp p]
end Go.Proofs.YthhemephaabblaaGreatDoor.Hq
