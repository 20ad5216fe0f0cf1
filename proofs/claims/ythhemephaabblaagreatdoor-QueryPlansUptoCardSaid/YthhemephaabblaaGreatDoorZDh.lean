
import Derived.Test.YthhemephaabblaaGreatDoorZDc
import Derived.Test.YthhemephaabblaaGreatDoorZDg
import Derived.Deep.DeepCutAuto
import Derived.Outline
import Derived.Deep.CutRange
set_option linter.unusedVariables false
set_option linter.unusedSimpArgs false
namespace Go.Proofs.YthhemephaabblaaGreatDoorW.PrintLast
open Go.RowKit
section
variable {P : Program} {ops : Array Oper} {Q : Exit → Act → World → Prop}
def extOk2 (ops : Array Oper) (D : List (Nat × Tmp)) (n : Nat) : Bool :=
 ops.size == n && waitsOk (rtab .any ops).2 (bitsOf (rtab .any ops).2) && baseOk (rtab .any ops).2 (List.range n)
  && (List.range (n - 2)).all (fun i => match ops[i]? with
   | some o => (match o.dst with
    | some t => D.contains (i, t)
    | none => D.all fun e => !(e.1 == i))
   | none => false)
  && (List.range D.length).all (fun k => match D[k]? with
   | some x => (D.take k ++ D.drop (k + 1)).all fun e => !(e.1 == x.1) && !(e.2 == x.2)
   | none => false)
  && D.all (fun e => decide (e.1 < n - 2))
  && (List.range (n - 1)).all (fun j => ((bitsOf (rtab .any ops).2).getD (n - 1) 0).testBit j)
  && (List.range (n - 2)).all (fun j => ((bitsOf (rtab .any ops).2).getD (n - 2) 0).testBit j)
  && decide (1 < n)
theorem ext_tail2 {id : Nat} {a0 : Act} {w0 : World} (n : Nat) (D : List (Nat × Tmp)) (O : List Nat) (G : Nat → World → Value → Prop) (hm : P.follows .mixedOrders = true) (hok : extOk2 ops D n = true) (hfit : fits a0 D = true) (hO : List.range (n - 2) = O)
  (hG : ∀ i w w' v, G i w v → Ext w w' → G i w' v) (hs : ∀ i ∈ O, StepE P ops a0 w0.drew D G i)
  (hend : ∃ o o2, ops[n - 2]? = some o ∧ ops[n - 1]? = some o2 ∧ ∀ (vals : Nat → Value) (w' : World), Ext w0.drew w' → (∀ i ∈ O, (D.any fun e => e.1 == i) = true → G i w' (vals i)) →
   Region.wanted o (yielded ops (putAll a0 (D.map fun e => (e.2, vals e.1))).tmps) = true ∧ ∀ K : Act → World → Prop, Shut (∀ a' w'', (Region.wanted o2 (yielded ops a'.tmps) = true ∧ ∀ K2 : Act → World → Prop, Shut (∀ a2 w2, Q .normal a2 w2 → K2 a2 w2) → Oper.wp P o2 a' w'' K2 Q) → K a' w'') → Oper.wp P o (putAll a0 (D.map fun e => (e.2, vals e.1))) w' K Q) :
  (Code.region id ops true).wp P Q a0 w0 := by
 subst hO
 simp only [extOk2, Bool.and_eq_true, beq_iff_eq] at hok
 obtain ⟨⟨⟨⟨⟨⟨⟨⟨hn, hw⟩, hk⟩, hd⟩, hdist⟩, hDlt⟩, hall1⟩, hall2⟩, hpos⟩ := hok
 obtain ⟨oL, o2, hoL, ho2, hend⟩ := hend
 have hn0 : 1 < n := of_decide_eq_true hpos
 have hfall2 : ∀ j, j < n - 2 → ((bitsOf (rtab .any ops).2).getD (n - 2) 0).testBit j = true := fun j hj => List.all_eq_true.1 hall2 j (List.mem_range.2 hj)
 have hfall : ∀ j, j < n - 1 → ((bitsOf (rtab .any ops).2).getD (n - 1) 0).testBit j = true := fun j hj => List.all_eq_true.1 hall1 j (List.mem_range.2 hj)
 have hdist' : ∀ (k : Nat) (i : Nat) (t : Tmp), D[k]? = some (i, t) → ((D.take k ++ D.drop (k + 1)).all fun e => !(e.1 == i) && !(e.2 == t)) = true := fun k i t h => by
  have h1 := List.all_eq_true.1 hdist k (List.mem_range.2 (List.getElem?_eq_some_iff.1 h).1)
  rw [h] at h1
  exact h1
 have hfit' : ∀ e ∈ D, Nat.ble (e.2 + 1) a0.tmps.size = true := fun e he => List.all_eq_true.1 hfit e he
 refine start_ (n := n) (S := fun _ => True) (ds := []) (Array.replicate n false) hm hn rfl trivial (fun _ => ?_)
 have hTl : (rtab .any ops).2.length = n := by rw [rtab_length, hn]
 refine inv_ (md := .any) (T := rtab .any ops) (B := bitsOf (rtab .any ops).2) (List.range n)
  (fun b a w => if b (n - 1) = true then Q .normal a w else if b (n - 2) = true then (Region.wanted o2 (yielded ops a.tmps) = true ∧ ∀ K2 : Act → World → Prop, Shut (∀ a2 w2, Q .normal a2 w2 → K2 a2 w2) → Oper.wp P o2 a w K2 Q) else (Ext w0.drew w ∧ ∃ vals : Nat → Value, a = putSel a0 b (D.map fun e => (e.1, e.2, vals e.1)) ∧ ∀ i, b i = true → G i w (vals i))) rfl hw hk ?_ ?_ ?_ ?_
 ·
  rw [hTl, Bool.and_eq_true, beq_iff_eq, beq_iff_eq]
  refine ⟨?_, by simp⟩
  rw [Array.toList_replicate]
  refine List.ext_getElem (by simp [lof]) (fun j h1 h2 => ?_)
  have hj : j < n := by simpa [lof] using h1
  simp [lof, hj]
 ·
  dsimp only
  rw [if_neg Bool.false_ne_true, if_neg Bool.false_ne_true]
  refine ⟨Ext.refl _, fun _ => undef, ?_, fun i h => by cases h⟩
  rw [putSel_begin (fun e he => rfl)]
 ·
  intro i hi b a w hI hbi hon hoff
  have hin : i < n := List.mem_range.1 hi
  by_cases hif : i = n - 1
  ·
   subst hif
   rw [if_neg (by rw [hbi]; decide)] at hI
   have hb2 : b (n - 2) = true := hon (n - 2) (by rw [hfall (n - 2) (by omega), Bool.and_true]; exact List.contains_iff_mem.2 (List.mem_range.2 (by omega)))
   rw [if_pos hb2] at hI
   refine ⟨o2, ho2, fun K hK => ?_⟩
   rw [if_pos hI.1]
   exact hI.2 K (fun a' w'' hq => hK a' w'' (by dsimp only; rw [if_pos (up_self b _)]; exact hq))
  have hbL : b (n - 1) = false := hoff (n - 1) (by rw [hfall i (by omega), Bool.and_true]; exact List.contains_iff_mem.2 (List.mem_range.2 (by omega)))
  rw [if_neg (by rw [hbL]; decide)] at hI
  by_cases hif2 : i = n - 2
  ·
   subst hif2
   rw [if_neg (by rw [hbi]; decide)] at hI
   obtain ⟨hE, vals, ha, hg⟩ := hI
   have hall' : ∀ j, j < n - 2 → b j = true := fun j hj => hon j (by rw [hfall2 j hj, Bool.and_true]; exact List.contains_iff_mem.2 (List.mem_range.2 (by omega)))
   have ha' : a = putAll a0 (D.map fun e => (e.2, vals e.1)) := by
    rw [ha, putSel_all (fun x hx => by
     obtain ⟨e, he, rfl⟩ := List.mem_map.1 hx
     exact hall' _ (of_decide_eq_true (List.all_eq_true.1 hDlt e he))), List.map_map]
    rfl
   refine ⟨oL, hoL, fun K hK => ?_⟩
   obtain ⟨hw1, hfin⟩ := hend vals w hE (fun j hj _ => hg j (hall' j (List.mem_range.1 hj)))
   rw [← ha'] at hw1 hfin
   rw [if_pos hw1]
   exact hfin K (fun a' w'' hq => hK a' w'' (by dsimp only; rw [if_neg (by rw [up_ne (fun e => hif e.symm), hbL]; decide), if_pos (up_self b _)]; exact hq))
  have hi1 : i ∈ List.range (n - 2) := List.mem_range.2 (by omega)
  have hbf : b (n - 2) = false := hoff (n - 2) (by rw [hfall2 i (by omega), Bool.and_true]; exact List.contains_iff_mem.2 (List.mem_range.2 (by omega)))
  rw [if_neg (by rw [hbf]; decide)] at hI
  obtain ⟨hE, vals, ha, hg⟩ := hI
  obtain ⟨o, ho, hstep⟩ := hs i hi1
  refine ⟨o, ho, fun K hK => ?_⟩
  have hD := List.all_eq_true.1 hd i hi1
  rw [ho] at hD
  simp only at hD
  have next : ∀ v w', Ext w w' → G i w' v → K (a.put o.dst v) w' := by
   intro v w' hE' hv
   refine hK _ _ ?_
   dsimp only
   rw [if_neg (by rw [up_ne (fun e => hif e.symm), hbL]; decide), if_neg (by rw [up_ne (fun e => hif2 e.symm), hbf]; decide)]
   refine ⟨hE.trans hE', fun j => if j = i then v else vals j, ?_, fun j hj => ?_⟩
   ·
    cases hdst : o.dst with
    | none =>
     rw [hdst] at hD
     have hD' : ∀ e ∈ D, e.1 ≠ i := fun e he => by have := List.all_eq_true.1 hD e he; simpa using this
     have hnoi : ((D.map fun e => (e.1, e.2, (fun j => if j = i then v else vals j) e.1)).all fun e => !(e.1 == i)) = true :=
      List.all_eq_true.2 (fun x hx => by
       obtain ⟨e, he, rfl⟩ := List.mem_map.1 hx
       have := hD' e he
       simp [this])
     rw [putSel_same hnoi]
     show a = _
     rw [ha]
     exact putSel_congr (f := vals) (g := fun j => if j = i then v else vals j) (fun e he => by rw [if_neg (hD' e he)])
    | some t =>
     rw [hdst] at hD
     have hmem : (i, t) ∈ D := List.contains_iff_mem.1 hD
     obtain ⟨k, hkD⟩ := List.getElem?_of_mem hmem
     have hdi := hdist' k i t hkD
     rw [ha]
     refine putSel_upk k (v0 := vals i) hbi (by rw [List.getElem?_map, hkD]; rfl) ?_ ?_
     ·
      refine List.ext_getElem? (fun j => ?_)
      rw [List.getElem?_set, List.getElem?_map, List.getElem?_map]
      by_cases hkj : k = j
      ·
       subst hkj
       have hlt : k < D.length := (List.getElem?_eq_some_iff.1 hkD).1
       rw [if_pos rfl, if_pos (by simpa using hlt), hkD]
       simp
      ·
       rw [if_neg hkj]
       cases hj : D[j]? with
       | none => rfl
       | some e =>
        have he : e.1 ≠ i := by
         have hm1 : e ∈ D.take k ++ D.drop (k + 1) := by
          rw [List.mem_append]
          rcases Nat.lt_or_gt_of_ne hkj with h | h
          ·
           right
           refine List.mem_of_getElem? (i := j - (k + 1)) ?_
           rw [List.getElem?_drop, show k + 1 + (j - (k + 1)) = j by omega, hj]
          ·
           left
           refine List.mem_of_getElem? (i := j) ?_
           rw [List.getElem?_take, if_pos h, hj]
         have := List.all_eq_true.1 hdi e hm1
         simp only [Bool.and_eq_true] at this
         simpa using this.1
        simp [he]
     ·
      refine List.all_eq_true.2 (fun x hx => ?_)
      rw [← List.map_take, ← List.map_drop, ← List.map_append] at hx
      obtain ⟨e, he, rfl⟩ := List.mem_map.1 hx
      exact List.all_eq_true.1 hdi e he
   ·
    by_cases hji : j = i
    ·
     subst hji; simpa using hv
    ·
     rw [up_ne hji] at hj
     simp only [if_neg hji]
     exact hG _ _ _ _ (hg j hj) hE'
  have has : Has a0 a D ((bitsOf (rtab .any ops).2).getD i 0) G w := by
   refine ⟨fun j t hjt hbit => ?_, fun t ht => ?_⟩
   ·
    have hmem : (j, t) ∈ D := List.contains_iff_mem.1 hjt
    have hjn : j < n := by
     by_cases hlt : j < n
     ·
      exact hlt
     ·
      exfalso
      have hTi : (rtab .any ops).2[i]? = some ((rtab .any ops).2[i]'(by rw [hTl]; exact hin)) := List.getElem?_eq_getElem _
      have key : ∀ (m d : Nat), d ≤ m → d < n → ∀ q, ((bitsOf (rtab .any ops).2).getD d 0).testBit q = true → q < n := by
       intro m
       induction m with
       | zero =>
        intro d hdm hdn q hq
        obtain rfl : d = 0 := by omega
        have hr : (rtab .any ops).2[0]? = some ((rtab .any ops).2[0]'(by rw [hTl]; exact hdn)) := List.getElem?_eq_getElem _
        have h1 := List.all_eq_true.1 hw 0 (List.mem_range.2 (by rw [hTl]; exact hdn))
        rw [hr] at h1
        simp only [beq_iff_eq] at h1
        have h2 : (upM (bitsOf (rtab .any ops).2) 0 ((rtab .any ops).2[0]'(by rw [hTl]; exact hdn)).1).testBit q = true := by rw [← h1, Nat.testBit_or, hq, Bool.true_or]
        obtain ⟨p, hp, h3⟩ := upM_bit h2
        have := (baseOk_row hk hr).2 p hp
        omega
       | succ m ih =>
        intro d hdm hdn q hq
        have hr : (rtab .any ops).2[d]? = some ((rtab .any ops).2[d]'(by rw [hTl]; exact hdn)) := List.getElem?_eq_getElem _
        have h1 := List.all_eq_true.1 hw d (List.mem_range.2 (by rw [hTl]; exact hdn))
        rw [hr] at h1
        simp only [beq_iff_eq] at h1
        have h2 : (upM (bitsOf (rtab .any ops).2) d ((rtab .any ops).2[d]'(by rw [hTl]; exact hdn)).1).testBit q = true := by rw [← h1, Nat.testBit_or, hq, Bool.true_or]
        obtain ⟨p, hp, h3⟩ := upM_bit h2
        have h4 := (baseOk_row hk hr).2 p hp
        rcases h3 with rfl | ⟨h5, h6⟩
        ·
         omega
        ·
         exact ih p (by omega) (by omega) q h6
      exact hlt (key i i (Nat.le_refl _) hin j hbit)
    have hbj : b j = true := hon j (by rw [hbit, Bool.and_true]; exact List.contains_iff_mem.2 (List.mem_range.2 hjn))
    obtain ⟨k, hkD⟩ := List.getElem?_of_mem hmem
    refine ⟨vals j, ?_, hg j hbj⟩
    rw [ha]
    refine putSel_on (e := (j, t, vals j)) k (by rw [List.getElem?_map, hkD]; rfl) ?_ hbj (hfit' _ hmem)
    refine List.all_eq_true.2 (fun x hx => ?_)
    rw [← List.map_drop] at hx
    obtain ⟨e, he, rfl⟩ := List.mem_map.1 hx
    have := List.all_eq_true.1 (hdist' k j t hkD) e (List.mem_append_right _ he)
    simp only [Bool.and_eq_true] at this
    exact this.2
   ·
    rw [ha]
    refine putSel_off (List.all_eq_true.2 (fun x hx => ?_))
    obtain ⟨e, he, rfl⟩ := List.mem_map.1 hx
    exact List.all_eq_true.1 ht e he
  rcases hstep a w hE has with ⟨hw1, hgood⟩ | ⟨hw0, hu⟩
  ·
   rw [if_pos hw1]
   exact hgood.wp next
  ·
   rw [if_neg (by rw [hw0]; decide)]
   exact next undef w (Ext.refl w) hu
 ·
  intro b a w hall hI
  rw [if_pos (hall (n - 1) (List.contains_iff_mem.2 (List.mem_range.2 (by omega))))] at hI
  exact hI
end
end Go.Proofs.YthhemephaabblaaGreatDoorW.PrintLast
namespace Go.Proofs.YthhemephaabblaaGreatDoor.Hq
open Go.RowKit Go.Proofs.YthhemephaabblaaGreatDoorW.PrintWords Go.Proofs.YthhemephaabblaaGreatDoorW.PrintLast Go.Proofs.YthhemephaabblaaGreatDoorW.PrintMore Go.Proofs.YthhemephaabblaaGreatDoor Go.Proofs.YthhemephaabblaaGreatDoor.Q
set_option linter.unusedVariables false
set_option linter.unusedSimpArgs false
def QBx (w : World) (g : Nat) (A0 : Option Addr) (c0 : Nat) (A2 : Option Addr) (c2 : Nat) (q : Qry) : Prop :=
 w.heap[g]? = some (.cells #[.slice A0 q.cols.length c0, .string (strB q.tab), .slice A2 q.wh.length c2, .string (strB q.ord), .bool q.down, .int .i64 q.lim] 25 (0, 0))
theorem spot_none {w : World} {ad : Addr} {v : Value} (h : w.cell? ad = some v) : ad = ⟨ad.block, ad.off, none⟩ := by
 have : ad.spot = none := by
  unfold World.cell? at h
  split at h
  ·
   cases hs : ad.spot with
   | none => rfl
   | some s => rw [hs] at h; simp at h
  ·
   cases h
 cases ad
 simp only at this
 subst this
 rfl
theorem strC_cells {w : World} {A : Option Addr} {n : Nat} {xs : List (List UInt8)} (h : Kd.C Kd.string w A n (xs.map strB)) (hp : 0 < n) : n = xs.length ∧ ∃ bk o, A = some ⟨bk, o, none⟩ ∧ bk < w.heap.size ∧ ∀ (j : Nat) x, xs[j]? = some x → w.cell? ⟨bk, o + j, none⟩ = some (sv x) := by
 have hn : n = xs.length := by have := h.1; rw [List.length_map] at this; exact this.symm
 obtain ⟨ad, hA, h0⟩ := Kd.at_string h 0 (by omega) (by omega)
 have e0 : ad.add (0 : Int).toNat = ad := by unfold Addr.add; simp
 rw [e0] at h0
 have he := spot_none h0
 refine ⟨hn, ad.block, ad.off, by rw [hA]; exact congrArg some he, World.block_lt_of_cell? w _ h0, fun j x hj => ?_⟩
 have hjl : j < xs.length := (List.getElem?_eq_some_iff.1 hj).1
 obtain ⟨ad', hA', h1⟩ := Kd.at_string h (j : Int) (by omega) (by omega)
 rw [hA] at hA'
 injection hA' with hA'
 subst hA'
 rw [rdOf_map xs j hjl, Int.toNat_natCast] at h1
 rw [he] at h1
 rw [addr_add] at h1
 rw [h1]
 have := (List.getElem?_eq_some_iff.1 hj).2
 rw [this]
 rfl
theorem join_calls (w : World) (A : Option Addr) (n c : Nat) (xs : List (List UInt8)) (sep : List UInt8) (h : Kd.C Kd.string w A n (xs.map strB)) (hp : 0 < n) (hc : n ≤ c)
  (hb : (Lib.join xs sep).length ≤ 281474976710656) (hl : n ≤ 140737488355328) :
  Calls Tryz.prog 27 #[.slice A n c, .string (strB sep)] w fun e w' => e = .returned (.string (strB (Lib.join xs sep))) ∧ Below w.heap.size w w' := by
 obtain ⟨rfl, bk, o, rfl, hbk, hcell⟩ := strC_cells h hp
 have e1 : (xs.map strB).map (·.data.toList) = xs := by
  rw [List.map_map]; exact (List.map_congr_left (fun b _ => rfl)).trans (List.map_id _)
 have := Tryz.strings_Join bk o c (xs.map strB) (strB sep) w (fun j x hj => by
  rw [List.getElem?_map] at hj
  cases hx : xs[j]? with
  | none => rw [hx] at hj; cases hj
  | some y =>
   rw [hx] at hj
   obtain rfl := Option.some.inj hj
   exact hcell j y hx) hbk (by rw [List.length_map]; exact hl) (by rw [List.length_map]; exact hc) (by rw [e1]; exact hb)
 rw [List.length_map, e1] at this
 exact this
theorem join_own (w : World) (B : Nat) (v : Value) (xs : List (List UInt8)) (sep : List UInt8) (h : Sr B w v xs) (hp : 0 < xs.length)
  (hb : (Lib.join xs sep).length ≤ 281474976710656) (hl : xs.length ≤ 140737488355328) :
  Calls Tryz.prog 27 #[v, .string (strB sep)] w fun e w' => e = .returned (.string (strB (Lib.join xs sep))) ∧ Below w.heap.size w w' := by
 obtain ⟨g, c, rfl, hc, _, hg, hcell⟩ := h.shape hp
 have e1 : (xs.map strB).map (·.data.toList) = xs := by
  rw [List.map_map]; exact (List.map_congr_left (fun b _ => rfl)).trans (List.map_id _)
 have := Tryz.strings_Join g 0 c (xs.map strB) (strB sep) w (fun j x hj => by
  rw [List.getElem?_map] at hj
  cases hx : xs[j]? with
  | none => rw [hx] at hj; cases hj
  | some y =>
   rw [hx] at hj
   obtain rfl := Option.some.inj hj
   exact hcell j y hx) hg (by rw [List.length_map]; exact hl) (by rw [List.length_map]; exact hc) (by rw [e1]; exact hb)
 rw [List.length_map, e1] at this
 exact this
theorem strC_lit4 (w : World) (a b c d : ByteArray) : Kd.C Kd.string (w.alloc (.cells #[.string a, .string b, .string c, .string d] 9)) (some ⟨w.heap.size, 0, none⟩) 4 [a, b, c, d] := by
 refine ⟨rfl, by omega, fun _ => ⟨_, rfl, fun j p hj => ?_⟩⟩
 have hb : (w.alloc (.cells #[.string a, .string b, .string c, .string d] 9)).heap[w.heap.size]? = some (.cells #[.string a, .string b, .string c, .string d] 9 (0, 0)) := heap_alloc_new _ _
 have hjl : j < 4 := (List.getElem?_eq_some_iff.1 hj).1
 refine ⟨[.string p], rfl, rfl, fun i u hu => ?_⟩
 have hi : i = 0 := by have := (List.getElem?_eq_some_iff.1 hu).1; simpa using this
 subst hi
 simp only [List.getElem?_cons_zero, Option.some.injEq] at hu
 subst hu
 show World.cell? _ (Addr.add ⟨w.heap.size, 0, none⟩ (j * 1 + 0)) = _
 rw [addr_add, Nat.mul_one, Nat.add_zero, Nat.zero_add]
 rw [cell_of_row _ _ _ _ 9 (0, 0) hb]
 match j, hjl, hj with
 | 0, _, hj => simpa using hj
 | 1, _, hj => simpa using hj
 | 2, _, hj => simpa using hj
 | 3, _, hj => simpa using hj
def opsL : List (List UInt8) := [[61], [33, 61], [60], [60, 61], [62], [62, 61]]
theorem operators_f : query_operators.f = some (opsL.map strB) := rfl
theorem opsL_get (o : Int) (h1 : 1 ≤ o) (h6 : o ≤ 6) : opsL[(o - 1).toNat]? = some (opT o) := by
 have : o = 1 ∨ o = 2 ∨ o = 3 ∨ o = 4 ∨ o = 5 ∨ o = 6 := by omega
 rcases this with rfl | rfl | rfl | rfl | rfl | rfl <;> rfl
theorem ops_calls (w : World) : Calls Tryz.prog 30 #[] w fun e w' => ∃ bk o c, e = .returned (.slice (some ⟨bk, o, none⟩) 6 c) ∧ (∀ (j : Nat) x, opsL[j]? = some x → w'.cell? ⟨bk, o + j, none⟩ = some (sv x)) ∧ Ext w w' := by
 refine (query_operators.calls (opsL.map strB) w operators_f).mono ?_
 rintro e w' ⟨v, rfl, hR, hB⟩
 obtain ⟨A, c, rfl, hc, hC⟩ := Kd.R_reads hR
 obtain ⟨hn, bk, o, rfl, hbk, hcell⟩ := strC_cells hC (by decide)
 exact ⟨bk, o, c, rfl, hcell, hB⟩
theorem sr_run_app {B b c : Nat} {W : World} (ty : TypeId) {v : Value} {xs ys : List (List UInt8)} {cs : Array Value} {fr : Nat × Nat} (hO : Sr B W v xs) (hb : W.heap[b]? = some (.cells cs 9 fr)) (hcs : cs.toList = ys.map sv) (hB : B ≤ W.heap.size) (hl : xs.length + ys.length ≤ 1000000) :
  ∃ v1 w1, (Builtin.append_ #[22, 22] ty #[v, .slice (some ⟨b, 0, none⟩) ys.length c]).run Tryz.prog W = .ok v1 w1 ∧ Sr B w1 v1 (xs ++ ys) ∧ W.grownBy w1 v.ownBlock ∧ Below B W w1 := by
 obtain ⟨i0, hi, hzz⟩ := Option.map_eq_some_iff.1 Hq.info9
 simp only [Prod.mk.injEq] at hzz
 obtain ⟨hz0, hz1, hz2⟩ := hzz
 obtain ⟨v1, w1, hr, hown, hg, _, _⟩ := run_append_own_at (P := Tryz.prog) W B 22 ty 9 i0 (.string ⟨#[]⟩) 1 16 Tryz.underlying22 hi hz0 hz1 hz2 rfl (by decide) v xs.length (xs.map sv) hO ⟨b, 0, none⟩ ys.length c (ys.map sv) (by simp) (by rw [← hcs]; exact World.news_of_block hb) (sv_one ys) (by simp only [maxLen]; omega) (by omega) hB
 refine ⟨v1, w1, hr, ?_, hg, (Below.refl B W).grown hg hB (own_base hO)⟩
 unfold Sr
 rw [List.length_append, List.map_append]
 exact hown
theorem nDigits_le : ∀ (k u : Nat), 0 < k → u < 10 ^ k → Lib.nDigits u ≤ k
 | k + 1, u, _, h => by
  unfold Lib.nDigits
  by_cases hu : u < 10
  ·
   rw [dif_pos hu]; omega
  ·
   rw [dif_neg hu]
   rcases Nat.eq_zero_or_pos k with rfl | hk
   ·
    simp at h; omega
   ·
    have := nDigits_le k (u / 10) hk (by rw [Nat.pow_succ] at h; omega)
    omega
theorem itoa_le (n : Int) (h0 : 0 ≤ n) (h1 : n ≤ 999999999) : (Lib.itoa n).length ≤ 20 := by
 unfold Lib.itoa
 rw [if_neg (by omega), Lib.decDigits_length]
 exact Nat.le_trans (nDigits_le 9 n.toNat (by omega) (by omega)) (by omega)
theorem wordsQ_le {q : Qry} (h : MayP q) : ∀ x ∈ wordsQ q, x.length ≤ 5000 := by
 have hw : ∀ (l : List Tst) (i : Nat), (∀ t ∈ l, t.col.length ≤ 16 ∧ t.val.length ≤ 1024) → ∀ x ∈ whW i l, x.length ≤ 5000 := by
  intro l
  induction l with
  | nil => intro i _ x hx; cases hx
  | cons t l ih =>
   intro i ht x hx
   simp only [whW, List.mem_append] at hx
   rcases hx with hx | hx
   ·
    have h1 := ht t (by simp)
    have h2 := esc_le t.val
    simp only [testW, List.mem_cons, List.not_mem_nil, or_false] at hx
    rcases hx with rfl | rfl | rfl | rfl
    ·
     split <;> simp
    ·
     omega
    ·
     unfold opT; repeat' split
     all_goals simp
    ·
     simp only [List.length_append, List.length_cons, List.length_nil]; omega
   ·
    exact ih (i + 1) (fun t h => ht t (by simp [h])) x hx
 intro x hx
 simp only [wordsQ, List.mem_append] at hx
 have hc := nm_len h.tab
 have hcols : (colsT q.cols).length ≤ 5000 := by
  unfold colsT
  split
  ·
   simp
  ·
   have := join_le q.cols [44, 32] 16 (fun x hx => nm_len (h.colsB x hx))
   have h8 := h.cols
   have h3 : q.cols.length * (16 + [(44 : UInt8), 32].length) ≤ 8 * 18 := Nat.mul_le_mul h8 (by simp)
   omega
 rcases hx with (((hx | hx) | hx) | hx) | hx
 ·
  simp only [headW, List.mem_cons, List.not_mem_nil, or_false] at hx
  rcases hx with rfl | rfl | rfl | rfl
  ·
   simp
  ·
   exact hcols
  ·
   simp
  ·
   omega
 ·
  exact hw q.wh 0 (fun t ht => ⟨nm_len (h.whB t ht).1, (h.whB t ht).2.2.2⟩) x hx
 ·
  unfold ordW at hx
  split at hx
  ·
   cases hx
  ·
   have := ord_le h
   simp only [List.mem_cons, List.not_mem_nil, or_false] at hx
   rcases hx with rfl | rfl | rfl
   ·
    simp
   ·
    simp
   ·
    omega
 ·
  unfold downW at hx
  split at hx
  ·
   simp only [List.mem_cons, List.not_mem_nil, or_false] at hx
   subst hx
   simp
  ·
   cases hx
 ·
  unfold limW at hx
  split at hx
  ·
   simp only [List.mem_cons, List.not_mem_nil, or_false] at hx
   rcases hx with rfl | rfl
   ·
    simp
   ·
    have := itoa_le q.lim h.lim0 h.lim1; omega
  ·
   cases hx
def Stq (A0 : Option Addr) (c0 : Nat) (A2 : Option Addr) (c2 : Nat) (q : Qry) (w wr : World) (v : Value) (xs : List (List UInt8)) : Prop :=
 Sr (w.heap.size + 1) wr v xs ∧ QBx wr w.heap.size A0 c0 A2 c2 q ∧ Below w.heap.size w wr ∧ w.heap.size + 1 ≤ wr.heap.size
theorem Stq.app {A0 : Option Addr} {c0 : Nat} {A2 : Option Addr} {c2 : Nat} {q : Qry} {w wr w1 : World} {v v1 : Value} {xs ys : List (List UInt8)} (h : Stq A0 c0 A2 c2 q w wr v xs) (hS : Sr (w.heap.size + 1) w1 v1 ys) (hB : Below (w.heap.size + 1) wr w1) : Stq A0 c0 A2 c2 q w w1 v1 ys := by
 refine ⟨hS, ?_, h.2.2.1.trans (hB.mono (by omega)), ?_⟩
 ·
  have h2 := hB.block w.heap.size (by omega)
  unfold QBx
  rw [h2]
  exact h.2.1
 ·
  have := hB.size; have := h.2.2.2; omega
theorem Stq.ext {A0 : Option Addr} {c0 : Nat} {A2 : Option Addr} {c2 : Nat} {q : Qry} {w wr w1 : World} {v : Value} {xs : List (List UInt8)} (h : Stq A0 c0 A2 c2 q w wr v xs) (hE : Ext wr w1) : Stq A0 c0 A2 c2 q w w1 v xs :=
 h.app (h.1.ext hE) (Below.mono hE h.2.2.2)
set_option maxRecDepth 100000 in
set_option maxHeartbeats 3200000 in
theorem print_true (k : Nat) (A0 : Option Addr) (c0 : Nat) (A2 : Option Addr) (c2 : Nat) (q : Qry) (w : World) (hr0 : Kd.C Kd.string w A0 q.cols.length (q.cols.map strB)) (hc0 : q.cols.length ≤ c0) (hr2 : Kd.C k37 w A2 q.wh.length (q.wh.map t37)) (hc2 : q.wh.length ≤ c2) (hG : Glob w)
  (hm : okQ q ∧ mayQ q = true) (hp : MayP q) (l : List UInt8) (r : Int) (hR : (if (textQ q).length ≤ 1024 then (textQ q, (0 : Int)) else ([], 320)) = (l, r)) :
  Calls Tryz.prog 13 #[.agg #[.slice A0 q.cols.length c0, .string (strB q.tab), .slice A2 q.wh.length c2, .string (strB q.ord), .bool q.down, .int .i64 q.lim]] w fun e w' => e = .returned (.tuple #[.string (strB l), .int .i64 r]) ∧ Below w.heap.size w w' := by
 have hcl := hp.cols
 have hwl := hp.wh
 have hcall : ∀ W (h : Kd.C Kd.string W A0 q.cols.length (q.cols.map strB)) (h' : Kd.C k37 W A2 q.wh.length (q.wh.map t37)), Calls Tryz.prog 26 #[.agg #[.slice A0 q.cols.length c0, .string (strB q.tab), .slice A2 q.wh.length c2, .string (strB q.ord), .bool q.down, .int .i64 q.lim]] W fun e w' => e = .returned (.bool true) ∧ Below W.heap.size W w' := by
  intro W h h'
  have := may_calls q hm.1 A0 c0 A2 c2 W h hc0 h' hc2
  rw [hm.2] at this
  exact this
 have HC0 := Aside0.mk hr0
 have HR := Aside0.mk hR
 clear hR
 have HC2 := Aside0.mk hr2
 have HM := Aside0.mk hm
 clear hr0 hr2 hm
 have HP := Aside0.mk hp
 clear hp
 go_enter Tryz.func13, Tryz.ntmps13
 go_upto_if 16 with (go_at_call 26; (with_reducible refine (hcall _ ?h0 ?h2).mono ?_); rotate_left; rotate_left; rintro e w1 ⟨rfl, hb1⟩; have hQ1 : QBx w1 w.heap.size A0 c0 A2 c2 q := heap_below (heap_alloc_new _ _) hb1; have hB1 : Below w.heap.size w w1 := below_step ((Below.refl _ _).alloc (Nat.le_refl _) _) hb1; have k0 := blk_cell hQ1 0; have HQ1 := Aside0.mk hQ1; have HB1 := Aside0.mk hB1; clear hQ1 hB1 hb1)
 case h0 => exact Kd.C_below HC0.out ((Below.refl _ _).alloc (Nat.le_refl _) _)
 case h2 => exact Kd.C_below HC2.out ((Below.refl _ _).alloc (Nat.le_refl _) _)
 go_cut [4] from 16 to 19 (fun (s4 : Value) wx => s4 = .string (strB (colsT q.cols)) ∧ QBx wx w.heap.size A0 c0 A2 c2 q ∧ Below w.heap.size w wx)
 case first =>
  by_cases he : q.cols = []
  ·
   have he0 : q.cols.length = 0 := by rw [he]; rfl
   have hd : decide ((0 : Int) < (0 : Int)) = false := by decide
   go_wp2_with fail
   go_meet
   case rel => exact ⟨by unfold colsT; rw [if_pos he]; rfl, HQ1.out, HB1.out⟩
  ·
   have he0 : 0 < q.cols.length := List.length_pos_iff.2 he
   have he1 : decide (0 < q.cols.length) = true := decide_eq_true he0
   have hj : Calls Tryz.prog 27 #[.slice A0 q.cols.length c0, .string ⟨#[44, 32]⟩] w1 fun e w' => e = .returned (.string (strB (Lib.join q.cols [44, 32]))) ∧ Below w1.heap.size w1 w' := join_calls w1 A0 q.cols.length c0 q.cols [44, 32] (Kd.C_below HC0.out HB1.out) he0 hc0 (by have := join_le q.cols [44, 32] 16 (fun x hx => nm_len (HP.out.colsB x hx)); simp at this; omega) (by omega)
   go_wp2_with (go_at_call 27; (with_reducible refine hj.mono ?_); rintro e w2 ⟨rfl, hb2⟩)
   go_meet
   case rel => exact ⟨by unfold colsT; rw [if_neg he], heap_below HQ1.out hb2, below_step HB1.out hb2⟩
 case rest =>
 obtain ⟨rfl, hQ, hB⟩ := hcut
 have k0 := blk_cell hQ 0
 have k1 := blk_cell hQ 1
 have k2 := blk_cell hQ 2
 have k3 := blk_cell hQ 3
 have k4 := blk_cell hQ 4
 have k5 := blk_cell hQ 5
 obtain ⟨w2, hw2⟩ : ∃ w2, w2 = wc := ⟨_, rfl⟩
 subst hw2
 have HQ := Aside0.mk hQ
 have HB := Aside0.mk hB
 clear hQ hB HQ1 HB1 k0
 have hsz : w.heap.size + 1 ≤ w2.heap.size := blk_lt HQ.out
 have hlt : w.heap.size < w2.heap.size := by omega
 go_wp2_with fail
 go_loopw [5, 27] (fun s5 s27 wr => ∃ i : Nat, i ≤ q.wh.length ∧ s27 = .int .i64 i ∧ Sr (w.heap.size + 1) wr s5 (headW q ++ whW 0 (q.wh.take i)) ∧ QBx wr w.heap.size A0 c0 A2 c2 q ∧ Below w.heap.size w wr ∧ w.heap.size + 1 ≤ wr.heap.size) (fun _ v _ => q.wh.length - (intOf v).toNat)
 case atStart =>
  refine ⟨0, by omega, rfl, ?_, (show QBx w2 w.heap.size A0 c0 A2 c2 q from HQ.out) |> fun h => heap_below h ((Below.refl _ _).alloc (Nat.le_refl _) _), HB.out.alloc (by omega) _, by simp; omega⟩
  rw [List.take_zero]
  show Sr _ _ _ (headW q ++ [])
  rw [List.append_nil]
  exact Sr.lit (xs := headW q) hsz rfl (by simp [headW])
 case round =>
  obtain ⟨i, hi, rfl, hS, hQ, hB, hz⟩ := hrel
  have hltr : w.heap.size < wr.heap.size := by omega
  by_cases hlt : i < q.wh.length
  ·
   have hb : (i : Int) < q.wh.length := by omega
   have hb0 : (0 : Int) ≤ i := by omega
   obtain ⟨t, ht⟩ : ∃ t, t = q.wh[i] := ⟨_, rfl⟩
   obtain ⟨ad, hA, c1, c2', c3⟩ := at_T37 HC2.out (i : Int) (by omega) hb
   rw [rd37 _ _ hlt, ← ht] at c1 c2' c3
   simp only [t37, Int.toNat_natCast] at c1 c2' c3
   have hblk := World.block_lt_of_cell? w _ c1
   replace c1 := (hB.cell hblk).trans c1
   replace c2' := (hB.cell (p := ⟨_, _, none⟩) hblk).trans c2'
   replace c3 := (hB.cell (p := ⟨_, _, none⟩) hblk).trans c3
   have HS := Aside0.mk hS
   have HQr := Aside0.mk hQ
   have HBr := Aside0.mk hB
   have HT := Aside0.mk ht
   clear hS hQ hB ht
   subst hA
   go_upto_if 33 with fail
   have HLW := Aside0.mk (show (headW q ++ whW 0 (q.wh.take i)).length ≤ 40 by rw [List.length_append, whW_length, List.length_take]; simp only [headW, List.length_cons, List.length_nil]; omega)
   have hown := own_lt HS.out
   have HO5 := Aside0.mk hown
   have HKB : Aside0 (∀ W : World, (wr.alloc (.cells #[.string (strB t.col), .int .i64 t.op, .string (strB t.val)] 37)).grownBy W (Value.ownBlock u5) → Below (w.heap.size + 1) (wr.alloc (.cells #[.string (strB t.col), .int .i64 t.op, .string (strB t.val)] 37)) W → W.heap[wr.heap.size]? = some (.cells #[.string (strB t.col), .int .i64 t.op, .string (strB t.val)] 37 (0, 0)) ∧ QBx W w.heap.size A0 c0 (some ad) c2 q ∧ Below w.heap.size w W ∧ wr.heap.size + 1 ≤ W.heap.size) := by
    refine ⟨fun W hG hBW => ⟨?_, ?_, ?_, ?_⟩⟩
    ·
     rw [hG.block wr.heap.size (by simp) (fun e => by have := (hown _ e.symm).2; omega)]
     exact heap_alloc_new _ _
    ·
     have := hBW.block w.heap.size (by omega)
     rw [QBx, this, Below.heap_alloc _ _ _ (by omega)]
     exact HQr.out
    ·
     exact (HBr.out.alloc (by omega) _).trans (hBW.mono (by omega))
    ·
     have := hG.size; simp at this; omega
   clear hown
   go_cut [5] from 33 to 39 (fun (s5 : Value) wx => Sr (w.heap.size + 1) wx s5 (headW q ++ whW 0 (q.wh.take i) ++ [if i = 0 then [119, 104, 101, 114, 101] else [97, 110, 100]]) ∧ wx.heap[wr.heap.size]? = some (.cells #[.string (strB t.col), .int .i64 t.op, .string (strB t.val)] 37 (0, 0)) ∧ QBx wx w.heap.size A0 c0 (some ad) c2 q ∧ Below w.heap.size w wx ∧ wr.heap.size + 1 ≤ wx.heap.size)
   case first =>
    by_cases hi0 : i = 0
    ·
     have hd : ((i : Int) == 0) = true := by simp [hi0]
     have HI := Aside0.mk hi0
     clear hi0
     go_wp2_with ((at_builtin; refine sr_app (W := wr.alloc (.cells #[.string (strB t.col), .int .i64 t.op, .string (strB t.val)] 37)) (w.heap.size + 1) rfl _ _ rfl u5 (headW q ++ whW 0 (q.wh.take i)) [[119, 104, 101, 114, 101]] #[.string ⟨#[119, 104, 101, 114, 101]⟩] rfl ?sx rfl rfl ?s1 ?s2 ?s3 ?_; (case sx => simp [Act.eval]); (case s1 => exact HS.out.ext ((Ext.refl _).alloc _)); (case s2 => simp; omega); (case s3 => have := HLW.out; simp only [List.length_cons, List.length_nil]; omega); intro v1 w1 hS1 hB1 hG1; have HS1 := Aside0.mk hS1; have HB1 := Aside0.mk hB1; have HG1 := Aside0.mk hG1; clear hS1 hB1 hG1))
     go_meet
     case rel =>
      obtain ⟨p1, p2, p3, p4⟩ := HKB.out w1 HG1.out HB1.out
      exact ⟨by rw [if_pos HI.out]; exact HS1.out, p1, p2, p3, p4⟩
    ·
     have hd : ((i : Int) == 0) = false := by simp; omega
     have HI := Aside0.mk hi0
     clear hi0
     go_wp2_with ((at_builtin; refine sr_app (W := wr.alloc (.cells #[.string (strB t.col), .int .i64 t.op, .string (strB t.val)] 37)) (w.heap.size + 1) rfl _ _ rfl u5 (headW q ++ whW 0 (q.wh.take i)) [[97, 110, 100]] #[.string ⟨#[97, 110, 100]⟩] rfl ?sx rfl rfl ?s1 ?s2 ?s3 ?_; (case sx => simp [Act.eval]); (case s1 => exact HS.out.ext ((Ext.refl _).alloc _)); (case s2 => simp; omega); (case s3 => have := HLW.out; simp only [List.length_cons, List.length_nil]; omega); intro v1 w1 hS1 hB1 hG1; have HS1 := Aside0.mk hS1; have HB1 := Aside0.mk hB1; have HG1 := Aside0.mk hG1; clear hS1 hB1 hG1))
     go_meet
     case rel =>
      obtain ⟨p1, p2, p3, p4⟩ := HKB.out w1 HG1.out HB1.out
      exact ⟨by rw [if_neg HI.out]; exact HS1.out, p1, p2, p3, p4⟩
   case rest =>
   obtain ⟨hS3, hT3, hQ3, hB3, hz3⟩ := hcut
   obtain ⟨w3, hw3⟩ : ∃ w3, w3 = wc := ⟨_, rfl⟩
   subst hw3
   have HS3 := Aside0.mk hS3
   have HT3 := Aside0.mk hT3
   have HQ3 := Aside0.mk hQ3
   have HB3 := Aside0.mk hB3
   clear hS3 hT3 hQ3 hB3 HS HQr HBr HKB c1 c2' c3 hblk HO5
   have HV := Aside0.mk (show t.val.length ≤ 1000000000000 by have := (HP.out.whB t (by rw [HT.out]; exact List.getElem_mem hlt)).2.2.2; omega)
   go_wp2_with fail
   refine ext_tail2 6 [(0, 40), (1, 41), (2, 42), (3, 43)] [0, 1, 2, 3] (fun i w v => match i with | 0 => ∃ b, v = .slice (some ⟨b, 0, none⟩) 4 4 ∧ Kd.C Kd.string w (some ⟨b, 0, none⟩) 4 [s92, s9292, s34, s9234] | 1 => ∃ g A1 c1, v = .pointer (some ⟨g, 0, none⟩) ∧ RepB w g 0 0 .nilIface (.slice A1 4 c1) ∧ Kd.C Kd.string w A1 4 [s92, s9292, s34, s9234] ∧ (∀ ad, A1 = some ad → ad.block < g) ∧ w3.heap.size ≤ g | 2 => v = .pointer (some ⟨wr.heap.size, 2, none⟩) | 3 => v = .string (strB t.val) | _ => True) (by kernel_rfl) (by kernel_rfl) (by rfl) rfl ?mono13 ?steps13 ?fin13
   case mono13 =>
    intro i w w' v h hE
    match i with
    | 0 => exact (by obtain ⟨b, h1, h2⟩ := h; exact ⟨b, h1, Kd.C_below h2 hE⟩)
    | 1 => exact (by obtain ⟨g, A1, c1, h1, h2, h3, h4, h5⟩ := h; exact ⟨g, A1, c1, h1, heap_below h2 hE, Kd.C_below h3 hE, h4, h5⟩)
    | 2 => exact h
    | 3 => exact h
    | _ + 4 => trivial
   case steps13 =>
    refine stepE_cons ⟨_, rfl, fun a w hE hH => ?_⟩ ?_
    ·
     refine Or.inl ⟨(rfl), goodE_new (.slice (some ⟨w.heap.size, 0, none⟩) 4 4) (w.alloc (.cells #[.string s92, .string s9292, .string s34, .string s9234] 9)) (by simp [execOp, Act.eval, go_sem]; rfl) ((Ext.refl w).alloc _) ⟨w.heap.size, rfl, ?_⟩⟩
     exact strC_lit4 w s92 s9292 s34 s9234
    refine stepE_cons ⟨_, rfl, fun a w hE hH => ?_⟩ ?_
    ·
     obtain ⟨v40, e40, g40⟩ := hH.dep 0 40 rfl (by kernel_rfl)
     obtain ⟨b, rfl, hb⟩ := g40
     refine Or.inl ⟨(rfl), goodE_call rfl #[.slice (some ⟨b, 0, none⟩) 4 4] (by simp [Act.eval, e40]) _ Tryz.func28 (by kernel_rfl) (by kernel_rfl) ?_⟩
     refine (newRep_calls _ _ _ _ _ _ w hb).mono ?_
     rintro e w' ⟨g, A1, c1, rfl, h1, h2, h3, h4, h5⟩
     exact ⟨_, rfl, h5, g, A1, c1, rfl, h1, h2, h3, Nat.le_trans (by have := hE.size; simpa using this) h4⟩
    refine stepE_cons ⟨_, rfl, fun a w hE hH => ?_⟩ ?_
    ·
     have e7 : a.tmps[7]? = some (.pointer (some ⟨wr.heap.size, 0, none⟩)) := hH.old 7 rfl
     exact Or.inl ⟨rfl, goodE_val (.pointer (some ⟨wr.heap.size, 2, none⟩)) (by simp [execOp, Act.eval, e7, go_sem]) rfl⟩
    refine stepE_cons ⟨_, rfl, fun a w hE hH => ?_⟩ ?_
    ·
     obtain ⟨v42, e42, g42⟩ := hH.dep 2 42 rfl (by kernel_rfl)
     have q42 : v42 = .pointer (some ⟨wr.heap.size, 2, none⟩) := g42
     subst q42
     have hcell : w.cell? ⟨wr.heap.size, 2, none⟩ = some (.string (strB t.val)) := (blk_cell (heap_below (blk_drew HT3.out) hE) 2).trans rfl
     exact Or.inl ⟨(rfl), goodE_val (.string (strB t.val)) (by simp [execOp, Act.eval, e42, hcell, go_sem]) rfl⟩
    exact stepE_nil
   refine ⟨⟨(some 44), .call ⟨.value (.func 29), #[(.tmp 41), (.tmp 43)], #[76, 9]⟩, _, _, _, none⟩, ⟨(some 8), .assign (.tmp 44), _, _, _, none⟩, rfl, rfl, ?_⟩
   rintro vals wz hE hV
   have k41 : ∃ g A1 c1, (vals 1) = .pointer (some ⟨g, 0, none⟩) ∧ RepB wz g 0 0 .nilIface (.slice A1 4 c1) ∧ Kd.C Kd.string wz A1 4 [s92, s9292, s34, s9234] ∧ (∀ ad, A1 = some ad → ad.block < g) ∧ w3.heap.size ≤ g := hV 1 (by simp) rfl
   have k43 : vals 3 = .string (strB t.val) := hV 3 (by simp) rfl
   refine ⟨rfl, ?_⟩
   intro KK hKK
   simp only [List.map_cons, List.map_nil, putAll, Act.put, List.setIfInBounds_toArray, List.set_cons_zero, List.set_cons_succ, k43]
   obtain ⟨g, A1, c1, q41, hRep, hRC, hRA, hRg⟩ := k41
   rw [q41]
   refine finE_call rfl #[.pointer (some ⟨g, 0, none⟩), .string (strB t.val)] (by simp [Act.eval]) _ Tryz.func29 (by kernel_rfl) (by kernel_rfl) ?_
   refine (replace_calls g A1 c1 t.val wz hRep hRC hRA (by rw [HT.out] at *; exact HV.out)).mono ?_
   rintro e w4 ⟨rfl, hb4⟩
   refine ⟨_, rfl, hKK _ _ ⟨rfl, ?_⟩⟩
   intro K2 hK2
   refine finE_val (w1 := w4) (v := .string (strB (esc t.val))) (by simp [execOp, Act.eval, Act.put]) (hK2 _ _ ?_)
   have hsz4 : w3.heap.size ≤ w4.heap.size := by have h1 := hE.size; have h2 := hb4.size; simp at h1; omega
   have hE4 : Ext w3 w4 := Below.trans ((Ext.to_drew _).trans hE) (hb4.mono hRg)
   have HE4 := Aside0.mk hE4
   have HZ4 := Aside0.mk hsz4
   clear hE hV q41 hRep hRC hRA hb4 hsz4 hE4 hKK hK2 k43
   obtain ⟨HOP⟩ : Nonempty (Aside0 (1 ≤ t.op ∧ t.op ≤ 6)) := ⟨⟨by have := HP.out.whB t (by rw [HT.out]; exact List.getElem_mem hlt); exact ⟨this.2.1, this.2.2.1⟩⟩⟩
   have HV2 := Aside0.mk (show (esc t.val).length ≤ 4000 by have := esc_le t.val; have := (HP.out.whB t (by rw [HT.out]; exact List.getElem_mem hlt)).2.2.2; omega)
   go_wp2_with fail
   refine ext_tail2 15 [(0, 45), (1, 46), (2, 47), (3, 48), (4, 49), (5, 50), (6, 51), (7, 52), (8, 53), (9, 54), (10, 55), (11, 56), (12, 57)] [0, 1, 2, 3, 4, 5, 6, 7, 8, 9, 10, 11, 12] (fun i w v => match i with | 0 => v = u5 | 1 => v = .pointer (some ⟨wr.heap.size, 0, none⟩) | 2 => v = .string (strB t.col) | 3 => ∃ bk o c, v = .slice (some ⟨bk, o, none⟩) 6 c ∧ ∀ (j : Nat) x, opsL[j]? = some x → w.cell? ⟨bk, o + j, none⟩ = some (sv x) | 4 => v = .pointer (some ⟨wr.heap.size, 1, none⟩) | 5 => v = .int .i64 t.op | 6 => v = .int .i64 (t.op - 1) | 7 => ∃ ad, v = .pointer (some ad) ∧ w.cell? ad = some (sv (opT t.op)) | 8 => v = .string (strB (opT t.op)) | 9 => v = .string (strB (esc t.val)) | 10 => v = .string (strB ([34] ++ esc t.val)) | 11 => v = .string (strB ([34] ++ esc t.val ++ [34])) | 12 => ∃ b, v = .slice (some ⟨b, 0, none⟩) 3 3 ∧ w.heap[b]? = some (.cells #[.string (strB t.col), .string (strB (opT t.op)), .string (strB ([34] ++ esc t.val ++ [34]))] 9 (0, 0)) | _ => True) (by kernel_rfl) (by kernel_rfl) (by rfl) rfl ?mono14 ?steps14 ?fin14
   case mono14 =>
    intro i w w' v h hE
    match i with
    | 0 => exact h
    | 1 => exact h
    | 2 => exact h
    | 3 => exact (by obtain ⟨bk, o, c, h1, h2⟩ := h; exact ⟨bk, o, c, h1, fun j x hj => cell_ext hE (h2 j x hj)⟩)
    | 4 => exact h
    | 5 => exact h
    | 6 => exact h
    | 7 => exact (by obtain ⟨ad, h1, h2⟩ := h; exact ⟨ad, h1, cell_ext hE h2⟩)
    | 8 => exact h
    | 9 => exact h
    | 10 => exact h
    | 11 => exact h
    | 12 => exact (by obtain ⟨b, h1, h2⟩ := h; exact ⟨b, h1, heap_below h2 hE⟩)
    | _ + 13 => trivial
   case steps14 =>
    refine stepE_cons ⟨_, rfl, fun a w hE hH => ?_⟩ ?_
    ·
     have e5 : a.tmps[5]? = some (u5) := hH.old 5 rfl
     exact Or.inl ⟨rfl, goodE_move _ rfl (eval_of e5) rfl⟩
    refine stepE_cons ⟨_, rfl, fun a w hE hH => ?_⟩ ?_
    ·
     have e7 : a.tmps[7]? = some (.pointer (some ⟨wr.heap.size, 0, none⟩)) := hH.old 7 rfl
     exact Or.inl ⟨rfl, goodE_val (.pointer (some ⟨wr.heap.size, 0, none⟩)) (by simp [execOp, Act.eval, e7, go_sem]) rfl⟩
    refine stepE_cons ⟨_, rfl, fun a w hE hH => ?_⟩ ?_
    ·
     obtain ⟨v46, e46, g46⟩ := hH.dep 1 46 rfl (by kernel_rfl)
     have q46 : v46 = .pointer (some ⟨wr.heap.size, 0, none⟩) := g46
     subst q46
     have hcell : w.cell? ⟨wr.heap.size, 0, none⟩ = some (.string (strB t.col)) := (blk_cell (heap_below (blk_drew (heap_below HT3.out HE4.out)) hE) 0).trans rfl
     exact Or.inl ⟨(rfl), goodE_val (.string (strB t.col)) (by simp [execOp, Act.eval, e46, hcell, go_sem]) rfl⟩
    refine stepE_cons ⟨_, rfl, fun a w hE hH => ?_⟩ ?_
    ·
     refine Or.inl ⟨(rfl), goodE_call rfl #[] (by simp) _ Tryz.func30 (by kernel_rfl) (by kernel_rfl) ?_⟩
     refine (ops_calls w).mono ?_
     rintro e w' ⟨bk, o, c, rfl, h1, h2⟩
     exact ⟨_, rfl, h2, bk, o, c, rfl, h1⟩
    refine stepE_cons ⟨_, rfl, fun a w hE hH => ?_⟩ ?_
    ·
     have e7 : a.tmps[7]? = some (.pointer (some ⟨wr.heap.size, 0, none⟩)) := hH.old 7 rfl
     exact Or.inl ⟨rfl, goodE_val (.pointer (some ⟨wr.heap.size, 1, none⟩)) (by simp [execOp, Act.eval, e7, go_sem]) rfl⟩
    refine stepE_cons ⟨_, rfl, fun a w hE hH => ?_⟩ ?_
    ·
     obtain ⟨v49, e49, g49⟩ := hH.dep 4 49 rfl (by kernel_rfl)
     have q49 : v49 = .pointer (some ⟨wr.heap.size, 1, none⟩) := g49
     subst q49
     have hcell : w.cell? ⟨wr.heap.size, 1, none⟩ = some (.int .i64 t.op) := (blk_cell (heap_below (blk_drew (heap_below HT3.out HE4.out)) hE) 1).trans rfl
     exact Or.inl ⟨(rfl), goodE_val (.int .i64 t.op) (by simp [execOp, Act.eval, e49, hcell, go_sem]) rfl⟩
    refine stepE_cons ⟨_, rfl, fun a w hE hH => ?_⟩ ?_
    ·
     obtain ⟨v50, e50, g50⟩ := hH.dep 5 50 rfl (by kernel_rfl)
     have q50 : v50 = .int .i64 t.op := g50
     subst q50
     exact Or.inl ⟨(rfl), goodE_val (.int .i64 (t.op - 1)) (by have h1 := HOP.out; have h2 : IntKind.i64.wrap (t.op - 1) = t.op - 1 := IntWalk.i64_in (t.op - 1) (by omega); simp [execOp, Act.eval, e50, go_sem, h2]) rfl⟩
    refine stepE_cons ⟨_, rfl, fun a w hE hH => ?_⟩ ?_
    ·
     obtain ⟨v48, e48, g48⟩ := hH.dep 3 48 rfl (by kernel_rfl)
     obtain ⟨v51, e51, g51⟩ := hH.dep 6 51 rfl (by kernel_rfl)
     have q51 : v51 = .int .i64 (t.op - 1) := g51
     subst q51
     obtain ⟨bk, o, c, rfl, hb⟩ := g48
     have h1 := HOP.out
     have h2 : (0 : Int) ≤ t.op - 1 := by omega
     have h3 : t.op - 1 < 6 := by omega
     refine Or.inl ⟨(rfl), goodE_val (.pointer (some ((⟨bk, o, none⟩ : Addr).add (t.op - 1).toNat))) (by simp [execOp, Act.eval, e48, e51, go_sem, h2, h3, h1.1, show ¬ t.op < 1 by omega]) ⟨_, rfl, ?_⟩⟩
     rw [addr_add]
     exact hb _ _ (opsL_get t.op h1.1 h1.2)
    refine stepE_cons ⟨_, rfl, fun a w hE hH => ?_⟩ ?_
    ·
     obtain ⟨v52, e52, g52⟩ := hH.dep 7 52 rfl (by kernel_rfl)
     obtain ⟨ad, rfl, hc⟩ := g52
     exact Or.inl ⟨(rfl), goodE_val (.string (strB (opT t.op))) (by simp [execOp, Act.eval, e52, hc, go_sem, sv]) rfl⟩
    refine stepE_cons ⟨_, rfl, fun a w hE hH => ?_⟩ ?_
    ·
     have e8 : a.tmps[8]? = some (.string (strB (esc t.val))) := hH.old 8 rfl
     exact Or.inl ⟨rfl, goodE_move _ rfl (eval_of e8) rfl⟩
    refine stepE_cons ⟨_, rfl, fun a w hE hH => ?_⟩ ?_
    ·
     obtain ⟨v54, e54, g54⟩ := hH.dep 9 54 rfl (by kernel_rfl)
     have q54 : v54 = .string (strB (esc t.val)) := g54
     subst q54
     have hv := HV2.out
     have hz : (strB [34] ++ strB (esc t.val)) = strB (34 :: esc t.val) := append_strB _ _
     have hn : ¬ (9223372036854775807 < 1 + (strB (esc t.val)).size) := by rw [strB_size]; omega
     exact Or.inl ⟨(rfl), goodE_val (.string (strB ([34] ++ esc t.val))) (by simp [execOp, Act.eval, e54, go_sem, hn]; exact hz) rfl⟩
    refine stepE_cons ⟨_, rfl, fun a w hE hH => ?_⟩ ?_
    ·
     obtain ⟨v55, e55, g55⟩ := hH.dep 10 55 rfl (by kernel_rfl)
     have q55 : v55 = .string (strB ([34] ++ esc t.val)) := g55
     subst q55
     have hv := HV2.out
     have hz : (strB (34 :: esc t.val) ++ strB [34]) = strB (34 :: (esc t.val ++ [34])) := append_strB _ _
     have hn : ¬ (9223372036854775807 < (strB (34 :: esc t.val)).size + 1) := by rw [strB_size, List.length_cons]; omega
     exact Or.inl ⟨(rfl), goodE_val (.string (strB ([34] ++ esc t.val ++ [34]))) (by simp [execOp, Act.eval, e55, go_sem, hn]; exact hz) rfl⟩
    refine stepE_cons ⟨_, rfl, fun a w hE hH => ?_⟩ ?_
    ·
     obtain ⟨v47, e47, g47⟩ := hH.dep 2 47 rfl (by kernel_rfl)
     have q47 : v47 = .string (strB t.col) := g47
     subst q47
     obtain ⟨v53, e53, g53⟩ := hH.dep 8 53 rfl (by kernel_rfl)
     have q53 : v53 = .string (strB (opT t.op)) := g53
     subst q53
     obtain ⟨v56, e56, g56⟩ := hH.dep 11 56 rfl (by kernel_rfl)
     have q56 : v56 = .string (strB ([34] ++ esc t.val ++ [34])) := g56
     subst q56
     exact Or.inl ⟨(rfl), goodE_new (.slice (some ⟨w.heap.size, 0, none⟩) 3 3) (w.alloc (.cells #[.string (strB t.col), .string (strB (opT t.op)), .string (strB ([34] ++ esc t.val ++ [34]))] 9)) (by simp [execOp, Act.eval, e47, e53, e56, go_sem]) ((Ext.refl w).alloc _) ⟨w.heap.size, rfl, heap_alloc_new _ _⟩⟩
    exact stepE_nil
   refine ⟨⟨(some 58), .call ⟨.builtin .append, #[(.tmp 45), (.tmp 57)], #[22, 22]⟩, _, _, _, none⟩, ⟨(some 5), .assign (.tmp 58), _, _, _, none⟩, rfl, rfl, ?_⟩
   rintro vals wz hE hV
   have k45 : vals 0 = u5 := hV 0 (by simp) rfl
   have k57 : ∃ b, (vals 12) = .slice (some ⟨b, 0, none⟩) 3 3 ∧ wz.heap[b]? = some (.cells #[.string (strB t.col), .string (strB (opT t.op)), .string (strB ([34] ++ esc t.val ++ [34]))] 9 (0, 0)) := hV 12 (by simp) rfl
   refine ⟨rfl, ?_⟩
   intro KK hKK
   simp only [List.map_cons, List.map_nil, putAll, Act.put, List.setIfInBounds_toArray, List.set_cons_zero, List.set_cons_succ, k45]
   obtain ⟨b, q57, hb57⟩ := k57
   rw [q57]
   have hE4' : Ext w3 wz := (HE4.out.trans ((Ext.to_drew _).trans hE))
   have hSz := HS3.out.ext hE4'
   have hrun := sr_run_app (c := 3) (ys := [t.col, opT t.op, [34] ++ esc t.val ++ [34]]) 22 hSz hb57 rfl (by have := hE4'.size; omega) (by have := HLW.out; simp only [List.length_append, List.length_cons, List.length_nil] at this ⊢; omega)
   obtain ⟨v5, w5, hr5, hS5, hG5, hB5⟩ := hrun
   refine finE_val (w1 := w5) (v := v5) (exec_append (s := .tmp 45) (x := .tmp 57) rfl (by simpa [Act.eval] using hr5)) (hKK _ _ ⟨rfl, ?_⟩)
   intro K2 hK2
   refine finE_val (w1 := w5) (v := v5) (by simp [execOp, Act.eval, Act.put]) (hK2 _ _ ?_)
   have HS5 := Aside0.mk hS5
   have HB5 := Aside0.mk (show Below w.heap.size w w5 from (Below.trans HB3.out (hE4'.mono (by have := HB3.out.size; omega))).trans (hB5.mono (by omega)))
   have HQ5 := Aside0.mk (show QBx w5 w.heap.size A0 c0 (some ad) c2 q from by
    have h1 := heap_below HQ3.out hE4'
    have h2 := hB5.block w.heap.size (by omega)
    unfold QBx
    rw [h2]
    exact h1)
   have HZ5 := Aside0.mk (show w.heap.size + 1 ≤ w5.heap.size from by have h1 := hE4'.size; have h2 := hB5.size; omega)
   clear hE hV hE4' hSz hr5 hS5 hG5 hB5 q57 hb57 hKK hK2
   go_wp2
   go_roundw
   case rel =>
    refine ⟨i + 1, by omega, by go_num, ?_, HQ5.out, HB5.out, HZ5.out⟩
    have e : q.wh.take (i + 1) = q.wh.take i ++ [t] := by rw [HT.out, List.take_succ_eq_append_getElem hlt]
    have hl : (q.wh.take i).length = i := by rw [List.length_take]; omega
    rw [e, whW_snoc, hl, Nat.zero_add]
    have := HS5.out
    rw [List.append_assoc, List.append_assoc] at this
    exact this
   case measure => simp [intOf]; omega
  ·
   obtain rfl : i = q.wh.length := by omega
   have hnl : ¬ ((q.wh.length : Int) < q.wh.length) := by omega
   rw [List.take_length] at hS
   have HQr := Aside0.mk hQ
   have HBr := Aside0.mk hB
   have HS := Aside0.mk hS
   have hk3 := blk_cell hQ 3
   have hk4 := blk_cell hQ 4
   have hk5 := blk_cell hQ 5
   clear hS hQ hB
   have hS0 : Stq A0 c0 A2 c2 q w wr u5 (headW q ++ whW 0 q.wh) := ⟨HS.out, HQr.out, HBr.out, hz⟩
   have HS0 := Aside0.mk hS0
   clear hS0 HS HQr HBr hz HQ HB
   have hln : (headW q ++ whW 0 q.wh).length ≤ 40 := by rw [List.length_append, whW_length]; simp only [headW, List.length_cons, List.length_nil]; omega
   have HLN := Aside0.mk hln
   clear hln
   go_upto_if 62 with fail
   obtain ⟨bo, hbo⟩ : ∃ b, b = (!(strB q.ord).toList.isEmpty) := ⟨_, rfl⟩
   rw [← hbo]
   have HO := Aside0.mk (show bo = !decide (q.ord = []) by rw [hbo, toList_strB]; cases q.ord <;> simp)
   clear hbo
   go_cut [5] from 62 to 67 (fun (s5 : Value) wx => Stq A0 c0 A2 c2 q w wx s5 (headW q ++ whW 0 q.wh ++ ordW q))
   case first =>
    cases bo with
    | false =>
     go_wp2_with fail
     go_meet
     case rel =>
      have ho : q.ord = [] := by have := HO.out; simpa using this
      unfold ordW
      rw [if_pos ho, List.append_nil]
      exact HS0.out
    | true =>
     have hk3 : wr.cell? ⟨w.heap.size, 3, none⟩ = some (.string (strB q.ord)) := (blk_cell HS0.out.2.1 3).trans rfl
     go_wp2_with (at_builtin; refine sr_app (W := wr) (w.heap.size + 1) rfl _ _ rfl u5 (headW q ++ whW 0 q.wh) [[111, 114, 100, 101, 114], [98, 121], q.ord] #[.string ⟨#[111, 114, 100, 101, 114]⟩, .string ⟨#[98, 121]⟩, .string (strB q.ord)] rfl ?sx rfl rfl ?s1 ?s2 ?s3 ?_; (case sx => simp [Act.eval]); (case s1 => exact HS0.out.1); (case s2 => exact HS0.out.2.2.2); (case s3 => have := HLN.out; simp only [List.length_cons, List.length_nil]; omega); intro v1 w1 hS1 hB1 hG1; have HS1 := Aside0.mk (Stq.app HS0.out hS1 hB1); clear hS1 hB1 hG1)
     go_meet
     case rel =>
      have ho : ¬ q.ord = [] := by have := HO.out; simpa using this
      unfold ordW
      rw [if_neg ho]
      exact HS1.out
   case rest =>
   obtain ⟨wr2, hw2⟩ : ∃ w2, w2 = wc := ⟨_, rfl⟩
   subst hw2
   have HS0 := Aside0.mk hcut
   have hln2 : (headW q ++ whW 0 q.wh ++ ordW q).length ≤ 43 := by have := HLN.out; have h2 : (ordW q).length ≤ 3 := (by unfold ordW; split <;> simp); rw [List.length_append]; omega
   have HLN := Aside0.mk hln2
   have hk4 : wr2.cell? ⟨w.heap.size, 4, none⟩ = some (.bool q.down) := (blk_cell hcut.2.1 4).trans rfl
   have hk5 : wr2.cell? ⟨w.heap.size, 5, none⟩ = some (.int .i64 q.lim) := (blk_cell hcut.2.1 5).trans rfl
   clear hcut hln2 hk3
   go_upto_if 69 with fail
   obtain ⟨bo, hbo⟩ : ∃ b, b = q.down := ⟨_, rfl⟩
   rw [← hbo]
   have HO := Aside0.mk hbo
   clear hbo hk4
   go_cut [5] from 68 to 72 (fun (s5 : Value) wx => Stq A0 c0 A2 c2 q w wx s5 (headW q ++ whW 0 q.wh ++ ordW q ++ downW q))
   case first =>
    cases bo with
    | false =>
     go_wp2_with fail
     go_meet
     case rel =>
      unfold downW
      rw [← HO.out, if_neg (by decide), List.append_nil]
      exact HS0.out
    | true =>
     go_wp2_with (at_builtin; refine sr_app (W := wr2) (w.heap.size + 1) rfl _ _ rfl u5 (headW q ++ whW 0 q.wh ++ ordW q) [[100, 111, 119, 110]] #[.string ⟨#[100, 111, 119, 110]⟩] rfl ?sx rfl rfl ?s1 ?s2 ?s3 ?_; (case sx => simp [Act.eval]); (case s1 => exact HS0.out.1); (case s2 => exact HS0.out.2.2.2); (case s3 => have := HLN.out; simp only [List.length_cons, List.length_nil, List.length_append] at this ⊢; omega); intro v1 w1 hS1 hB1 hG1; have HS1 := Aside0.mk (Stq.app HS0.out hS1 hB1); clear hS1 hB1 hG1)
     go_meet
     case rel =>
      unfold downW
      rw [← HO.out, if_pos rfl]
      exact HS1.out
   case rest =>
   obtain ⟨wr3, hw3⟩ : ∃ w3, w3 = wc := ⟨_, rfl⟩
   subst hw3
   have HS0 := Aside0.mk hcut
   have hln2 : (headW q ++ whW 0 q.wh ++ ordW q ++ downW q).length ≤ 44 := by have := HLN.out; have h2 : (downW q).length ≤ 1 := (by unfold downW; split <;> simp); rw [List.length_append]; omega
   have HLN := Aside0.mk hln2
   have hk5 : wr3.cell? ⟨w.heap.size, 5, none⟩ = some (.int .i64 q.lim) := (blk_cell hcut.2.1 5).trans rfl
   clear hcut hln2
   go_upto_if 75 with fail
   obtain ⟨bl, hbl⟩ : ∃ b, b = decide (0 < q.lim) := ⟨_, rfl⟩
   rw [← hbl]
   have HLb := Aside0.mk hbl
   clear hbl
   have hG3 := Glob.of_below hG HS0.out.2.2.1
   have hit := strconv_Itoa.calls q.lim (strB (Lib.itoa q.lim)) wr3 hG3 (by unfold strconv_Itoa.f; rw [if_pos HP.out.lim0, if_pos HP.out.lim1])
   go_cut [5] from 73 to 81 (fun (s5 : Value) wx => Stq A0 c0 A2 c2 q w wx s5 (wordsQ q))
   case first =>
    cases bl with
    | false =>
     go_wp2_with fail
     go_meet
     case rel =>
      have hl : ¬ 0 < q.lim := of_decide_eq_false HLb.out.symm
      unfold wordsQ limW
      rw [if_neg hl, List.append_nil]
      exact HS0.out
    | true =>
     go_wp2_with (first | (go_at_call 31; (with_reducible refine hit.mono ?_); rintro e wi ⟨rfl, hbi⟩; have HSi := Aside0.mk (HS0.out.ext hbi); clear hbi) | (at_builtin; refine sr_app (W := wi) (w.heap.size + 1) rfl _ _ rfl u5 (headW q ++ whW 0 q.wh ++ ordW q ++ downW q) [[108, 105, 109, 105, 116], Lib.itoa q.lim] #[.string ⟨#[108, 105, 109, 105, 116]⟩, .string (strB (Lib.itoa q.lim))] rfl ?sx rfl rfl ?s1 ?s2 ?s3 ?_; (case sx => simp [Act.eval]); (case s1 => exact HSi.out.1); (case s2 => exact HSi.out.2.2.2); (case s3 => have := HLN.out; simp only [List.length_cons, List.length_nil, List.length_append] at this ⊢; omega); intro v1 w1 hS1 hB1 hG1; have HS1 := Aside0.mk (Stq.app HSi.out hS1 hB1); clear hS1 hB1 hG1))
     go_meet
     case rel =>
      have hl : 0 < q.lim := of_decide_eq_true HLb.out.symm
      unfold wordsQ limW
      rw [if_pos hl]
      exact HS1.out
   case rest =>
   obtain ⟨wr4, hw4⟩ : ∃ w4, w4 = wc := ⟨_, rfl⟩
   subst hw4
   have HS0 := Aside0.mk hcut
   clear hcut hit hG3 hk5
   have hlw : 0 < (wordsQ q).length ∧ (wordsQ q).length ≤ 46 := by
    have h1 := HLN.out
    have h2 : (limW q).length ≤ 2 := by unfold limW; split <;> simp
    have h3 : (headW q).length = 4 := rfl
    unfold wordsQ
    rw [List.length_append]
    refine ⟨?_, by omega⟩
    simp only [List.length_append] at h1 ⊢
    omega
   have HLW := Aside0.mk hlw
   clear hlw
   have hjl : (Lib.join (wordsQ q) [32]).length ≤ 281474976710656 := by
    have := join_le (wordsQ q) [32] 5000 (wordsQ_le HP.out)
    have h2 := HLW.out.2
    have h3 : (wordsQ q).length * (5000 + [(32 : UInt8)].length) ≤ 46 * 5001 := Nat.mul_le_mul h2 (by simp)
    omega
   have hj : Calls Tryz.prog 27 #[u5, .string ⟨#[32]⟩] wr4 fun e w' => e = .returned (.string (strB (textQ q))) ∧ Below wr4.heap.size wr4 w' := join_own wr4 (w.heap.size + 1) u5 (wordsQ q) [32] HS0.out.1 HLW.out.1 hjl (by have := HLW.out.2; omega)
   go_upto_if 86 with (go_at_call 27; (with_reducible refine hj.mono ?_); rintro e w9 ⟨rfl, hb9⟩; have HB9 := Aside0.mk (below_step HS0.out.2.2.1 hb9); clear hb9)
   obtain ⟨bz, hbz⟩ : ∃ b, b = decide ((1024 : Int) < (strB (textQ q)).size) := ⟨_, rfl⟩
   rw [← hbz]
   rw [strB_size] at hbz
   have HZ := Aside0.mk hbz
   clear hbz hj
   cases bz with
   | true =>
    have hn : ¬ (textQ q).length ≤ 1024 := by have := of_decide_eq_true HZ.out.symm; omega
    have hR := HR.out
    rw [if_neg hn] at hR
    obtain ⟨rfl, rfl⟩ := Prod.mk.inj hR
    clear hR hn HZ HR
    go_wp2_with fail
    go_ret2
    exact ⟨rfl, HB9.out⟩
   | false =>
    have hn : (textQ q).length ≤ 1024 := by have := of_decide_eq_false HZ.out.symm; omega
    have hR := HR.out
    rw [if_pos hn] at hR
    obtain ⟨rfl, rfl⟩ := Prod.mk.inj hR
    clear hR hn HZ HR
    go_wp2_with fail
    go_ret2
    exact ⟨rfl, HB9.out⟩
end Go.Proofs.YthhemephaabblaaGreatDoor.Hq
namespace Go.Proofs.YthhemephaabblaaGreatDoor.Hq
open Go.RowKit Go.Proofs.YthhemephaabblaaGreatDoorW.PrintWords Go.Proofs.YthhemephaabblaaGreatDoorW.PrintLast Go.Proofs.YthhemephaabblaaGreatDoorW.PrintMore Go.Proofs.YthhemephaabblaaGreatDoor Go.Proofs.YthhemephaabblaaGreatDoor.Q
set_option linter.unusedVariables false
set_option linter.unusedSimpArgs false
set_option maxRecDepth 100000 in
set_option maxHeartbeats 3200000 in
theorem print_false (k : Nat) (A0 : Option Addr) (c0 : Nat) (A2 : Option Addr) (c2 : Nat) (q : Qry) (w : World) (hr0 : Kd.C Kd.string w A0 q.cols.length (q.cols.map strB)) (hc0 : q.cols.length ≤ c0) (hr2 : Kd.C k37 w A2 q.wh.length (q.wh.map t37)) (hc2 : q.wh.length ≤ c2)
  (hm : okQ q ∧ mayQ q = false) :
  Calls Tryz.prog 13 #[.agg #[.slice A0 q.cols.length c0, .string (strB q.tab), .slice A2 q.wh.length c2, .string (strB q.ord), .bool q.down, .int .i64 q.lim]] w fun e w' => e = .returned (.tuple #[.string ⟨#[]⟩, .int .i64 320]) ∧ Below w.heap.size w w' := by
 have hcall : ∀ W (h : Kd.C Kd.string W A0 q.cols.length (q.cols.map strB)) (h' : Kd.C k37 W A2 q.wh.length (q.wh.map t37)), Calls Tryz.prog 26 #[.agg #[.slice A0 q.cols.length c0, .string (strB q.tab), .slice A2 q.wh.length c2, .string (strB q.ord), .bool q.down, .int .i64 q.lim]] W fun e w' => e = .returned (.bool false) ∧ Below W.heap.size W w' := by
  intro W h h'
  have := may_calls q hm.1 A0 c0 A2 c2 W h hc0 h' hc2
  rw [hm.2] at this
  exact this
 have HC0 := Aside0.mk hr0
 have HC2 := Aside0.mk hr2
 have HM := Aside0.mk hm
 clear hr0 hr2 hm
 go_enter Tryz.func13, Tryz.ntmps13
 go_wp2_with (go_at_call 26; (with_reducible refine (hcall _ ?h0 ?h2).mono ?_); (case h0 => exact Kd.C_below HC0.out ((Below.refl _ _).alloc (Nat.le_refl _) _)); (case h2 => exact Kd.C_below HC2.out ((Below.refl _ _).alloc (Nat.le_refl _) _)); rintro e w1 ⟨rfl, hb1⟩; have HB1 := Aside0.mk (below_step ((Below.refl _ _).alloc (Nat.le_refl _) _) hb1); clear hb1)
 go_ret2
 exact ⟨rfl, HB1.out⟩
theorem query_Print.calls (k : Nat) (A0_0 : Option Addr) (c0_0 : Nat) (l0_0 : List ByteArray) (a0_1 : ByteArray) (A0_2 : Option Addr) (c0_2 : Nat) (l0_2 : List (S37)) (a0_3 : ByteArray) (a0_4 : Bool) (a0_5 : Int) (r1 : ByteArray) (r2 : Int) (w : World) (hr0_0 : Kd.C Kd.string w A0_0 l0_0.length l0_0) (hc0_0 : l0_0.length ≤ c0_0) (hr0_2 : Kd.C k37 w A0_2 l0_2.length l0_2) (hc0_2 : l0_2.length ≤ c0_2) (hG : Glob w) (h : query_Print.f k l0_0 a0_1 l0_2 a0_3 a0_4 a0_5 = some (r1, r2)) :
  Calls Tryz.prog 13 #[.agg #[.slice A0_0 l0_0.length c0_0, .string a0_1, .slice A0_2 l0_2.length c0_2, .string a0_3, .bool a0_4, .int .i64 a0_5]] w fun e w' => e = .returned (.tuple #[.string r1, .int .i64 r2]) ∧ Below w.heap.size w w' := by
 obtain ⟨q, hq⟩ : ∃ q, q = qOf l0_0 a0_1 l0_2 a0_3 a0_4 a0_5 := ⟨_, rfl⟩
 have e0 : l0_0 = q.cols.map strB := by rw [hq]; exact (qOf_cols _ _ _ _ _ _).symm
 have e2 : l0_2 = q.wh.map t37 := by rw [hq]; exact (qOf_wh _ _ _ _ _ _).symm
 have e1 : a0_1 = strB q.tab := by rw [hq]; exact (strB_data _).symm
 have e3 : a0_3 = strB q.ord := by rw [hq]; exact (strB_data _).symm
 have e4 : a0_4 = q.down := by rw [hq]; rfl
 have e5 : a0_5 = q.lim := by rw [hq]; rfl
 unfold query_Print.f at h
 rw [← hq] at h
 clear hq
 subst e0 e1 e2 e3 e4 e5
 rw [List.length_map] at hr0_0 hc0_0 hr0_2 hc0_2
 rw [List.length_map, List.length_map]
 by_cases hk : okQ q
 ·
  rw [if_pos hk] at h
  by_cases hp : mayQ q = true
  ·
   rw [if_pos hp] at h
   by_cases hl : (textQ q).length ≤ 1024
   ·
    rw [if_pos hl] at h
    simp only [Option.some.injEq, Prod.mk.injEq] at h
    obtain ⟨rfl, rfl⟩ := h
    exact print_true k A0_0 c0_0 A0_2 c0_2 q w hr0_0 hc0_0 hr0_2 hc0_2 hG ⟨hk, hp⟩ (mayP hp) (textQ q) 0 (if_pos hl)
   ·
    rw [if_neg hl] at h
    simp only [Option.some.injEq, Prod.mk.injEq] at h
    obtain ⟨rfl, rfl⟩ := h
    exact print_true k A0_0 c0_0 A0_2 c0_2 q w hr0_0 hc0_0 hr0_2 hc0_2 hG ⟨hk, hp⟩ (mayP hp) [] 320 (if_neg hl)
  ·
   rw [if_neg hp] at h
   simp only [Option.some.injEq, Prod.mk.injEq] at h
   obtain ⟨rfl, rfl⟩ := h
   exact print_false k A0_0 c0_0 A0_2 c0_2 q w hr0_0 hc0_0 hr0_2 hc0_2 ⟨hk, by simpa using hp⟩
 ·
  rw [if_neg hk] at h; cases h
end Go.Proofs.YthhemephaabblaaGreatDoor.Hq
namespace Go.Proofs.YthhemephaabblaaGreatDoor.Hq
open Go.RowKit Go.Proofs.YthhemephaabblaaGreatDoorW.PrintWords Go.Proofs.YthhemephaabblaaGreatDoorW.PrintLast Go.Proofs.YthhemephaabblaaGreatDoorW.PrintMore Go.Proofs.YthhemephaabblaaGreatDoor Go.Proofs.YthhemephaabblaaGreatDoor.Q
set_option linter.unusedVariables false
set_option linter.unusedSimpArgs false
def hdT (L : List Tk) : Tk := L.headD ⟨0, [], 0⟩
def passL (k : Nat) (w : List UInt8) (L : List Tk) : Bool × List Tk := if (hdT L).kind = k ∧ (hdT L).says = w then (true, L.tail) else (false, L)
def nameL (L : List Tk) : Option (List UInt8) × List Tk := if (hdT L).kind = 2 ∧ (hdT L).says.length ≤ 16 then (some (hdT L).says, L.tail) else (none, L)
def wComma : List UInt8 := [44]
def wStar : List UInt8 := [42]
def wAnd : List UInt8 := [97, 110, 100]
def wBy : List UInt8 := [98, 121]
def wDown : List UInt8 := [100, 111, 119, 110]
def wSelect : List UInt8 := [115, 101, 108, 101, 99, 116]
def wFrom : List UInt8 := [102, 114, 111, 109]
def wWhere : List UInt8 := [119, 104, 101, 114, 101]
def wOrder : List UInt8 := [111, 114, 100, 101, 114]
def wLimit : List UInt8 := [108, 105, 109, 105, 116]
def colsL : Nat → List (List UInt8) → List Tk → Option (List (List UInt8)) × List Tk
 | 0, _, L => (none, L)
 | n + 1, acc, L => match nameL L with
  | (none, L1) => (none, L1)
  | (some c, L1) => if (passL 5 wComma L1).1 = true then colsL n (acc ++ [c]) (passL 5 wComma L1).2 else (some (acc ++ [c]), L1)
def columnsL (L : List Tk) : Option (List (List UInt8)) × List Tk := if (passL 5 wStar L).1 = true then (some [], (passL 5 wStar L).2) else colsL 8 [] L
def opF (w : List UInt8) : Nat → Nat
 | 0 => 0
 | j + 1 => if opsL.getD j [] = w then j + 1 else opF w j
def opN (w : List UInt8) : Nat := opF w 6
theorem opF_le (w : List UInt8) : ∀ j, opF w j ≤ j
 | 0 => Nat.le_refl _
 | j + 1 => by
  unfold opF
  split
  ·
   exact Nat.le_refl _
  ·
   exact Nat.le_succ_of_le (opF_le w j)
def testL (L : List Tk) : Option Tst × List Tk := match nameL L with
 | (none, L1) => (none, L1)
 | (some c, L1) => if (hdT L1).kind = 5 ∧ opN (hdT L1).says ≠ 0 then (if (hdT L1.tail).kind = 4 then (some ⟨c, (opN (hdT L1).says : Nat), (hdT L1.tail).says⟩, L1.tail.tail) else (none, L1.tail)) else (none, L1)
def whL : Nat → List Tst → List Tk → Option (List Tst) × List Tk
 | 0, _, L => (none, L)
 | n + 1, acc, L => match testL L with
  | (none, L1) => (none, L1)
  | (some t, L1) => if (passL 2 wAnd L1).1 = true then whL n (acc ++ [t]) (passL 2 wAnd L1).2 else (some (acc ++ [t]), L1)
def orderL (L : List Tk) : Option (List UInt8 × Bool) × List Tk := if (passL 2 wBy L).1 = true then (match nameL (passL 2 wBy L).2 with
 | (none, L2) => (none, L2)
 | (some c, L2) => (some (c, (passL 2 wDown L2).1), (passL 2 wDown L2).2)) else (none, L)
def limitL (L : List Tk) : Option Int × List Tk := if (hdT L).kind = 3 ∧ (hdT L).says.length ≤ 9 ∧ (hdT L).says.head? ≠ some 48 then (some ((Lib.atoi (hdT L).says).getD 0), L.tail) else (none, L)
def c5 (cs : List (List UInt8)) (tb : List UInt8) (wh : List Tst) (od : List UInt8) (dn : Bool) (lm : Int) (L : List Tk) : Option Qry × List Tk :=
 if (hdT L).kind = 0 then (some ⟨cs, tb, wh, od, dn, lm⟩, L) else (none, L)
def c4 (cs : List (List UInt8)) (tb : List UInt8) (wh : List Tst) (od : List UInt8) (dn : Bool) (L : List Tk) : Option Qry × List Tk :=
 if (passL 2 wLimit L).1 = true then (match limitL (passL 2 wLimit L).2 with
 | (none, L1) => (none, L1)
 | (some lm, L1) => c5 cs tb wh od dn lm L1) else c5 cs tb wh od dn 0 L
def c3 (cs : List (List UInt8)) (tb : List UInt8) (wh : List Tst) (L : List Tk) : Option Qry × List Tk :=
 if (passL 2 wOrder L).1 = true then (match orderL (passL 2 wOrder L).2 with
 | (none, L1) => (none, L1)
 | (some od, L1) => c4 cs tb wh od.1 od.2 L1) else c4 cs tb wh [] false L
def c2 (cs : List (List UInt8)) (tb : List UInt8) (L : List Tk) : Option Qry × List Tk :=
 if (passL 2 wWhere L).1 = true then (match whL 8 [] (passL 2 wWhere L).2 with
 | (none, L1) => (none, L1)
 | (some wh, L1) => c3 cs tb wh L1) else c3 cs tb [] L
def c1 (cs : List (List UInt8)) (L : List Tk) : Option Qry × List Tk :=
 if (passL 2 wFrom L).1 = true then (match nameL (passL 2 wFrom L).2 with
 | (none, L1) => (none, L1)
 | (some tb, L1) => c2 cs tb L1) else (none, L)
def parseL (L : List Tk) : Option Qry × List Tk :=
 if (passL 2 wSelect L).1 = true then (match columnsL (passL 2 wSelect L).2 with
 | (none, L1) => (none, L1)
 | (some cs, L1) => c1 cs L1) else (none, L)
def parseQ (s : List UInt8) : Qry × Nat × Int :=
 if s.length ≤ 1024 then (match parseL (toks s 0) with
  | (none, L) => (⟨[], [], [], [], false, 0⟩, (hdT L).place, 320)
  | (some q, _) => if (printQ q).2 = 0 then (q, 0, 0) else (⟨[], [], [], [], false, 0⟩, 0, 2)) else (⟨[], [], [], [], false, 0⟩, 0, 2)
end Go.Proofs.YthhemephaabblaaGreatDoor.Hq
namespace Go.Proofs.YthhemephaabblaaGreatDoor.Hq
open Go.RowKit Go.Proofs.YthhemephaabblaaGreatDoorW.PrintWords Go.Proofs.YthhemephaabblaaGreatDoorW.PrintLast Go.Proofs.YthhemephaabblaaGreatDoorW.PrintMore Go.Proofs.YthhemephaabblaaGreatDoor Go.Proofs.YthhemephaabblaaGreatDoor.Q
set_option linter.unusedVariables false
set_option linter.unusedSimpArgs false
def cat (a b : List UInt8) : List UInt8 := a ++ b
def jt (l : List (List UInt8)) : List UInt8 := Lib.joinTail [32] l
theorem jt_append (a b : List (List UInt8)) : jt (a ++ b) = jt a ++ jt b := by simp [jt, Lib.joinTail]
theorem jt_cons (a : List UInt8) (b : List (List UInt8)) : jt (a :: b) = [32] ++ a ++ jt b := by simp [jt, Lib.joinTail]
theorem jt_nil : jt [] = [] := rfl
theorem jt_le (l : List (List UInt8)) (M : Nat) (h : ∀ x ∈ l, x.length ≤ M) : (jt l).length ≤ l.length * (M + 1) := by
 induction l with
 | nil => simp [jt_nil]
 | cons x l ih =>
  have h1 := h x (by simp)
  have h2 := ih (fun y hy => h y (by simp [hy]))
  rw [jt_cons, List.length_append, List.length_append, List.length_cons, List.length_cons, List.length_nil, Nat.add_mul, Nat.one_mul]
  omega
def headT (q : Qry) : List UInt8 := [115, 101, 108, 101, 99, 116, 32] ++ colsT q.cols ++ [32, 102, 114, 111, 109, 32] ++ q.tab
theorem textQ_jt (q : Qry) : textQ q = headT q ++ jt (whW 0 q.wh) ++ jt (ordW q) ++ jt (downW q) ++ jt (limW q) := by
 unfold textQ wordsQ headW headT
 rw [List.cons_append, List.cons_append, List.cons_append, List.cons_append, List.cons_append, List.cons_append, List.cons_append, Lib.join_cons]
 show _ ++ jt _ = _
 simp only [jt_append, jt_cons, List.append_assoc, List.cons_append, List.nil_append]
def selT (q : Qry) (i : Nat) : List UInt8 := if i = 0 then [115, 101, 108, 101, 99, 116, 32, 42] else [115, 101, 108, 101, 99, 116, 32] ++ Lib.join (q.cols.take i) [44, 32]
theorem join_snoc (l : List (List UInt8)) (x sep : List UInt8) (h : l ≠ []) : Lib.join (l ++ [x]) sep = Lib.join l sep ++ sep ++ x := by
 match l, h with
 | y :: r, _ =>
  rw [List.cons_append, Lib.join_cons, Lib.join_cons]
  simp [Lib.joinTail]
theorem selT_one (q : Qry) (h : 0 < q.cols.length) : selT q 1 = ([115, 101, 108, 101, 99, 116, 32] : List UInt8) ++ q.cols[0] := by
 unfold selT
 rw [if_neg (by omega)]
 match hc : q.cols, h with
 | y :: r, _ =>
  simp [Lib.join_one]
theorem selT_succ (q : Qry) (i : Nat) (hi : 0 < i) (h : i < q.cols.length) : selT q (i + 1) = selT q i ++ [44, 32] ++ q.cols[i] := by
 unfold selT
 rw [if_neg (by omega), if_neg (by omega), List.take_succ_eq_append_getElem h, join_snoc _ _ _ (by
  intro he
  have := congrArg List.length he
  rw [List.length_take, List.length_nil] at this
  omega)]
 simp only [List.append_assoc]
theorem selT_all (q : Qry) : selT q q.cols.length = [115, 101, 108, 101, 99, 116, 32] ++ colsT q.cols := by
 unfold selT colsT
 rw [List.take_length]
 by_cases h : q.cols = []
 ·
  rw [if_pos h, if_pos (by rw [h]; rfl)]; rfl
 ·
  rw [if_neg h, if_neg (fun e => h (List.eq_nil_of_length_eq_zero e))]
theorem selT_le {q : Qry} (h : MayP q) (i : Nat) : (selT q i).length ≤ 500 := by
 unfold selT
 split
 ·
  simp
 ·
  have h1 := join_le (q.cols.take i) [44, 32] 16 (fun x hx => nm_len (h.colsB x (List.mem_of_mem_take hx)))
  have h2 : (q.cols.take i).length ≤ 8 := by rw [List.length_take]; have := h.cols; omega
  have h3 : (q.cols.take i).length * (16 + [(44 : UInt8), 32].length) ≤ 8 * 18 := Nat.mul_le_mul h2 (by simp)
  simp only [List.length_append, List.length_cons, List.length_nil]
  omega
theorem headT_le {q : Qry} (h : MayP q) : (headT q).length ≤ 1000 := by
 have h1 := selT_le h q.cols.length
 rw [selT_all] at h1
 have h2 := nm_len h.tab
 unfold headT
 simp only [List.length_append, List.length_cons, List.length_nil] at h1 ⊢
 omega
theorem whW_take_mem (l : List Tst) (i : Nat) : ∀ j, ∀ x ∈ whW j (l.take i), x ∈ whW j l := by
 intro j x hx
 have e : l = l.take i ++ l.drop i := (List.take_append_drop i l).symm
 have key : ∀ (a b : List Tst) (j : Nat), x ∈ whW j a → x ∈ whW j (a ++ b) := by
  intro a
  induction a with
  | nil => intro b j h; cases h
  | cons t a ih =>
   intro b j h
   simp only [List.cons_append, whW, List.mem_append] at h ⊢
   rcases h with h | h
   ·
    exact .inl h
   ·
    exact .inr (ih b (j + 1) h)
 rw [e]
 exact key _ _ j hx
theorem jtw_le {q : Qry} (h : MayP q) (i : Nat) : (jt (whW 0 (q.wh.take i))).length ≤ 200000 := by
 have h1 := jt_le (whW 0 (q.wh.take i)) 5000 (fun x hx => wordsQ_le h x (by
  have := whW_take_mem q.wh i 0 x hx
  simp only [wordsQ, List.mem_append]
  exact .inl (.inl (.inl (.inr this)))))
 have h2 : (whW 0 (q.wh.take i)).length ≤ 32 := by rw [whW_length, List.length_take]; have := h.wh; omega
 have h3 : (whW 0 (q.wh.take i)).length * (5000 + 1) ≤ 32 * 5001 := Nat.mul_le_mul h2 (by omega)
 omega
theorem signs_f : cairnref32_Signs.f = some (opsL.map strB) := rfl
theorem signs_calls (w : World) : Calls Tryz.prog 33 #[] w fun e w' => ∃ bk o c, e = .returned (.slice (some ⟨bk, o, none⟩) 6 c) ∧ (∀ (j : Nat) x, opsL[j]? = some x → w'.cell? ⟨bk, o + j, none⟩ = some (sv x)) ∧ Ext w w' := by
 refine (cairnref32_Signs.calls (opsL.map strB) w signs_f).mono ?_
 rintro e w' ⟨v, rfl, hR, hB⟩
 obtain ⟨A, c, rfl, hc, hC⟩ := Kd.R_reads hR
 obtain ⟨hn, bk, o, rfl, hbk, hcell⟩ := strC_cells hC (by decide)
 exact ⟨bk, o, c, rfl, hcell, hB⟩
theorem rquo_l0 (v : List UInt8) (hv : v.length ≤ 1000000000000) : ∀ (n k i : Nat) (acc : List UInt8), v.length - i = n → n < k → i ≤ v.length → acc.length ≤ 2 * i + 1 →
  cairnref32_quoted.l0 k (strB v) (strB acc) (i : Int) = some (strB (acc ++ esc (v.drop i) ++ [34]))
 | n, 0, i, _, _, hk, _, _ => by omega
 | n, k + 1, i, acc, hn, hk, hi, ha => by
  rw [cairnref32_quoted.l0, strB_size, strB_size]
  by_cases hlt : i < v.length
  ·
   have e34 : ((v[i].toNat : Int) = 34) ↔ v[i] = 34 := by rw [← UInt8.toNat_inj]; show _ ↔ v[i].toNat = 34; omega
   have e92 : ((v[i].toNat : Int) = 92) ↔ v[i] = 92 := by rw [← UInt8.toNat_inj]; show _ ↔ v[i].toNat = 92; omega
   have hex : (strB v).extract i (i + 1) = strB [v[i]] := by rw [extract_strB, List.drop_eq_getElem_cons hlt, show i + 1 - i = 1 by omega]; rfl
   have hap : strB acc ++ (⟨#[92]⟩ : ByteArray) = strB (acc ++ [92]) := append_strB _ _
   have ih := fun b hb => rquo_l0 v hv (n - 1) k (i + 1) b (by omega) (by omega) (by omega) hb
   rw [if_pos (by omega), if_pos (by omega), bt_strB v i hlt, w64n i (by omega), Int.toNat_natCast, Int.toNat_natCast, hex, hap, append_strB, append_strB, strB_size, strB_size]
   have hd : esc (v.drop i) = esc1 v[i] ++ esc (v.drop (i + 1)) := by rw [List.drop_eq_getElem_cons hlt]; rfl
   rw [hd]
   by_cases h34 : v[i] = 34
   ·
    rw [if_pos (e34.2 h34), if_pos (by omega), if_pos (by omega), if_pos (by omega), if_pos (by simp only [List.length_append, List.length_cons, List.length_nil]; omega), ih _ (by simp only [List.length_append, List.length_cons, List.length_nil]; omega)]
    simp [esc1, h34]
   ·
    rw [if_neg (fun h => h34 (e34.1 h))]
    by_cases h92 : v[i] = 92
    ·
     rw [if_pos (e92.2 h92), if_pos (by omega), if_pos (by omega), if_pos (by omega), if_pos (by simp only [List.length_append, List.length_cons, List.length_nil]; omega), ih _ (by simp only [List.length_append, List.length_cons, List.length_nil]; omega)]
     simp [esc1, h92]
    ·
     rw [if_neg (fun h => h92 (e92.1 h)), if_pos (by omega), if_pos (by omega), if_pos (by simp only [List.length_cons, List.length_nil]; omega), ih _ (by simp only [List.length_append, List.length_cons, List.length_nil]; omega)]
     simp [esc1, h34, h92]
  ·
   obtain rfl : i = v.length := by omega
   rw [if_neg (by omega), if_pos (by omega), List.drop_length]
   simp only [esc, List.flatMap_nil, List.append_nil]
   exact congrArg some (append_strB acc [34])
theorem rquo_f (v : List UInt8) (hv : v.length ≤ 1000000000000) (k : Nat) (hk : v.length < k) : cairnref32_quoted.f k (strB v) = some (strB ([34] ++ esc v ++ [34])) := by
 unfold cairnref32_quoted.f
 have := rquo_l0 v hv _ k 0 [34] rfl (by omega) (by omega) (by simp)
 rw [List.drop_zero] at this
 exact this
def QBr (w : World) (g : Nat) (A0 : Option Addr) (c0 : Nat) (A2 : Option Addr) (c2 : Nat) (q : Qry) : Prop :=
 w.heap[g]? = some (.cells #[.slice A0 q.cols.length c0, .string (strB q.tab), .slice A2 q.wh.length c2, .string (strB q.ord), .bool q.down, .int .i64 q.lim] 31 (0, 0))
end Go.Proofs.YthhemephaabblaaGreatDoor.Hq
namespace Go.Proofs.YthhemephaabblaaGreatDoor.Hq
open Go.RowKit Go.Proofs.YthhemephaabblaaGreatDoorW.PrintWords Go.Proofs.YthhemephaabblaaGreatDoorW.PrintLast Go.Proofs.YthhemephaabblaaGreatDoorW.PrintMore Go.Proofs.YthhemephaabblaaGreatDoor Go.Proofs.YthhemephaabblaaGreatDoor.Q
set_option linter.unusedVariables false
set_option linter.unusedSimpArgs false
set_option maxRecDepth 100000 in
set_option maxHeartbeats 3200000 in
theorem rmay_calls (q : Qry) (hq : okQ q) (A5 : Option Addr) (c5 : Nat) (A7 : Option Addr) (c7 : Nat) (w : World) (h5 : Kd.C Kd.string w A5 q.cols.length (q.cols.map strB)) (hc5 : q.cols.length ≤ c5) (h7 : Kd.C k70 w A7 q.wh.length (q.wh.map t70)) (hc7 : q.wh.length ≤ c7) :
  Calls Tryz.prog 32 #[.agg #[.slice A5 q.cols.length c5, .string (strB q.tab), .slice A7 q.wh.length c7, .string (strB q.ord), .bool q.down, .int .i64 q.lim]] w fun e w' => e = .returned (.bool (mayQ q)) ∧ Ext w w' := by
 have H5 := Aside0.mk h5
 have H7 := Aside0.mk h7
 have HQ := Aside0.mk hq
 obtain ⟨B0, hB0⟩ : ∃ b, b = (nmB q.tab && decide ((q.cols.length : Int) ≤ 8) && decide ((q.wh.length : Int) ≤ 8) && decide (0 ≤ q.lim) && decide (q.lim ≤ 999999999)) := ⟨_, rfl⟩
 have HB0 := Aside0.mk hB0
 clear h5 h7 hq hB0
 go_enter Tryz.func32, Tryz.ntmps32
 go_upto_region 1 with fail
 obtain ⟨w2, hw2⟩ : ∃ W, W = w.alloc (.cells #[.slice A5 q.cols.length c5, .string (strB q.tab), .slice A7 q.wh.length c7, .string (strB q.ord), .bool q.down, .int .i64 q.lim] 31) := ⟨_, rfl⟩
 have hzp : w2.heap[w.heap.size]? = some (.cells #[.slice A5 q.cols.length c5, .string (strB q.tab), .slice A7 q.wh.length c7, .string (strB q.ord), .bool q.down, .int .i64 q.lim] 31 (0, 0)) := by rw [hw2]; exact heap_alloc_new _ _
 have hE2 : Ext w w2 := by rw [hw2]; exact (Ext.refl w).alloc _
 rw [← hw2]
 obtain ⟨pb, hpb⟩ : ∃ n, n = w.heap.size := ⟨_, rfl⟩
 rw [← hpb]
 rw [← hpb] at hzp
 have HE2 := Aside0.mk hE2
 have HZP := Aside0.mk hzp
 have z0 := blk_cell hzp 0
 have z1 := blk_cell hzp 1
 have z2 := blk_cell hzp 2
 have z3 := blk_cell hzp 3
 have z4 := blk_cell hzp 4
 have z5 := blk_cell hzp 5
 clear hw2 hpb hzp hE2
 go_cut [3] (fun v3 wc => v3 = .bool B0 ∧ Ext w2 wc)
 case first =>
  have HN := Aside0.mk (rname_f q.tab HQ.out.2.1 30 (by decide))
  cases hnt : nmB q.tab
  ·
   rw [hnt] at HN
   have HBe : Aside0 (B0 = false) := ⟨by rw [HB0.out]; simp [hnt]⟩
   clear hnt
   go_wp2_with (first | (go_at_call 47; (with_reducible refine (cairnref32_Name.calls 30 _ _ _ HN.out).mono ?_); rintro e w' ⟨rfl, ⟨nd, rfl⟩⟩))
   go_meet
   case rel => exact ⟨congrArg Value.bool HBe.out.symm, by first | exact Ext.refl _ | exact ext_drewN (Ext.refl _) _⟩
  ·
   rw [hnt] at HN
   have hA : (¬ (q.cols.length : Int) ≤ 8 ∧ B0 = false) ∨ ((q.cols.length : Int) ≤ 8 ∧ ¬ (q.wh.length : Int) ≤ 8 ∧ B0 = false) ∨ ((q.cols.length : Int) ≤ 8 ∧ (q.wh.length : Int) ≤ 8 ∧ ¬ 0 ≤ q.lim ∧ B0 = false) ∨ ((q.cols.length : Int) ≤ 8 ∧ (q.wh.length : Int) ≤ 8 ∧ 0 ≤ q.lim ∧ B0 = decide (q.lim ≤ 999999999)) := by
    rw [HB0.out, hnt]
    by_cases c1 : (q.cols.length : Int) ≤ 8 <;> by_cases c2 : (q.wh.length : Int) ≤ 8 <;> by_cases c3 : 0 ≤ q.lim <;> simp only [c1, c2, c3, decide_true, decide_false, Bool.true_and, Bool.and_true, Bool.false_and, Bool.and_false, not_true_eq_false, not_false_eq_true, true_and, false_and, and_true, and_false, or_false, false_or, true_or, or_true, and_self]
   rcases hA with ⟨h1, hbe⟩ | ⟨h1, h2, hbe⟩ | ⟨h1, h2, h3, hbe⟩ | ⟨h1, h2, h3, hbe⟩
   all_goals
    have HBe := Aside0.mk hbe
    clear hbe
    clear hnt
    go_wp2_with (first | (go_at_call 47; (with_reducible refine (cairnref32_Name.calls 30 _ _ _ HN.out).mono ?_); rintro e w' ⟨rfl, ⟨nd, rfl⟩⟩))
    go_meet
    case rel => exact ⟨congrArg Value.bool HBe.out.symm, by first | exact Ext.refl _ | exact ext_drewN (Ext.refl _) _⟩
 case rest =>
 obtain ⟨rfl, hX⟩ := hcut
 have HX := Aside0.mk hX
 clear z0 z1 z2 z3 z4 z5 hX
 obtain ⟨wn, hwn⟩ : ∃ W : World, W = wc := ⟨_, rfl⟩
 subst hwn
 go_wp2_with fail
 go_loopw [3, 4] (fun s3 s4 W => ∃ j : Nat, j ≤ q.cols.length ∧ s4 = .int .i64 j ∧ Ext w2 W ∧ s3 = .bool (B0 && (q.cols.take j).all nmB)) (fun _ v _ => q.cols.length - (intOf v).toNat)
 case atStart => exact ⟨0, by omega, rfl, HX.out, by simp⟩
 case round =>
 clear HX
 obtain ⟨wo, hwo⟩ : ∃ wo : World, wo = wr := ⟨_, rfl⟩
 subst hwo
 obtain ⟨j, hj, rfl, hX, rfl⟩ := hrel
 have HX := Aside0.mk hX
 have HXX := Aside0.mk (HE2.out.trans hX)
 clear hX
 have z0 : wo.cell? ⟨pb, 0, none⟩ = some (.slice A5 q.cols.length c5) := cell_ext HX.out (blk_cell HZP.out 0)
 obtain ⟨b, hb⟩ : ∃ b, b = (B0 && (q.cols.take j).all nmB) := ⟨_, rfl⟩
 rw [← hb]
 have HB := Aside0.mk hb
 clear hb
 by_cases hlt : j < q.cols.length
 ·
  have hb : (j : Int) < q.cols.length := by omega
  obtain ⟨ad, hA, hcj⟩ := Kd.at_string (Kd.C_below H5.out HXX.out) (j : Int) (by omega) (by omega)
  obtain ⟨x, hx⟩ : ∃ x, x = q.cols[j] := ⟨_, rfl⟩
  rw [rdOf_map _ _ hlt, ← hx, Int.toNat_natCast] at hcj
  subst hA
  have hxl : x.length ≤ 1000000000000 := HQ.out.1 x (by rw [hx]; exact List.getElem_mem hlt)
  have hb0 : (0 : Int) ≤ j := by omega
  have hln := HQ.out.2.2.2.2.1
  have HN := Aside0.mk (rname_f x hxl 30 (by decide))
  have HA : Aside0 ((B0 && (q.cols.take (j + 1)).all nmB) = (b && nmB x)) := ⟨by
   rw [List.take_succ_eq_append_getElem hlt, List.all_append, ← hx, HB.out]
   simp [Bool.and_assoc]⟩
  clear hxl hx
  cases b with
  | false =>
   go_wp2_with fail
   go_roundw
   case rel => exact ⟨j + 1, by omega, by go_num, HX.out, congrArg Value.bool (by rw [HA.out]; rfl)⟩
   case measure => simp [intOf]; omega
  | true =>
   obtain ⟨nx, hnx⟩ : ∃ n, n = nmB x := ⟨_, rfl⟩
   rw [← hnx] at HN HA
   clear hnx
   go_wp2_with (first | (go_at_call 47; (with_reducible refine (cairnref32_Name.calls 30 _ _ _ HN.out).mono ?_); rintro e w' ⟨rfl, ⟨nd, rfl⟩⟩))
   go_roundw
   case rel => exact ⟨j + 1, by omega, by go_num, ext_drewN HX.out _, congrArg Value.bool (by rw [HA.out]; rfl)⟩
   case measure => simp [intOf]; omega
 obtain rfl : j = q.cols.length := by omega
 have HC : Aside0 (b = (B0 && q.cols.all nmB)) := ⟨by have := HB.out; rwa [List.take_length] at this⟩
 have hb : ¬ ((q.cols.length : Int) < q.cols.length) := by omega
 clear HB hlt hj
 go_wp2_with fail
 clear hb z0
 go_loopw [3, 5] (fun s3 s5 W => ∃ j : Nat, j ≤ q.wh.length ∧ s5 = .int .i64 j ∧ Ext w2 W ∧ s3 = .bool (b && (q.wh.take j).all tstB)) (fun _ v _ => q.wh.length - (intOf v).toNat)
 case atStart => exact ⟨0, by omega, rfl, HX.out, by simp⟩
 case round =>
 clear HX HXX
 obtain ⟨wp, hwp⟩ : ∃ wp : World, wp = wr := ⟨_, rfl⟩
 subst hwp
 obtain ⟨j, hj, rfl, hX, rfl⟩ := hrel
 have HX := Aside0.mk hX
 have HXX := Aside0.mk (HE2.out.trans hX)
 clear hX
 obtain ⟨d, hd⟩ : ∃ d, d = (b && (q.wh.take j).all tstB) := ⟨_, rfl⟩
 rw [← hd]
 have HD := Aside0.mk hd
 clear hd
 by_cases hlt : j < q.wh.length
 ·
  have z2 : wp.cell? ⟨pb, 2, none⟩ = some (.slice A7 q.wh.length c7) := cell_ext HX.out (blk_cell HZP.out 2)
  have hb : (j : Int) < q.wh.length := by omega
  have hb0 : (0 : Int) ≤ j := by omega
  have hln := HQ.out.2.2.2.2.2
  obtain ⟨t, ht⟩ : ∃ t, t = q.wh[j] := ⟨_, rfl⟩
  have hmem : t ∈ q.wh := by rw [ht]; exact List.getElem_mem hlt
  have hxl := HQ.out.2.2.1 t hmem
  obtain ⟨ad, hA, d1, d2, d3⟩ := at_T70 (Kd.C_below H7.out HXX.out) (j : Int) (by omega) hb
  rw [rd70 _ _ hlt, ← ht] at d1 d2 d3
  simp only [t70, Int.toNat_natCast] at d1 d2 d3
  subst hA
  have HN := Aside0.mk (rname_f t.col hxl.1 30 (by decide))
  have HA : Aside0 ((b && (q.wh.take (j + 1)).all tstB) = (d && tstB t)) := ⟨by
   rw [List.take_succ_eq_append_getElem hlt, List.all_append, ← ht, HD.out]
   simp [Bool.and_assoc]⟩
  clear hxl ht hmem
  cases d with
  | false =>
   go_wp2_with fail
   go_roundw
   case rel => exact ⟨j + 1, by omega, by go_num, HX.out, congrArg Value.bool (by rw [HA.out]; rfl)⟩
   case measure => simp [intOf]; omega
  | true =>
   obtain ⟨nb, hnb⟩ : ∃ b, b = nmB t.col := ⟨_, rfl⟩
   have HT : Aside0 (tstB t = (nb && decide (1 ≤ t.op) && decide (t.op ≤ 6) && decide (((strB t.val).size : Int) ≤ 1024))) := ⟨by
    rw [hnb]
    unfold tstB
    rw [strB_size]
    congr 1
    rw [Bool.eq_iff_iff, decide_eq_true_eq, decide_eq_true_eq]
    omega⟩
   rw [← hnb] at HN
   clear hnb
   have hA : (nb = false ∧ tstB t = false) ∨ (nb = true ∧ ¬ 1 ≤ t.op ∧ tstB t = false) ∨ (nb = true ∧ 1 ≤ t.op ∧ ¬ t.op ≤ 6 ∧ tstB t = false) ∨ (nb = true ∧ 1 ≤ t.op ∧ t.op ≤ 6 ∧ tstB t = decide (((strB t.val).size : Int) ≤ 1024)) := by
    rw [HT.out]
    by_cases c1 : nb = true <;> by_cases c2 : 1 ≤ t.op <;> by_cases c3 : t.op ≤ 6 <;> simp only [c1, c2, c3, decide_true, decide_false, Bool.true_and, Bool.and_true, Bool.false_and, Bool.and_false, not_true_eq_false, not_false_eq_true, true_and, false_and, and_true, and_false, or_false, false_or, true_or, or_true, and_self]
   rcases hA with ⟨h0, hbe⟩ | ⟨h0, h1, hbe⟩ | ⟨h0, h1, h2, hbe⟩ | ⟨h0, h1, h2, hbe⟩
   all_goals
    subst h0
    have HBe := Aside0.mk hbe
    clear hbe
    go_wp2_with (first | (go_at_call 47; (with_reducible refine (cairnref32_Name.calls 30 _ _ _ HN.out).mono ?_); rintro e w' ⟨rfl, ⟨nd, rfl⟩⟩))
    go_roundw
    case rel => exact ⟨j + 1, by omega, by go_num, ext_drewN HX.out _, congrArg Value.bool (by rw [HA.out, HBe.out]; rfl)⟩
    case measure => simp [intOf]; omega
 obtain rfl : j = q.wh.length := by omega
 have z2 : wp.cell? ⟨pb, 2, none⟩ = some (.slice A7 q.wh.length c7) := cell_ext HX.out (blk_cell HZP.out 2)
 have z3 : wp.cell? ⟨pb, 3, none⟩ = some (.string (strB q.ord)) := cell_ext HX.out (blk_cell HZP.out 3)
 have z4 : wp.cell? ⟨pb, 4, none⟩ = some (.bool q.down) := cell_ext HX.out (blk_cell HZP.out 4)
 have HM : Aside0 (mayQ q = (d && (if q.ord = [] then !q.down else nmB q.ord))) := ⟨by
  have e := HD.out
  rw [List.take_length] at e
  rw [e, HC.out, HB0.out]
  have e1 : decide ((q.cols.length : Int) ≤ 8) = decide (q.cols.length ≤ 8) := by rw [Bool.eq_iff_iff, decide_eq_true_eq, decide_eq_true_eq]; omega
  have e2 : decide ((q.wh.length : Int) ≤ 8) = decide (q.wh.length ≤ 8) := by rw [Bool.eq_iff_iff, decide_eq_true_eq, decide_eq_true_eq]; omega
  rw [e1, e2]
  unfold mayQ
  ac_rfl⟩
 have hb : ¬ ((q.wh.length : Int) < q.wh.length) := by omega
 clear hlt hj HD HC
 by_cases ho : q.ord = []
 ·
  have ho0 : ((strB q.ord).toList == ([] : List UInt8)) = true := by simp [toList_strB, ho]
  rw [if_pos ho] at HM
  clear ho
  cases d
  all_goals
   go_wp2_with fail
   go_ret
   exact ⟨by rw [HM.out]; rfl, HE2.out.trans HX.out⟩
 ·
  have ho0 : ((strB q.ord).toList == ([] : List UInt8)) = false := by simp [toList_strB, ho]
  rw [if_neg ho] at HM
  have HN := Aside0.mk (rname_f q.ord HQ.out.2.2.2.1 30 (by decide))
  clear ho
  cases d
  all_goals
   go_wp2_with (first | (go_at_call 47; (with_reducible refine (cairnref32_Name.calls 30 _ _ _ HN.out).mono ?_); rintro e w' ⟨rfl, ⟨nd, rfl⟩⟩))
   go_ret
   exact ⟨by rw [HM.out]; rfl, by first | exact HE2.out.trans HX.out | exact ext_drewN (HE2.out.trans HX.out) _⟩
end Go.Proofs.YthhemephaabblaaGreatDoor.Hq
