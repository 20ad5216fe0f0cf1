
import Derived.Test.YthhemephaabblaaGreatDoorRows
import Derived.WalkKit
import Derived.WalkSpells
import Derived.WalkLawsBesides
import Derived.Stop.BytesEq
import Derived.Deep.QuietTactic
import Derived.BigQuiet
import Derived.Deep.MidRow
import Derived.Lib.Hide
import Derived.ProofKit
import Derived.OpenShut
import Derived.Test.YthhemephaabblaaGreatDoorZDb
import Derived.Test.YthhemephaabblaaGreatDoorZDa
import Derived.Laws.CopyRow
import Derived.Lib.SlBuf
import Derived.Test.YthhemephaabblaaGreatDoorProg
import Derived.Below
import Derived.Deep.Draws
import Derived.Deep.AppendLies
import Derived.Maps.AppendAt
import Derived.OwnWalk
import Derived.Laws.BytesArg
import Derived.Laws.MakeOwn
import Derived.Laws.OwnMore
import Derived.Deep.OwnRows
import Derived.Tactics
import Derived.Lib.ConvBytes
import Derived.Laws.Slices
import Derived.KernelRfl
import Derived.RowKit3
import Derived.Deep.LoopGhost
import Derived.WideLaws
import Derived.Deep.DeepCutAuto
import Derived.Deep.CutBlock
import Derived.Deep.RegionHeld3
import Derived.Laws.Rows
import Derived.Lib.AppendStr
import Derived.ArgAppend
import Derived.Laws.IdiomCopy
import Derived.OrdersHeld
import Derived.Laws.BitsLemmas
import Derived.RowKit
set_option linter.unusedVariables false
set_option linter.unusedSimpArgs false
namespace Go.Proofs.YthhemephaabblaaGreatDoor
open Go.RowKit
open Extern.Stop (cell)
theorem heap_alloc3_new (w : World) (A B C : Obj) : (((w.alloc A).alloc B).alloc C).heap[w.heap.size + 1 + 1]? = some C := by
 have h := heap_alloc_new ((w.alloc A).alloc B) C
 have e : ((w.alloc A).alloc B).heap.size = w.heap.size + 1 + 1 := by simp
 rwa [e] at h
theorem heap_alloc3_mid (w : World) (A B C : Obj) : (((w.alloc A).alloc B).alloc C).heap[w.heap.size + 1]? = some B := by
 rw [Below.heap_alloc _ _ _ (by simp)]; exact heap_alloc2_new w A B
theorem heap_alloc3_old (w : World) (A B C : Obj) : (((w.alloc A).alloc B).alloc C).heap[w.heap.size]? = some A := by
 rw [Below.heap_alloc _ _ _ (by simp; omega)]; exact heap_alloc2_old w A B
theorem setRow_heap_other (w : World) (g b : Nat) (cs : Array Value) (h : b ≠ g) : (w.setRow g cs).heap[b]? = w.heap[b]? := by
 simp only [World.setRow, Array.getElem?_modify]
 rw [if_neg (fun e => h e.symm)]
theorem Below.setRow {B : Nat} {a w : World} (h : Below B a w) {g : Nat} (hg : B ≤ g) (cs : Array Value) : Below B a (w.setRow g cs) :=
 h.trans ⟨rfl, rfl, rfl, by simp, fun k hk => setRow_heap_other _ _ _ _ (by omega)⟩
theorem heap_below {w w' : World} {b : Nat} {o : Obj} (h : w.heap[b]? = some o) (hb : Below w.heap.size w w') : w'.heap[b]? = some o := by
 rw [hb.block b (by by_cases hlt : b < w.heap.size; exact hlt; rw [Array.getElem?_eq_none (by omega)] at h; cases h)]; exact h
section
variable {P : Program} {ops : Array Oper} {C : World → Prop} {Q : Act → Prop} {a : Act} {rest : List Oper} {dst : Option Tmp} {ty : TypeId} {pos : String} {after : Array Edge} {guard : Option (Nat × Bool)}
end
end Go.Proofs.YthhemephaabblaaGreatDoor
set_option linter.unusedVariables false
set_option linter.unusedSimpArgs false
namespace Go.Proofs.YthhemephaabblaaGreatDoorW.PrintLast
open Go.RowKit
def Ext (w w' : World) : Prop := Below w.heap.size w w'
theorem Ext.refl (w : World) : Ext w w := Below.refl _ _
theorem Ext.trans {a b c : World} (h : Ext a b) (k : Ext b c) : Ext a c := Below.trans h (Below.mono k h.size)
theorem Ext.drew {a w : World} (h : Ext a w) : Ext a w.drew := Below.drew h
theorem Ext.to_drew (w : World) : Ext w w.drew := (Ext.refl w).drew
theorem Ext.alloc {a w : World} (h : Ext a w) (o : Obj) : Ext a (w.alloc o) := Below.alloc h h.size o
theorem Ext.below {B : Nat} {a b c : World} (h : Below B a b) (hB : B ≤ b.heap.size) (k : Ext b c) : Below B a c := Below.trans h (Below.mono k hB)
def bitsOf (T : List (List Nat × List Nat)) : List Nat := (List.range T.length).foldl (fun B d => B ++ [upM B d ((T[d]?.map (·.1)).getD [])]) []
def extOk (ops : Array Oper) (D : List (Nat × Tmp)) (n : Nat) : Bool :=
 ops.size == n && waitsOk (rtab .any ops).2 (bitsOf (rtab .any ops).2) && baseOk (rtab .any ops).2 (List.range n)
  && (List.range n).all (fun i => match ops[i]? with
   | some o => (match o.dst with
    | some t => D.contains (i, t)
    | none => D.all fun e => !(e.1 == i))
   | none => false)
  && (List.range D.length).all (fun k => match D[k]? with
   | some x => (D.take k ++ D.drop (k + 1)).all fun e => !(e.1 == x.1) && !(e.2 == x.2)
   | none => false)
  && D.all (fun e => decide (e.1 < n))
section
variable {P : Program} {ops : Array Oper} {Q : Exit → Act → World → Prop}
def Good (P : Program) (o : Oper) (a : Act) (w : World) (Gi : World → Value → Prop) : Prop :=
 (∃ v w', (execOp a.eval o).run P w = .ok (.value v) w' ∧ Ext w w' ∧ Gi w' v) ∨
 (∃ f vs, (execOp a.eval o).run P w = .ok (.enter f vs) w ∧ Calls P f vs w (fun e w' => ∃ v, e = .returned v ∧ Ext w w' ∧ Gi w' v))
theorem Good.wp {o : Oper} {a : Act} {w : World} {Gi : World → Value → Prop} {K : Act → World → Prop} (h : Good P o a w Gi) (hk : ∀ v w', Ext w w' → Gi w' v → K (a.put o.dst v) w') : Oper.wp P o a w K Q := by
 unfold Oper.wp
 rcases h with ⟨v, w', e, h1, h2⟩ | ⟨f, vs, e, hc⟩
 ·
  rw [e]; exact hk v w' h1 h2
 ·
  rw [e]; exact hc.mono (fun e w' ⟨v, he, h1, h2⟩ => by subst he; exact hk v w' h1 h2)
structure Has (a0 a : Act) (D : List (Nat × Tmp)) (m : Nat) (G : Nat → World → Value → Prop) (w : World) : Prop where
 dep : ∀ j t, D.contains (j, t) = true → m.testBit j = true → ∃ v, a.tmps[t]? = some v ∧ G j w v
 old : ∀ t, (D.all fun e => !(e.2 == t)) = true → a.tmps[t]? = a0.tmps[t]?
def StepE (P : Program) (ops : Array Oper) (a0 : Act) (w0 : World) (D : List (Nat × Tmp)) (G : Nat → World → Value → Prop) (i : Nat) : Prop :=
 ∃ o, ops[i]? = some o ∧ ∀ a w, Ext w0 w → Has a0 a D ((bitsOf (rtab .any ops).2).getD i 0) G w →
  (Region.wanted o (yielded ops a.tmps) = true ∧ Good P o a w (G i)) ∨ (Region.wanted o (yielded ops a.tmps) = false ∧ G i w undef)
theorem stepE_nil {a0 : Act} {w0 : World} {D : List (Nat × Tmp)} {G : Nat → World → Value → Prop} : ∀ i ∈ ([] : List Nat), StepE P ops a0 w0 D G i := fun _ h => by cases h
theorem stepE_cons {a0 : Act} {w0 : World} {D : List (Nat × Tmp)} {G : Nat → World → Value → Prop} {i : Nat} {rs : List Nat} (h : StepE P ops a0 w0 D G i) (hs : ∀ j ∈ rs, StepE P ops a0 w0 D G j) : ∀ j ∈ i :: rs, StepE P ops a0 w0 D G j := fun j hj => by
 rcases List.mem_cons.1 hj with rfl | hj
 ·
  exact h
 ·
  exact hs j hj
theorem putSel_all {b : Nat → Bool} : ∀ {L : List (Nat × Tmp × Value)} {a : Act}, (∀ e ∈ L, b e.1 = true) → putSel a b L = putAll a (L.map fun e => e.2)
 | [], _, _ => rfl
 | e :: r, a, h => by
  unfold putSel
  rw [if_pos (h e List.mem_cons_self), putSel_all (fun x hx => h x (List.mem_cons_of_mem _ hx))]
  rfl
theorem putSel_begin {b : Nat → Bool} : ∀ {L : List (Nat × Tmp × Value)} {a : Act}, (∀ e ∈ L, b e.1 = false) → putSel a b L = a
 | [], _, _ => rfl
 | e :: r, a, h => by
  unfold putSel
  rw [if_neg (by rw [h e List.mem_cons_self]; decide), putSel_begin (fun x hx => h x (List.mem_cons_of_mem _ hx))]
theorem putSel_congr {b : Nat → Bool} {D : List (Nat × Tmp)} {f g : Nat → Value} (h : ∀ e ∈ D, f e.1 = g e.1) {a : Act} : putSel a b (D.map fun e => (e.1, e.2, f e.1)) = putSel a b (D.map fun e => (e.1, e.2, g e.1)) := by
 congr 1
 exact List.map_congr_left (fun e he => by rw [h e he])
def fits (a0 : Act) (D : List (Nat × Tmp)) : Bool := D.all fun e => Nat.ble (e.2 + 1) a0.tmps.size
theorem ext_region {id : Nat} {a0 : Act} {w0 : World} (n : Nat) (D : List (Nat × Tmp)) (O : List Nat) (G : Nat → World → Value → Prop) (hm : P.follows .mixedOrders = true) (hok : extOk ops D n = true) (hfit : fits a0 D = true) (hO : List.range n = O)
  (hG : ∀ i w w' v, G i w v → Ext w w' → G i w' v) (hs : ∀ i ∈ O, StepE P ops a0 w0.drew D G i)
  (hend : ∀ (vals : Nat → Value) (w' : World), Ext w0.drew w' → (∀ i ∈ O, (D.any fun e => e.1 == i) = true → G i w' (vals i)) → Q .normal (putAll a0 (D.map fun e => (e.2, vals e.1))) w') :
  (Code.region id ops true).wp P Q a0 w0 := by
 subst hO
 simp only [extOk, Bool.and_eq_true, beq_iff_eq] at hok
 obtain ⟨⟨⟨⟨⟨hn, hw⟩, hk⟩, hd⟩, hdist⟩, hDlt⟩ := hok
 have hdist' : ∀ (k : Nat) (i : Nat) (t : Tmp), D[k]? = some (i, t) → ((D.take k ++ D.drop (k + 1)).all fun e => !(e.1 == i) && !(e.2 == t)) = true := fun k i t h => by
  have h1 := List.all_eq_true.1 hdist k (List.mem_range.2 (List.getElem?_eq_some_iff.1 h).1)
  rw [h] at h1
  exact h1
 have hfit' : ∀ e ∈ D, Nat.ble (e.2 + 1) a0.tmps.size = true := fun e he => List.all_eq_true.1 hfit e he
 refine start_ (n := n) (S := fun _ => True) (ds := []) (Array.replicate n false) hm hn rfl trivial (fun _ => ?_)
 have hTl : (rtab .any ops).2.length = n := by rw [rtab_length, hn]
 refine inv_ (md := .any) (T := rtab .any ops) (B := bitsOf (rtab .any ops).2) (List.range n)
  (fun b a w => Ext w0.drew w ∧ ∃ vals : Nat → Value, a = putSel a0 b (D.map fun e => (e.1, e.2, vals e.1)) ∧ ∀ i, b i = true → G i w (vals i)) rfl hw hk ?_ ?_ ?_ ?_
 ·
  rw [hTl, Bool.and_eq_true, beq_iff_eq, beq_iff_eq]
  refine ⟨?_, by simp⟩
  rw [Array.toList_replicate]
  refine List.ext_getElem (by simp [lof]) (fun j h1 h2 => ?_)
  have hj : j < n := by simpa [lof] using h1
  simp [lof, hj]
 ·
  refine ⟨Ext.refl _, fun _ => undef, ?_, fun i h => by cases h⟩
  rw [putSel_begin (fun e he => rfl)]
 ·
  intro i hi b a w ⟨hE, vals, ha, hg⟩ hbi hon hoff
  obtain ⟨o, ho, hstep⟩ := hs i hi
  refine ⟨o, ho, fun K hK => ?_⟩
  have hin : i < n := List.mem_range.1 hi
  have hD := List.all_eq_true.1 hd i hi
  rw [ho] at hD
  simp only at hD
  have next : ∀ v w', Ext w w' → G i w' v → K (a.put o.dst v) w' := by
   intro v w' hE' hv
   refine hK _ _ ⟨hE.trans hE', fun j => if j = i then v else vals j, ?_, fun j hj => ?_⟩
   ·
    cases hdst : o.dst with
    | none =>
     rw [hdst] at hD
     have hD' : ∀ e ∈ D, e.1 ≠ i := fun e he => by have := List.all_eq_true.1 hD e he; simpa using this
     have hnoi : ((D.map fun e => (e.1, e.2, (fun j => if j = i then v else vals j) e.1)).all fun e => !(e.1 == i)) = true :=
      List.all_eq_true.2 (fun x hx => by
       obtain ⟨e, he, rfl⟩ := List.mem_map.1 hx
       have := hD' e he
       simp [this])
     rw [putSel_same hnoi]
     show a = _
     rw [ha]
     exact putSel_congr (f := vals) (g := fun j => if j = i then v else vals j) (fun e he => by rw [if_neg (hD' e he)])
    | some t =>
     rw [hdst] at hD
     have hmem : (i, t) ∈ D := List.contains_iff_mem.1 hD
     obtain ⟨k, hkD⟩ := List.getElem?_of_mem hmem
     have hdi := hdist' k i t hkD
     rw [ha]
     refine putSel_upk k (v0 := vals i) hbi (by rw [List.getElem?_map, hkD]; rfl) ?_ ?_
     ·
      refine List.ext_getElem? (fun j => ?_)
      rw [List.getElem?_set, List.getElem?_map, List.getElem?_map]
      by_cases hkj : k = j
      ·
       subst hkj
       have hlt : k < D.length := (List.getElem?_eq_some_iff.1 hkD).1
       rw [if_pos rfl, if_pos (by simpa using hlt), hkD]
       simp
      ·
       rw [if_neg hkj]
       cases hj : D[j]? with
       | none => rfl
       | some e =>
        have he : e.1 ≠ i := by
         have hm1 : e ∈ D.take k ++ D.drop (k + 1) := by
          rw [List.mem_append]
          rcases Nat.lt_or_gt_of_ne hkj with h | h
          ·
           right
           refine List.mem_of_getElem? (i := j - (k + 1)) ?_
           rw [List.getElem?_drop, show k + 1 + (j - (k + 1)) = j by omega, hj]
          ·
           left
           refine List.mem_of_getElem? (i := j) ?_
           rw [List.getElem?_take, if_pos h, hj]
         have := List.all_eq_true.1 hdi e hm1
         simp only [Bool.and_eq_true] at this
         simpa using this.1
        simp [he]
     ·
      refine List.all_eq_true.2 (fun x hx => ?_)
      rw [← List.map_take, ← List.map_drop, ← List.map_append] at hx
      obtain ⟨e, he, rfl⟩ := List.mem_map.1 hx
      exact List.all_eq_true.1 hdi e he
   ·
    by_cases hji : j = i
    ·
     subst hji; simpa using hv
    ·
     rw [up_ne hji] at hj
     simp only [if_neg hji]
     exact hG _ _ _ _ (hg j hj) hE'
  have has : Has a0 a D ((bitsOf (rtab .any ops).2).getD i 0) G w := by
   refine ⟨fun j t hjt hbit => ?_, fun t ht => ?_⟩
   ·
    have hmem : (j, t) ∈ D := List.contains_iff_mem.1 hjt
    have hjn : j < n := by
     by_cases hlt : j < n
     ·
      exact hlt
     ·
      exfalso
      have hTi : (rtab .any ops).2[i]? = some ((rtab .any ops).2[i]'(by rw [hTl]; exact hin)) := List.getElem?_eq_getElem _
      have key : ∀ (m d : Nat), d ≤ m → d < n → ∀ q, ((bitsOf (rtab .any ops).2).getD d 0).testBit q = true → q < n := by
       intro m
       induction m with
       | zero =>
        intro d hdm hdn q hq
        obtain rfl : d = 0 := by omega
        have hr : (rtab .any ops).2[0]? = some ((rtab .any ops).2[0]'(by rw [hTl]; exact hdn)) := List.getElem?_eq_getElem _
        have h1 := List.all_eq_true.1 hw 0 (List.mem_range.2 (by rw [hTl]; exact hdn))
        rw [hr] at h1
        simp only [beq_iff_eq] at h1
        have h2 : (upM (bitsOf (rtab .any ops).2) 0 ((rtab .any ops).2[0]'(by rw [hTl]; exact hdn)).1).testBit q = true := by rw [← h1, Nat.testBit_or, hq, Bool.true_or]
        obtain ⟨p, hp, h3⟩ := upM_bit h2
        have := (baseOk_row hk hr).2 p hp
        omega
       | succ m ih =>
        intro d hdm hdn q hq
        have hr : (rtab .any ops).2[d]? = some ((rtab .any ops).2[d]'(by rw [hTl]; exact hdn)) := List.getElem?_eq_getElem _
        have h1 := List.all_eq_true.1 hw d (List.mem_range.2 (by rw [hTl]; exact hdn))
        rw [hr] at h1
        simp only [beq_iff_eq] at h1
        have h2 : (upM (bitsOf (rtab .any ops).2) d ((rtab .any ops).2[d]'(by rw [hTl]; exact hdn)).1).testBit q = true := by rw [← h1, Nat.testBit_or, hq, Bool.true_or]
        obtain ⟨p, hp, h3⟩ := upM_bit h2
        have h4 := (baseOk_row hk hr).2 p hp
        rcases h3 with rfl | ⟨h5, h6⟩
        ·
         omega
        ·
         exact ih p (by omega) (by omega) q h6
      exact hlt (key i i (Nat.le_refl _) hin j hbit)
    have hbj : b j = true := hon j (by rw [hbit, Bool.and_true]; exact List.contains_iff_mem.2 (List.mem_range.2 hjn))
    obtain ⟨k, hkD⟩ := List.getElem?_of_mem hmem
    refine ⟨vals j, ?_, hg j hbj⟩
    rw [ha]
    refine putSel_on (e := (j, t, vals j)) k (by rw [List.getElem?_map, hkD]; rfl) ?_ hbj (hfit' _ hmem)
    refine List.all_eq_true.2 (fun x hx => ?_)
    rw [← List.map_drop] at hx
    obtain ⟨e, he, rfl⟩ := List.mem_map.1 hx
    have := List.all_eq_true.1 (hdist' k j t hkD) e (List.mem_append_right _ he)
    simp only [Bool.and_eq_true] at this
    exact this.2
   ·
    rw [ha]
    refine putSel_off (List.all_eq_true.2 (fun x hx => ?_))
    obtain ⟨e, he, rfl⟩ := List.mem_map.1 hx
    exact List.all_eq_true.1 ht e he
  rcases hstep a w hE has with ⟨hw1, hgood⟩ | ⟨hw0, hu⟩
  ·
   rw [if_pos hw1]
   exact hgood.wp next
  ·
   rw [if_neg (by rw [hw0]; decide)]
   exact next undef w (Ext.refl w) hu
 ·
  intro b a w hall ⟨hE, vals, ha, hg⟩
  have hall' : ∀ j, j < n → b j = true := fun j hj => hall j (List.contains_iff_mem.2 (List.mem_range.2 hj))
  have hDn : ∀ e ∈ D, b e.1 = true := by
   intro e he
   have h1 := List.all_eq_true.1 hDlt e he
   exact hall' _ (of_decide_eq_true h1)
  rw [ha, putSel_all (fun x hx => by obtain ⟨e, he, rfl⟩ := List.mem_map.1 hx; exact hDn e he), List.map_map]
  exact hend vals w hE (fun i hi _ => hg i (hall' i (List.mem_range.1 hi)))
def extOk1 (ops : Array Oper) (D : List (Nat × Tmp)) (n : Nat) : Bool :=
 ops.size == n && waitsOk (rtab .any ops).2 (bitsOf (rtab .any ops).2) && baseOk (rtab .any ops).2 (List.range n)
  && (List.range (n - 1)).all (fun i => match ops[i]? with
   | some o => (match o.dst with
    | some t => D.contains (i, t)
    | none => D.all fun e => !(e.1 == i))
   | none => false)
  && (List.range D.length).all (fun k => match D[k]? with
   | some x => (D.take k ++ D.drop (k + 1)).all fun e => !(e.1 == x.1) && !(e.2 == x.2)
   | none => false)
  && D.all (fun e => decide (e.1 < n - 1))
  && (List.range (n - 1)).all (fun j => ((bitsOf (rtab .any ops).2).getD (n - 1) 0).testBit j)
  && decide (0 < n)
theorem ext_tail {id : Nat} {a0 : Act} {w0 : World} (n : Nat) (D : List (Nat × Tmp)) (O : List Nat) (G : Nat → World → Value → Prop) (hm : P.follows .mixedOrders = true) (hok : extOk1 ops D n = true) (hfit : fits a0 D = true) (hO : List.range (n - 1) = O)
  (hG : ∀ i w w' v, G i w v → Ext w w' → G i w' v) (hs : ∀ i ∈ O, StepE P ops a0 w0.drew D G i)
  (hend : ∃ o, ops[n - 1]? = some o ∧ ∀ (vals : Nat → Value) (w' : World), Ext w0.drew w' → (∀ i ∈ O, (D.any fun e => e.1 == i) = true → G i w' (vals i)) →
   Region.wanted o (yielded ops (putAll a0 (D.map fun e => (e.2, vals e.1))).tmps) = true ∧ ∀ K : Act → World → Prop, Shut (∀ a' w'', Q .normal a' w'' → K a' w'') → Oper.wp P o (putAll a0 (D.map fun e => (e.2, vals e.1))) w' K Q) :
  (Code.region id ops true).wp P Q a0 w0 := by
 subst hO
 simp only [extOk1, Bool.and_eq_true, beq_iff_eq] at hok
 obtain ⟨⟨⟨⟨⟨⟨⟨hn, hw⟩, hk⟩, hd⟩, hdist⟩, hDlt⟩, hall1⟩, hpos⟩ := hok
 have hn0 : 0 < n := of_decide_eq_true hpos
 have hfall : ∀ j, j < n - 1 → ((bitsOf (rtab .any ops).2).getD (n - 1) 0).testBit j = true := fun j hj => List.all_eq_true.1 hall1 j (List.mem_range.2 hj)
 have hdist' : ∀ (k : Nat) (i : Nat) (t : Tmp), D[k]? = some (i, t) → ((D.take k ++ D.drop (k + 1)).all fun e => !(e.1 == i) && !(e.2 == t)) = true := fun k i t h => by
  have h1 := List.all_eq_true.1 hdist k (List.mem_range.2 (List.getElem?_eq_some_iff.1 h).1)
  rw [h] at h1
  exact h1
 have hfit' : ∀ e ∈ D, Nat.ble (e.2 + 1) a0.tmps.size = true := fun e he => List.all_eq_true.1 hfit e he
 refine start_ (n := n) (S := fun _ => True) (ds := []) (Array.replicate n false) hm hn rfl trivial (fun _ => ?_)
 have hTl : (rtab .any ops).2.length = n := by rw [rtab_length, hn]
 refine inv_ (md := .any) (T := rtab .any ops) (B := bitsOf (rtab .any ops).2) (List.range n)
  (fun b a w => if b (n - 1) = true then Q .normal a w else (Ext w0.drew w ∧ ∃ vals : Nat → Value, a = putSel a0 b (D.map fun e => (e.1, e.2, vals e.1)) ∧ ∀ i, b i = true → G i w (vals i))) rfl hw hk ?_ ?_ ?_ ?_
 ·
  rw [hTl, Bool.and_eq_true, beq_iff_eq, beq_iff_eq]
  refine ⟨?_, by simp⟩
  rw [Array.toList_replicate]
  refine List.ext_getElem (by simp [lof]) (fun j h1 h2 => ?_)
  have hj : j < n := by simpa [lof] using h1
  simp [lof, hj]
 ·
  dsimp only
  rw [if_neg Bool.false_ne_true]
  refine ⟨Ext.refl _, fun _ => undef, ?_, fun i h => by cases h⟩
  rw [putSel_begin (fun e he => rfl)]
 ·
  intro i hi b a w hI hbi hon hoff
  have hin : i < n := List.mem_range.1 hi
  by_cases hif : i = n - 1
  ·
   subst hif
   rw [if_neg (by rw [hbi]; decide)] at hI
   obtain ⟨hE, vals, ha, hg⟩ := hI
   obtain ⟨o, ho, hlast⟩ := hend
   have hall' : ∀ j, j < n - 1 → b j = true := fun j hj => hon j (by rw [hfall j hj, Bool.and_true]; exact List.contains_iff_mem.2 (List.mem_range.2 (by omega)))
   have ha' : a = putAll a0 (D.map fun e => (e.2, vals e.1)) := by
    rw [ha, putSel_all (fun x hx => by
     obtain ⟨e, he, rfl⟩ := List.mem_map.1 hx
     exact hall' _ (of_decide_eq_true (List.all_eq_true.1 hDlt e he))), List.map_map]
    rfl
   refine ⟨o, ho, fun K hK => ?_⟩
   obtain ⟨hw1, hfin⟩ := hlast vals w hE (fun j hj _ => hg j (hall' j (List.mem_range.1 hj)))
   rw [← ha'] at hw1 hfin
   rw [if_pos hw1]
   exact hfin K (fun a' w'' hq => hK a' w'' (by dsimp only; rw [if_pos (up_self b _)]; exact hq))
  have hi1 : i ∈ List.range (n - 1) := List.mem_range.2 (by omega)
  have hbf : b (n - 1) = false := hoff (n - 1) (by rw [hfall i (by omega), Bool.and_true]; exact List.contains_iff_mem.2 (List.mem_range.2 (by omega)))
  rw [if_neg (by rw [hbf]; decide)] at hI
  obtain ⟨hE, vals, ha, hg⟩ := hI
  obtain ⟨o, ho, hstep⟩ := hs i hi1
  refine ⟨o, ho, fun K hK => ?_⟩
  have hD := List.all_eq_true.1 hd i hi1
  rw [ho] at hD
  simp only at hD
  have next : ∀ v w', Ext w w' → G i w' v → K (a.put o.dst v) w' := by
   intro v w' hE' hv
   refine hK _ _ ?_
   dsimp only
   rw [if_neg (by rw [up_ne (fun e => hif e.symm), hbf]; decide)]
   refine ⟨hE.trans hE', fun j => if j = i then v else vals j, ?_, fun j hj => ?_⟩
   ·
    cases hdst : o.dst with
    | none =>
     rw [hdst] at hD
     have hD' : ∀ e ∈ D, e.1 ≠ i := fun e he => by have := List.all_eq_true.1 hD e he; simpa using this
     have hnoi : ((D.map fun e => (e.1, e.2, (fun j => if j = i then v else vals j) e.1)).all fun e => !(e.1 == i)) = true :=
      List.all_eq_true.2 (fun x hx => by
       obtain ⟨e, he, rfl⟩ := List.mem_map.1 hx
       have := hD' e he
       simp [this])
     rw [putSel_same hnoi]
     show a = _
     rw [ha]
     exact putSel_congr (f := vals) (g := fun j => if j = i then v else vals j) (fun e he => by rw [if_neg (hD' e he)])
    | some t =>
     rw [hdst] at hD
     have hmem : (i, t) ∈ D := List.contains_iff_mem.1 hD
     obtain ⟨k, hkD⟩ := List.getElem?_of_mem hmem
     have hdi := hdist' k i t hkD
     rw [ha]
     refine putSel_upk k (v0 := vals i) hbi (by rw [List.getElem?_map, hkD]; rfl) ?_ ?_
     ·
      refine List.ext_getElem? (fun j => ?_)
      rw [List.getElem?_set, List.getElem?_map, List.getElem?_map]
      by_cases hkj : k = j
      ·
       subst hkj
       have hlt : k < D.length := (List.getElem?_eq_some_iff.1 hkD).1
       rw [if_pos rfl, if_pos (by simpa using hlt), hkD]
       simp
      ·
       rw [if_neg hkj]
       cases hj : D[j]? with
       | none => rfl
       | some e =>
        have he : e.1 ≠ i := by
         have hm1 : e ∈ D.take k ++ D.drop (k + 1) := by
          rw [List.mem_append]
          rcases Nat.lt_or_gt_of_ne hkj with h | h
          ·
           right
           refine List.mem_of_getElem? (i := j - (k + 1)) ?_
           rw [List.getElem?_drop, show k + 1 + (j - (k + 1)) = j by omega, hj]
          ·
           left
           refine List.mem_of_getElem? (i := j) ?_
           rw [List.getElem?_take, if_pos h, hj]
         have := List.all_eq_true.1 hdi e hm1
         simp only [Bool.and_eq_true] at this
         simpa using this.1
        simp [he]
     ·
      refine List.all_eq_true.2 (fun x hx => ?_)
      rw [← List.map_take, ← List.map_drop, ← List.map_append] at hx
      obtain ⟨e, he, rfl⟩ := List.mem_map.1 hx
      exact List.all_eq_true.1 hdi e he
   ·
    by_cases hji : j = i
    ·
     subst hji; simpa using hv
    ·
     rw [up_ne hji] at hj
     simp only [if_neg hji]
     exact hG _ _ _ _ (hg j hj) hE'
  have has : Has a0 a D ((bitsOf (rtab .any ops).2).getD i 0) G w := by
   refine ⟨fun j t hjt hbit => ?_, fun t ht => ?_⟩
   ·
    have hmem : (j, t) ∈ D := List.contains_iff_mem.1 hjt
    have hjn : j < n := by
     by_cases hlt : j < n
     ·
      exact hlt
     ·
      exfalso
      have hTi : (rtab .any ops).2[i]? = some ((rtab .any ops).2[i]'(by rw [hTl]; exact hin)) := List.getElem?_eq_getElem _
      have key : ∀ (m d : Nat), d ≤ m → d < n → ∀ q, ((bitsOf (rtab .any ops).2).getD d 0).testBit q = true → q < n := by
       intro m
       induction m with
       | zero =>
        intro d hdm hdn q hq
        obtain rfl : d = 0 := by omega
        have hr : (rtab .any ops).2[0]? = some ((rtab .any ops).2[0]'(by rw [hTl]; exact hdn)) := List.getElem?_eq_getElem _
        have h1 := List.all_eq_true.1 hw 0 (List.mem_range.2 (by rw [hTl]; exact hdn))
        rw [hr] at h1
        simp only [beq_iff_eq] at h1
        have h2 : (upM (bitsOf (rtab .any ops).2) 0 ((rtab .any ops).2[0]'(by rw [hTl]; exact hdn)).1).testBit q = true := by rw [← h1, Nat.testBit_or, hq, Bool.true_or]
        obtain ⟨p, hp, h3⟩ := upM_bit h2
        have := (baseOk_row hk hr).2 p hp
        omega
       | succ m ih =>
        intro d hdm hdn q hq
        have hr : (rtab .any ops).2[d]? = some ((rtab .any ops).2[d]'(by rw [hTl]; exact hdn)) := List.getElem?_eq_getElem _
        have h1 := List.all_eq_true.1 hw d (List.mem_range.2 (by rw [hTl]; exact hdn))
        rw [hr] at h1
        simp only [beq_iff_eq] at h1
        have h2 : (upM (bitsOf (rtab .any ops).2) d ((rtab .any ops).2[d]'(by rw [hTl]; exact hdn)).1).testBit q = true := by rw [← h1, Nat.testBit_or, hq, Bool.true_or]
        obtain ⟨p, hp, h3⟩ := upM_bit h2
        have h4 := (baseOk_row hk hr).2 p hp
        rcases h3 with rfl | ⟨h5, h6⟩
        ·
         omega
        ·
         exact ih p (by omega) (by omega) q h6
      exact hlt (key i i (Nat.le_refl _) hin j hbit)
    have hbj : b j = true := hon j (by rw [hbit, Bool.and_true]; exact List.contains_iff_mem.2 (List.mem_range.2 hjn))
    obtain ⟨k, hkD⟩ := List.getElem?_of_mem hmem
    refine ⟨vals j, ?_, hg j hbj⟩
    rw [ha]
    refine putSel_on (e := (j, t, vals j)) k (by rw [List.getElem?_map, hkD]; rfl) ?_ hbj (hfit' _ hmem)
    refine List.all_eq_true.2 (fun x hx => ?_)
    rw [← List.map_drop] at hx
    obtain ⟨e, he, rfl⟩ := List.mem_map.1 hx
    have := List.all_eq_true.1 (hdist' k j t hkD) e (List.mem_append_right _ he)
    simp only [Bool.and_eq_true] at this
    exact this.2
   ·
    rw [ha]
    refine putSel_off (List.all_eq_true.2 (fun x hx => ?_))
    obtain ⟨e, he, rfl⟩ := List.mem_map.1 hx
    exact List.all_eq_true.1 ht e he
  rcases hstep a w hE has with ⟨hw1, hgood⟩ | ⟨hw0, hu⟩
  ·
   rw [if_pos hw1]
   exact hgood.wp next
  ·
   rw [if_neg (by rw [hw0]; decide)]
   exact next undef w (Ext.refl w) hu
 ·
  intro b a w hall hI
  rw [if_pos (hall (n - 1) (List.contains_iff_mem.2 (List.mem_range.2 (by omega))))] at hI
  exact hI
variable {o : Oper} {a : Act} {w : World} {Gi : World → Value → Prop}
theorem goodE_val (v : Value) (hr : (execOp a.eval o).run P w = .ok (.value v) w) (hg : Gi w v) : Good P o a w Gi := Or.inl ⟨v, w, hr, Ext.refl w, hg⟩
theorem goodE_move {x : Operand} (v : Value) (ho : o.op = .move x) (hx : a.eval x = v) (hg : Gi w v) : Good P o a w Gi := goodE_val v (by unfold execOp; rw [ho]; simp [hx]) hg
theorem goodE_assign {x : Operand} (v : Value) (ho : o.op = .assign x) (hx : a.eval x = v) (hg : Gi w v) : Good P o a w Gi := goodE_val v (by unfold execOp; rw [ho]; simp [hx]) hg
theorem goodE_pick {c x y : Operand} (b : Bool) (v : Value) (ho : o.op = .pick c x y) (hc : a.eval c = .bool b) (hv : (if b then a.eval x else a.eval y) = v) (hg : Gi w v) : Good P o a w Gi :=
 goodE_val v (by unfold execOp; rw [ho]; subst hv; cases b <;> simp [hc, asBool]) hg
theorem goodE_new (v : Value) (w' : World) (hr : (execOp a.eval o).run P w = .ok (.value v) w') (hE : Ext w w') (hg : Gi w' v) : Good P o a w Gi := Or.inl ⟨v, w', hr, hE, hg⟩
theorem goodE_call {f : FuncId} {args : Array Operand} {argTypes : Array TypeId} (ho : o.op = .call ⟨.value (.func f), args, argTypes⟩) (vs : Array Value) (hvs : args.map a.eval = vs) (fn : Func) (hf : P.funcs[f]? = some fn)
  (hn : (fn.name == "runtime.NumGoroutine") = false) (hb : fn.body.isNone = false) (hc : Calls P f vs w (fun e w' => ∃ v, e = .returned v ∧ Ext w w' ∧ Gi w' v)) : Good P o a w Gi := by
 refine Or.inr ⟨f, vs, ?_, hc⟩
 have hn' : ¬ fn.name = "runtime.NumGoroutine" := by simpa using hn
 have hb' : ¬ fn.body = none := fun e => by rw [e] at hb; cases hb
 unfold execOp
 rw [ho]
 simp [resolve, Deferred.ofValue, invoke, callFunc, hvs, hf, hn', hb', go_sem]
theorem finE_skip {K : Act → World → Prop} {w1 : World} (hr : (execOp a.eval o).run P w = .ok .skip w1) (h : K (a.put o.dst undef) w1) : Oper.wp P o a w K Q := by
 unfold Oper.wp; rw [hr]; exact h
theorem finE_val {K : Act → World → Prop} {w1 : World} {v : Value} (hr : (execOp a.eval o).run P w = .ok (.value v) w1) (h : K (a.put o.dst v) w1) : Oper.wp P o a w K Q := by
 unfold Oper.wp; rw [hr]; exact h
theorem finE_call {K : Act → World → Prop} {f : FuncId} {args : Array Operand} {argTypes : Array TypeId} (ho : o.op = .call ⟨.value (.func f), args, argTypes⟩) (vs : Array Value) (hvs : args.map a.eval = vs) (fn : Func) (hf : P.funcs[f]? = some fn)
  (hn : (fn.name == "runtime.NumGoroutine") = false) (hb : fn.body.isNone = false) (hc : Calls P f vs w (fun e w' => ∃ v, e = .returned v ∧ K (a.put o.dst v) w')) : Oper.wp P o a w K Q := by
 have hr : (execOp a.eval o).run P w = .ok (.enter f vs) w := by
  have hn' : ¬ fn.name = "runtime.NumGoroutine" := by simpa using hn
  have hb' : ¬ fn.body = none := fun e => by rw [e] at hb; cases hb
  unfold execOp
  rw [ho]
  simp [resolve, Deferred.ofValue, invoke, callFunc, hvs, hf, hn', hb', go_sem]
 unfold Oper.wp
 rw [hr]
 exact hc.mono (fun e w' ⟨v, he, h⟩ => by subst he; exact h)
end
end Go.Proofs.YthhemephaabblaaGreatDoorW.PrintLast
set_option linter.unusedVariables false
set_option linter.unusedSimpArgs false
namespace Go.Proofs.YthhemephaabblaaGreatDoor
open Go.RowKit Go.Proofs.YthhemephaabblaaGreatDoorW.PrintWords Go.Proofs.YthhemephaabblaaGreatDoorW.PrintLast Go.Proofs.YthhemephaabblaaGreatDoorW.PrintMore
open Extern.Stop (cell)
def n8 (x : UInt8) : Int := x.toNat
def Row (w : World) (b : Nat) (L : List Value) (t : TypeId) : Prop := w.heap[b]? = some (.cells L.toArray t (0, 0))
section
variable {w w' : World} {b : Nat} {L : List Value} {t : TypeId}
theorem Row.cell (h : Row w b L t) {k : Nat} {v : Value} (hv : L[k]? = some v) : w.cell? ⟨b, k, none⟩ = some v := by
 rw [cell_of_row w b k _ t _ h]; simpa using hv
theorem Row.lt (h : Row w b L t) : b < w.heap.size := by
 by_cases hh : b < w.heap.size
 ·
  exact hh
 ·
  unfold Row at h; rw [Array.getElem?_eq_none (by omega)] at h; cases h
theorem Row.free (h : Row w b L t) (k : Nat) : w.frozen? ⟨b, k, none⟩ = false := by
 unfold Row at h; simp [World.frozen?, h]
theorem Row.set (h : Row w b L t) (k : Nat) (v : Value) : Row (w.setCell ⟨b, k, none⟩ v) b (L.set k v) t := by
 unfold Row; rw [heap_setCell_same w b k _ t v h, List.setIfInBounds_toArray]
theorem Row.other (h : Row w b L t) (a : Addr) (v : Value) (hne : b ≠ a.block) : Row (w.setCell a v) b L t := by
 unfold Row; rw [heap_setCell_other w a b v hne]; exact h
theorem Row.below {B : Nat} (h : Row w b L t) (hb : Below B w w') (hlt : b < B) : Row w' b L t := by
 unfold Row; rw [hb.block b hlt]; exact h
theorem Row.alloc (w : World) (L : List Value) (t : TypeId) : Row (w.alloc (.cells L.toArray t)) w.heap.size L t := heap_alloc_new _ _
theorem Row.alloc_other (h : Row w b L t) (o : Obj) : Row (w.alloc o) b L t := by
 unfold Row; rw [Below.heap_alloc _ _ _ h.lt]; exact h
theorem below_drewN {B : Nat} {a : World} (h : Below B a w) (n : Nat) : Below B a (w.drewN n) := ⟨h.os, h.tape, h.output, h.size, h.block⟩
theorem Row.drew (h : Row w b L t) : Row w.drew b L t := h
end
structure Only (w : World) (g : Nat) (w' : World) : Prop where
 os : w'.os = w.os
 tape : w'.tape = w.tape
 output : w'.output = w.output
 size : w.heap.size ≤ w'.heap.size
 block : ∀ k, k < w.heap.size → k ≠ g → w'.heap[k]? = w.heap[k]?
theorem Only.set {w w' : World} {g : Nat} (h : Only w g w') (k : Nat) (v : Value) : Only w g (w'.setCell ⟨g, k, none⟩ v) :=
 ⟨h.os, h.tape, h.output, by simpa using h.size, fun j hj hne => by rw [heap_setCell_other _ _ _ _ hne]; exact h.block j hj hne⟩
def ints (xs : List UInt8) : List Int := xs.map n8
theorem ints_length (xs : List UInt8) : (ints xs).length = xs.length := by simp [ints]
def Bs (w : World) (A : Option Addr) (n : Nat) (xs : List UInt8) : Prop := Kd.C (Kd.int .u8) w A n (ints xs)
section
variable {w w' : World} {A : Option Addr} {n : Nat} {xs : List UInt8}
theorem Bs.len (h : Bs w A n xs) : n = xs.length := by have := Kd.C_len h; rw [ints_length] at this; exact this.symm
theorem Bs.below (h : Bs w A n xs) (hb : Below w.heap.size w w') : Bs w' A n xs := Kd.C_below h hb
theorem Bs.cells (h : Bs w A n xs) (hn : 0 < n) : ∃ ad, A = some ad ∧ ∀ j v, (xs.map cell)[j]? = some v → w.cell? (ad.add j) = some v := by
 have hl := h.len
 have hR : ReadsOf (Value.int .u8) (0 : Int) w A n (ints xs) := Kd.reads_of_C (h1 := fun _ => rfl) h
 obtain ⟨ad, e, hc⟩ := hR.2.2 hn
 refine ⟨ad, e, fun j v hv => ?_⟩
 obtain ⟨hj, hv'⟩ := List.getElem?_eq_some_iff.1 hv
 rw [List.length_map] at hj
 rw [hc j (by omega), ← hv']
 simp [ints, List.getD, hj, cell, n8]
theorem Bs.cell (h : Bs w A n xs) (i : Nat) (hi : i < n) : ∃ ad, A = some ad ∧ w.cell? (ad.add i) = some (.int .u8 (n8 (xs.getD i 0))) := by
 have hl := h.len
 obtain ⟨ad, e, hc⟩ := h.cells (by omega)
 refine ⟨ad, e, hc i _ ?_⟩
 have hi' : i < xs.length := by omega
 simp [hi', List.getD, Extern.Stop.cell, n8]
theorem Bs.only {g : Nat} (h : Bs w A n xs) (hO : Only w g w') (hne : ∀ ad, A = some ad → 0 < n → ad.block ≠ g) : Bs w' A n xs :=
 Kd.C_keep (0 : Int) (h1 := fun _ => rfl) h ⟨hO.size, fun i hi hg _ => hO.block i hi hg⟩ hne
theorem Bs.take (h : Bs w A xs.length xs) (m : Nat) (hm : m ≤ xs.length) : Bs w A (xs.take m).length (xs.take m) := by
 have h' : Kd.C (Kd.int .u8) w A (ints xs).length (ints xs) := by rw [ints_length]; exact h
 have := Kd.C_take (m := m) h' (by rw [ints_length]; exact hm)
 have e : (ints xs).take m = ints (xs.take m) := by simp [ints]
 rw [e, ints_length] at this
 exact this
end
theorem Only.refl (w : World) (g : Nat) : Only w g w := ⟨rfl, rfl, rfl, Nat.le_refl _, fun _ _ _ => rfl⟩
theorem Row.setRow {w : World} {b : Nat} {L L' : List Value} {t : TypeId} (h : Row w b L t) : Row (w.setRow b L'.toArray) b L' t := Go.setRow_heap _ _ _ _ _ _ h
theorem info5 : (Tryz.prog.info? 5).map (fun i => (i.zero, i.size, i.bytes)) = some (some (.int .u8 0), 1, 1) := by kernel_rfl
theorem Bs.of_row {w : World} {b : Nat} {xs : List UInt8} {t : TypeId} (h : Row w b (xs.map Extern.Stop.cell) t) (hl : xs.length ≤ 9223372036854775807) : Bs w (some ⟨b, 0, none⟩) xs.length xs := by
 refine Kd.C_of_reads (h1 := fun _ => rfl) (d := (0 : Int)) ⟨ints_length xs, hl, fun hn => ⟨_, rfl, fun j hj => ?_⟩⟩
 have := h.cell (k := j) (v := .int .u8 ((ints xs).getD j 0)) (by simp [ints, List.getD, hj, Extern.Stop.cell, n8])
 rw [show (⟨b, 0, none⟩ : Addr).add j = ⟨b, j, none⟩ by unfold Addr.add; split <;> simp_all]
 exact this
theorem Row.ext {w w' : World} {b : Nat} {L : List Value} {t : TypeId} (h : Row w b L t) (hE : Ext w w') : Row w' b L t := h.below hE h.lt
theorem Bs.ext {w w' : World} {A : Option Addr} {n : Nat} {xs : List UInt8} (h : Bs w A n xs) (hE : Ext w w') : Bs w' A n xs := h.below hE
theorem Bs.row {w : World} {b n : Nat} {xs : List UInt8} {t : TypeId} (h : Row w b (xs.map Extern.Stop.cell) t) (hn : n = xs.length) (hl : xs.length ≤ 9223372036854775807) : Bs w (some ⟨b, 0, none⟩) n xs := by
 subst hn
 exact Bs.of_row h hl
theorem addr_add (b i j : Nat) : (⟨b, i, none⟩ : Addr).add j = ⟨b, i + j, none⟩ := by unfold Addr.add; split <;> simp_all
section
variable {P : Program} {ops : Array Oper} {Q : Exit → Act → World → Prop} {a : Act} {w w1 : World} {rest : List Oper} {dst : Option Tmp} {ty : TypeId} {pos : String} {after : Array Edge} {guard : Option (Nat × Bool)}
end
section
variable {B : Nat} {w w' : World} {v : Value} {xs : List UInt8}
theorem fr_lt {A : Option Addr} {n : Nat} (h : Bs w A n xs) (ad : Addr) (ha : A = some ad) (hn : 0 < n) : ad.block < w.heap.size := by
 obtain ⟨ad', h1, h2⟩ := h.cells hn
 have hl := h.len
 rw [ha] at h1
 cases h1
 have h3 := Go.World.block_lt_of_cell? _ _ (h2 0 _ (by rw [List.getElem?_map, List.getElem?_eq_getElem (by omega : 0 < xs.length)]; rfl))
 rw [add_block] at h3
 exact h3
end
theorem below_ext {w a b : World} (h : Below w.heap.size w a) (k : Ext a b) : Below w.heap.size w b := Ext.below h h.size k
theorem cells_of_bs {w : World} {ad : Addr} {n : Nat} {xs : List UInt8} (h : Bs w (some ad) n xs) : ∀ j u, (xs.map cell)[j]? = some u → w.cell? (ad.add j) = some u := by
 intro j u hu
 have hl := h.len
 have hj := (List.getElem?_eq_some_iff.1 hu).1
 rw [List.length_map] at hj
 obtain ⟨ad', h1, h2⟩ := h.cells (by omega)
 cases h1
 exact h2 j u hu
abbrev Pt := Option Addr × Nat × List UInt8
section
variable {B B' : Nat} {w w' : World} {v : Value} {ls : List Pt}
theorem grown_of_only {g : Nat} (hO : Only w g w') : w.grownBy w' (some g) := ⟨hO.os, hO.tape, hO.output, hO.size, fun k hk hne => hO.block k hk (fun e => hne (by rw [e]))⟩
end
section
variable {ops : Array Oper} {rest : List Oper} {o : Oper} {a : Act} {Q : Exit → Act → World → Prop}
end
theorem exec_append {P : Program} {w : World} {ρ : Operand → Value} {o : Oper} {s x : Operand} {t u : TypeId} (ho : o.op = .call { callee := .builtin .append, args := #[s, x], argTypes := #[t, u] }) {v : Value} {w1 : World}
  (h : (Builtin.append_ #[t, u] o.type #[ρ s, ρ x]).run P w = .ok v w1) : (execOp ρ o).run P w = .ok (.value v) w1 := by
 unfold execOp
 simp only [ho, resolve, invoke, builtin, Sem.run_bind, Sem.run_pure, Result.andThen_ok, List.map_toArray, List.map_cons, List.map_nil, h]
section
variable {ops : Array Oper} {rest : List Oper} {a : Act} {Q : Exit → Act → World → Prop} {dst : Option Tmp} {ty : TypeId} {pos : String} {after : Array Edge} {guard : Option (Nat × Bool)} {w : World}
end
def strB (l : List UInt8) : ByteArray := ⟨l.toArray⟩
theorem strB_size (l : List UInt8) : (strB l).size = l.length := by show l.toArray.size = _; simp
theorem strOf_strB (l : List UInt8) : strOfNums (ints l) = strB l := by
 unfold strOfNums strB ints
 rw [List.map_map]
 have h : l.map ((fun n => UInt8.ofNat n.toNat) ∘ n8) = l := by
  conv => rhs; rw [← List.map_id l]
  exact List.map_congr_left (fun x _ => by simp [n8])
 rw [h]
theorem cell_ext {w w' : World} (hE : Ext w w') {p : Addr} {v : Value} (h : w.cell? p = some v) : w'.cell? p = some v := (hE.cell (Go.World.block_lt_of_cell? _ _ h)).trans h
def Ob (B : Nat) (w : World) (v : Value) (al : List UInt8) : Prop := w.ownsRow B 5 1 v (ints al).length (nums .u8 (ints al))
section
variable {B : Nat} {w w' : World} {v : Value} {al : List UInt8}
theorem Ob.only {g : Nat} (h : Ob B w v al) (hO : Only w g w') (hg : g < B) : Ob B w' v al := World.ownsRow.kept h (grown_of_only hO) (by
 cases hb : v.ownBlock with
 | none => exact .inl rfl
 | some k => exact .inr (fun e => by have := own_base h k hb; injection e with e; omega))
theorem Bs.reads {A : Option Addr} {n : Nat} {xs : List UInt8} (h : Bs w A n xs) : ReadsInt w .u8 A n (ints xs) := by
 have := Kd.reads_of_C (d := (0 : Int)) (h1 := fun _ => rfl) h
 exact this
theorem Bs.one (w : World) (x : UInt8) : Bs (w.alloc (.cells #[.int .u8 (n8 x)] 5)) (some ⟨w.heap.size, 0, none⟩) 1 [x] := Bs.row (Row.alloc w ([x].map Extern.Stop.cell) 5) rfl (by simp)
end
section
variable {P : Program} {ops : Array Oper} {rest : List Oper} {o : Oper} {a : Act} {Q : Exit → Act → World → Prop}
end
theorem cut_cap (t e : TypeId) (kh : IntKind) {i : TypeInfo} (ht : Tryz.prog.underlying t = some (.slice e)) (hi : Tryz.prog.info? e = some i) (A : Option Addr) (n c : Nat) (j : Int) (h0 : 0 ≤ j) (hm : j ≤ c) :
  ∀ W : World, (Instr.slice t (.slice A n c) none (some (.int kh j)) none).run Tryz.prog W = .ok (.slice A j.toNat c) W := by
 intro W
 have hel : Tryz.prog.elem t = e := by simp [Program.elem, ht]
 have hu : Tryz.prog.underlying t = some (.slice (Tryz.prog.elem t)) := by rw [hel]; exact ht
 have ha : (A.map fun x => x.add 0) = A := by cases A <;> simp [Addr.add]
 rw [run_slice_h W t A n c hu kh j h0 (by omega), hel]
 simp [sizeOf, typeInfo, hi, sliced, Result.andThen, ha]
theorem conv_str {w : World} {A : Option Addr} {n c : Nat} {xs : List UInt8} (h : Bs w A n xs) : (convert 95 9 (.slice A n c)).run Tryz.prog w = .ok (.string (strB xs)) w := by
 rw [← strOf_strB]; exact Kd.C_string Tryz.underlying95 Tryz.underlying5 Tryz.underlying9 h
theorem exec_store {w w1 : World} {ρ : Operand → Value} {o : Oper} {t : TypeId} {x y : Operand} (ho : o.op = .store t x y) (h : (Instr.storeAt t (ρ x) (ρ y)).run Tryz.prog w = .ok () w1) : (execOp ρ o).run Tryz.prog w = .ok .skip w1 := by
 unfold execOp; rw [ho]; simp [h]
section
variable {s B : Nat} {q : List UInt8} {i : Nat}
end
end Go.Proofs.YthhemephaabblaaGreatDoor
namespace Go.Proofs.YthhemephaabblaaGreatDoor.Hq
open Go.RowKit Go.Proofs.YthhemephaabblaaGreatDoorW.PrintWords Go.Proofs.YthhemephaabblaaGreatDoorW.PrintLast Go.Proofs.YthhemephaabblaaGreatDoorW.PrintMore Go.Proofs.YthhemephaabblaaGreatDoor
set_option linter.unusedVariables false
set_option linter.unusedSimpArgs false
def isSp (c : UInt8) : Bool := c = 32 ∨ c = 9 ∨ c = 10
def isSm (c : UInt8) : Bool := 97 ≤ c ∧ c ≤ 122
def isDg (c : UInt8) : Bool := 48 ≤ c ∧ c ≤ 57
def isWd (c : UInt8) : Bool := isSm c ∨ isDg c ∨ c = 95
def runEnd (p : UInt8 → Bool) (s : List UInt8) (i : Nat) : Nat := i + ((s.drop i).takeWhile p).length
theorem runEnd_le (p : UInt8 → Bool) (s : List UInt8) (i : Nat) (h : i ≤ s.length) : runEnd p s i ≤ s.length := by
 unfold runEnd
 have := (List.takeWhile_prefix (l := s.drop i) p).length_le
 rw [List.length_drop] at this
 omega
theorem runEnd_more (p : UInt8 → Bool) (s : List UInt8) (i : Nat) (h : i < s.length) (hp : p s[i] = true) : runEnd p s (i + 1) = runEnd p s i := by
 unfold runEnd
 rw [List.drop_eq_getElem_cons h, List.takeWhile_cons_of_pos hp, List.length_cons]
 omega
theorem runEnd_stop (p : UInt8 → Bool) (s : List UInt8) (i : Nat) (h : i < s.length) (hp : p s[i] = false) : runEnd p s i = i := by
 unfold runEnd
 rw [List.drop_eq_getElem_cons h, List.takeWhile_cons_of_neg (by simp [hp])]
 rfl
theorem runEnd_end (p : UInt8 → Bool) (s : List UInt8) : runEnd p s s.length = s.length := by
 unfold runEnd
 rw [List.drop_length]
 rfl
set_option maxRecDepth 100000 in
set_option maxHeartbeats 1600000 in
theorem sp_calls (c : UInt8) (w : World) : Calls Tryz.prog 63 #[.int .u8 (c.toNat : Int)] w fun e w' => e = .returned (.bool (isSp c)) ∧ Ext w w' := by
 have h32 : ((c.toNat : Int) == 32) = decide (c = 32) := by rw [Bool.eq_iff_iff]; simp [← UInt8.toNat_inj]; omega
 have h9 : ((c.toNat : Int) == 9) = decide (c = 9) := by rw [Bool.eq_iff_iff]; simp [← UInt8.toNat_inj]; omega
 have h10 : ((c.toNat : Int) == 10) = decide (c = 10) := by rw [Bool.eq_iff_iff]; simp [← UInt8.toNat_inj]; omega
 by_cases k32 : c = 32
 ·
  subst k32
  go_enter Tryz.func63, Tryz.ntmps63
  go_wp2
  go_ret
  exact ⟨rfl, Ext.refl _⟩
 ·
  by_cases k9 : c = 9
  ·
   subst k9
   go_enter Tryz.func63, Tryz.ntmps63
   go_wp2
   go_ret
   exact ⟨rfl, Ext.refl _⟩
  ·
   have e : isSp c = decide (c = 10) := by simp [isSp, k32, k9]
   simp only [k32, k9, decide_false] at h32 h9
   rw [e]
   go_enter Tryz.func63, Tryz.ntmps63
   go_wp2
   go_ret
   exact ⟨rfl, Ext.refl _⟩
set_option maxRecDepth 100000 in
set_option maxHeartbeats 1600000 in
theorem sm_calls (c : UInt8) (w : World) : Calls Tryz.prog 64 #[.int .u8 (c.toNat : Int)] w fun e w' => e = .returned (.bool (isSm c)) ∧ Ext w w' := by
 by_cases k1 : (97 : Int) ≤ (c.toNat : Int)
 ·
  have e : isSm c = decide ((c.toNat : Int) ≤ 122) := by
   have h1 : (97 : UInt8) ≤ c := UInt8.le_iff_toNat_le.2 (by show 97 ≤ c.toNat; omega)
   have h2 : c ≤ (122 : UInt8) ↔ (c.toNat : Int) ≤ 122 := by rw [UInt8.le_iff_toNat_le]; show c.toNat ≤ 122 ↔ _; omega
   unfold isSm
   simp only [h1, h2, true_and]
  rw [e]
  go_enter Tryz.func64, Tryz.ntmps64
  go_wp2
  go_ret
  exact ⟨rfl, Ext.refl _⟩
 ·
  have e : isSm c = false := by
   have h1 : ¬ (97 : UInt8) ≤ c := fun h => k1 (by have := UInt8.le_iff_toNat_le.1 h; have : 97 ≤ c.toNat := this; omega)
   unfold isSm
   simp only [h1, false_and, decide_false]
  rw [e]
  go_enter Tryz.func64, Tryz.ntmps64
  go_wp2
  go_ret
  exact ⟨rfl, Ext.refl _⟩
set_option maxRecDepth 100000 in
set_option maxHeartbeats 1600000 in
theorem dg_calls (c : UInt8) (w : World) : Calls Tryz.prog 66 #[.int .u8 (c.toNat : Int)] w fun e w' => e = .returned (.bool (isDg c)) ∧ Ext w w' := by
 by_cases k1 : (48 : Int) ≤ (c.toNat : Int)
 ·
  have e : isDg c = decide ((c.toNat : Int) ≤ 57) := by
   have h1 : (48 : UInt8) ≤ c := UInt8.le_iff_toNat_le.2 (by show 48 ≤ c.toNat; omega)
   have h2 : c ≤ (57 : UInt8) ↔ (c.toNat : Int) ≤ 57 := by rw [UInt8.le_iff_toNat_le]; show c.toNat ≤ 57 ↔ _; omega
   unfold isDg
   simp only [h1, h2, true_and]
  rw [e]
  go_enter Tryz.func66, Tryz.ntmps66
  go_wp2
  go_ret
  exact ⟨rfl, Ext.refl _⟩
 ·
  have e : isDg c = false := by
   have h1 : ¬ (48 : UInt8) ≤ c := fun h => k1 (by have := UInt8.le_iff_toNat_le.1 h; have : 48 ≤ c.toNat := this; omega)
   unfold isDg
   simp only [h1, false_and, decide_false]
  rw [e]
  go_enter Tryz.func66, Tryz.ntmps66
  go_wp2
  go_ret
  exact ⟨rfl, Ext.refl _⟩
set_option maxRecDepth 100000 in
set_option maxHeartbeats 1600000 in
theorem wd_calls (c : UInt8) (w : World) : Calls Tryz.prog 65 #[.int .u8 (c.toNat : Int)] w fun e w' => e = .returned (.bool (isWd c)) ∧ Ext w w' := by
 have h95 : ((c.toNat : Int) == 95) = decide (c = 95) := by rw [Bool.eq_iff_iff]; simp [← UInt8.toNat_inj]; omega
 obtain ⟨b1, k1⟩ : ∃ b, b = isSm c := ⟨_, rfl⟩
 obtain ⟨b2, k2⟩ : ∃ b, b = isDg c := ⟨_, rfl⟩
 have c1 := fun W => sm_calls c W
 have c2 := fun W => dg_calls c W
 have e : isWd c = (b1 || (b2 || decide (c = 95))) := by rw [k1, k2]; simp [isWd]
 rw [e]
 simp only [← k1, ← k2] at c1 c2
 clear k1 k2 e
 cases b1 with
 | true =>
  go_enter Tryz.func65, Tryz.ntmps65
  go_wp2_with (first | (go_at_call 64; refine (c1 _).mono ?_; rintro e w1 ⟨rfl, hE1⟩) | (go_at_call 66; refine (c2 _).mono ?_; rintro e w2 ⟨rfl, hE2⟩))
  go_ret
  exact ⟨rfl, hE1⟩
 | false =>
  cases b2 with
  | true =>
   go_enter Tryz.func65, Tryz.ntmps65
   go_wp2_with (first | (go_at_call 64; refine (c1 _).mono ?_; rintro e w1 ⟨rfl, hE1⟩) | (go_at_call 66; refine (c2 _).mono ?_; rintro e w2 ⟨rfl, hE2⟩))
   go_ret
   exact ⟨rfl, hE1.trans hE2⟩
  | false =>
   go_enter Tryz.func65, Tryz.ntmps65
   go_wp2_with (first | (go_at_call 64; refine (c1 _).mono ?_; rintro e w1 ⟨rfl, hE1⟩) | (go_at_call 66; refine (c2 _).mono ?_; rintro e w2 ⟨rfl, hE2⟩))
   go_ret
   exact ⟨rfl, hE1.trans hE2⟩
set_option maxRecDepth 100000 in
set_option maxHeartbeats 1600000 in
theorem run63 (g : Nat) (s : List UInt8) (i : Nat) (w : World) (hc : w.cell? ⟨g, 0, none⟩ = some (.string (strB s))) (hi : i ≤ s.length) (hs : s.length ≤ 1000000000000) :
  Calls Tryz.prog 62 #[.pointer (some ⟨g, 0, none⟩), .int .i64 (i : Int), .func (.func 63) #[] #[]] w fun e w' => e = .returned (.int .i64 (runEnd isSp s i : Int)) ∧ Ext w w' := by
 have hsz := strB_size s
 go_enter Tryz.func62, Tryz.ntmps62
 go_wp2
 go_loopw [1] (fun v wr => ∃ k : Nat, k ≤ s.length ∧ v = .int .i64 k ∧ runEnd isSp s k = runEnd isSp s i ∧ Ext w wr) (fun v _ => s.length - (intOf v).toNat)
 case atStart => exact ⟨i, hi, rfl, rfl, Ext.refl _⟩
 case round =>
  obtain ⟨k, hk, rfl, hr, hE⟩ := hrel
  have hc' := cell_ext hE hc
  have HE := Aside0.mk hE
  have HR := Aside0.mk hr
  clear hE hr
  by_cases hlt : k < s.length
  ·
   have b1 : (k : Int) < s.length := by omega
   obtain ⟨ch, hch⟩ : ∃ c, c = s[k] := ⟨_, rfl⟩
   have hidx : ∀ h : k < (strB s).size, ((strB s)[k]'h).toNat = ch.toNat := fun h => by rw [hch]; rfl
   have c1 := fun W => sp_calls ch W
   obtain ⟨b, hb⟩ : ∃ b, b = isSp ch := ⟨_, rfl⟩
   simp only [← hb] at c1
   rw [hch] at hb
   have HB := Aside0.mk hb
   clear hch hb
   cases b with
   | true =>
    go_wp2_with (go_at_call 63; refine (c1 _).mono ?_; rintro e w1 ⟨rfl, hE1⟩)
    go_roundw
    case rel => exact ⟨k + 1, by omega, rfl, by rw [runEnd_more _ _ _ hlt HB.out.symm]; exact HR.out, HE.out.trans hE1⟩
    case measure => simp [intOf]; omega
   | false =>
    go_wp2_with (go_at_call 63; refine (c1 _).mono ?_; rintro e w1 ⟨rfl, hE1⟩)
    go_ret
    exact ⟨by rw [← HR.out, runEnd_stop _ _ _ hlt HB.out.symm]; rfl, HE.out.trans hE1⟩
  ·
   obtain rfl : k = s.length := by omega
   go_wp2_with fail
   go_ret
   exact ⟨by rw [← HR.out, runEnd_end]; rfl, HE.out⟩
set_option maxRecDepth 100000 in
set_option maxHeartbeats 1600000 in
theorem run65 (g : Nat) (s : List UInt8) (i : Nat) (w : World) (hc : w.cell? ⟨g, 0, none⟩ = some (.string (strB s))) (hi : i ≤ s.length) (hs : s.length ≤ 1000000000000) :
  Calls Tryz.prog 62 #[.pointer (some ⟨g, 0, none⟩), .int .i64 (i : Int), .func (.func 65) #[] #[]] w fun e w' => e = .returned (.int .i64 (runEnd isWd s i : Int)) ∧ Ext w w' := by
 have hsz := strB_size s
 go_enter Tryz.func62, Tryz.ntmps62
 go_wp2
 go_loopw [1] (fun v wr => ∃ k : Nat, k ≤ s.length ∧ v = .int .i64 k ∧ runEnd isWd s k = runEnd isWd s i ∧ Ext w wr) (fun v _ => s.length - (intOf v).toNat)
 case atStart => exact ⟨i, hi, rfl, rfl, Ext.refl _⟩
 case round =>
  obtain ⟨k, hk, rfl, hr, hE⟩ := hrel
  have hc' := cell_ext hE hc
  have HE := Aside0.mk hE
  have HR := Aside0.mk hr
  clear hE hr
  by_cases hlt : k < s.length
  ·
   have b1 : (k : Int) < s.length := by omega
   obtain ⟨ch, hch⟩ : ∃ c, c = s[k] := ⟨_, rfl⟩
   have hidx : ∀ h : k < (strB s).size, ((strB s)[k]'h).toNat = ch.toNat := fun h => by rw [hch]; rfl
   have c1 := fun W => wd_calls ch W
   obtain ⟨b, hb⟩ : ∃ b, b = isWd ch := ⟨_, rfl⟩
   simp only [← hb] at c1
   rw [hch] at hb
   have HB := Aside0.mk hb
   clear hch hb
   cases b with
   | true =>
    go_wp2_with (go_at_call 65; refine (c1 _).mono ?_; rintro e w1 ⟨rfl, hE1⟩)
    go_roundw
    case rel => exact ⟨k + 1, by omega, rfl, by rw [runEnd_more _ _ _ hlt HB.out.symm]; exact HR.out, HE.out.trans hE1⟩
    case measure => simp [intOf]; omega
   | false =>
    go_wp2_with (go_at_call 65; refine (c1 _).mono ?_; rintro e w1 ⟨rfl, hE1⟩)
    go_ret
    exact ⟨by rw [← HR.out, runEnd_stop _ _ _ hlt HB.out.symm]; rfl, HE.out.trans hE1⟩
  ·
   obtain rfl : k = s.length := by omega
   go_wp2_with fail
   go_ret
   exact ⟨by rw [← HR.out, runEnd_end]; rfl, HE.out⟩
set_option maxRecDepth 100000 in
set_option maxHeartbeats 1600000 in
theorem run66 (g : Nat) (s : List UInt8) (i : Nat) (w : World) (hc : w.cell? ⟨g, 0, none⟩ = some (.string (strB s))) (hi : i ≤ s.length) (hs : s.length ≤ 1000000000000) :
  Calls Tryz.prog 62 #[.pointer (some ⟨g, 0, none⟩), .int .i64 (i : Int), .func (.func 66) #[] #[]] w fun e w' => e = .returned (.int .i64 (runEnd isDg s i : Int)) ∧ Ext w w' := by
 have hsz := strB_size s
 go_enter Tryz.func62, Tryz.ntmps62
 go_wp2
 go_loopw [1] (fun v wr => ∃ k : Nat, k ≤ s.length ∧ v = .int .i64 k ∧ runEnd isDg s k = runEnd isDg s i ∧ Ext w wr) (fun v _ => s.length - (intOf v).toNat)
 case atStart => exact ⟨i, hi, rfl, rfl, Ext.refl _⟩
 case round =>
  obtain ⟨k, hk, rfl, hr, hE⟩ := hrel
  have hc' := cell_ext hE hc
  have HE := Aside0.mk hE
  have HR := Aside0.mk hr
  clear hE hr
  by_cases hlt : k < s.length
  ·
   have b1 : (k : Int) < s.length := by omega
   obtain ⟨ch, hch⟩ : ∃ c, c = s[k] := ⟨_, rfl⟩
   have hidx : ∀ h : k < (strB s).size, ((strB s)[k]'h).toNat = ch.toNat := fun h => by rw [hch]; rfl
   have c1 := fun W => dg_calls ch W
   obtain ⟨b, hb⟩ : ∃ b, b = isDg ch := ⟨_, rfl⟩
   simp only [← hb] at c1
   rw [hch] at hb
   have HB := Aside0.mk hb
   clear hch hb
   cases b with
   | true =>
    go_wp2_with (go_at_call 66; refine (c1 _).mono ?_; rintro e w1 ⟨rfl, hE1⟩)
    go_roundw
    case rel => exact ⟨k + 1, by omega, rfl, by rw [runEnd_more _ _ _ hlt HB.out.symm]; exact HR.out, HE.out.trans hE1⟩
    case measure => simp [intOf]; omega
   | false =>
    go_wp2_with (go_at_call 66; refine (c1 _).mono ?_; rintro e w1 ⟨rfl, hE1⟩)
    go_ret
    exact ⟨by rw [← HR.out, runEnd_stop _ _ _ hlt HB.out.symm]; rfl, HE.out.trans hE1⟩
  ·
   obtain rfl : k = s.length := by omega
   go_wp2_with fail
   go_ret
   exact ⟨by rw [← HR.out, runEnd_end]; rfl, HE.out⟩
end Go.Proofs.YthhemephaabblaaGreatDoor.Hq
namespace Go.Proofs.YthhemephaabblaaGreatDoor.Q
open Go.RowKit  Go.Proofs.YthhemephaabblaaGreatDoorW.PrintWords Go.Proofs.YthhemephaabblaaGreatDoorW.PrintLast Go.Proofs.YthhemephaabblaaGreatDoorW.PrintMore
attribute [local go_sem] max2_int min2_int max_two min_two max_three min_three max_four min_four
set_option linter.unusedVariables false
set_option linter.unusedSimpArgs false
def errW : Option Int → Value
 | none => .nilIface
 | some c => .iface 131 (.int .i64 c)
theorem errW_none : errW none = .nilIface := rfl
theorem errW_some (c : Int) : errW (some c) = .iface 131 (.int .i64 c) := rfl
theorem info3 : (Tryz.prog.info? 3).map (fun i => (i.zero, i.size, i.bytes)) = some (some (.int .i64 0), 1, 8) := by kernel_rfl
theorem info5 : (Tryz.prog.info? 5).map (fun i => (i.zero, i.size, i.bytes)) = some (some (.int .u8 0), 1, 1) := by kernel_rfl
theorem info9 : (Tryz.prog.info? 9).map (fun i => (i.zero, i.size, i.bytes)) = some (some (.string ⟨#[]⟩), 1, 16) := by kernel_rfl
structure S37 where
 f0 : ByteArray
 f1 : Int
 f2 : ByteArray
def z37 : S37 := ⟨(⟨#[]⟩ : ByteArray), (0 : Int), (⟨#[]⟩ : ByteArray)⟩
def k37 : Kd S37 := Kd.iso (Kd.pair Kd.string (Kd.pair (Kd.int .i64) Kd.string)) (fun x : S37 => (x.f0, x.f1, x.f2))
theorem k37_open {w : World} {x : S37} {cs : List Value} (h : k37.K w x cs) : cs = [.string x.f0, .int .i64 x.f1, .string x.f2] := by
 obtain ⟨_, _, rfl, rfl, ⟨_, _, rfl, rfl, rfl⟩⟩ := h
 exact rfl
theorem k37_mk (w : World) (x : S37)  : k37.K w x [.string x.f0, .int .i64 x.f1, .string x.f2] := ⟨[.string x.f0], [.int .i64 x.f1, .string x.f2], rfl, rfl, ⟨[.int .i64 x.f1], [.string x.f2], rfl, rfl, rfl⟩⟩
def rd_T37 (xs : List S37) (i : Int) : S37 := xs.getD i.toNat z37
theorem at_T37 {w : World} {A : Option Addr} {n : Nat} {xs : List S37} (h : Kd.C k37 w A n xs) (i : Int) (h0 : 0 ≤ i) (h1 : i < n) : ∃ ad , A = some ad ∧ w.cell? (ad.add (i.toNat * 3)) = some (.string (rd_T37 xs i).f0) ∧ w.cell? ⟨(ad.add (i.toNat * 3)).block, (ad.add (i.toNat * 3)).off + 1, none⟩ = some (.int .i64 (rd_T37 xs i).f1) ∧ w.cell? ⟨(ad.add (i.toNat * 3)).block, (ad.add (i.toNat * 3)).off + 2, none⟩ = some (.string (rd_T37 xs i).f2) := by
 obtain ⟨ad, c, e, _, hK, hc0⟩ := Kd.C_get h z37 i h0 h1
 have hc : ∀ j u, c[j]? = some u → w.cell? (ad.add (i.toNat * 3 + j)) = some u := hc0
 obtain rfl := k37_open hK
 exact ⟨ad, e, hc 0 _ rfl, by rw [← add_field _ _ 1 (by omega)]; exact hc 1 _ rfl, by rw [← add_field _ _ 2 (by omega)]; exact hc 2 _ rfl⟩
structure S70 where
 f0 : ByteArray
 f1 : Int
 f2 : ByteArray
def z70 : S70 := ⟨(⟨#[]⟩ : ByteArray), (0 : Int), (⟨#[]⟩ : ByteArray)⟩
def k70 : Kd S70 := Kd.iso (Kd.pair Kd.string (Kd.pair (Kd.int .i64) Kd.string)) (fun x : S70 => (x.f0, x.f1, x.f2))
theorem k70_open {w : World} {x : S70} {cs : List Value} (h : k70.K w x cs) : cs = [.string x.f0, .int .i64 x.f1, .string x.f2] := by
 obtain ⟨_, _, rfl, rfl, ⟨_, _, rfl, rfl, rfl⟩⟩ := h
 exact rfl
theorem k70_mk (w : World) (x : S70)  : k70.K w x [.string x.f0, .int .i64 x.f1, .string x.f2] := ⟨[.string x.f0], [.int .i64 x.f1, .string x.f2], rfl, rfl, ⟨[.int .i64 x.f1], [.string x.f2], rfl, rfl, rfl⟩⟩
def rd_T70 (xs : List S70) (i : Int) : S70 := xs.getD i.toNat z70
theorem at_T70 {w : World} {A : Option Addr} {n : Nat} {xs : List S70} (h : Kd.C k70 w A n xs) (i : Int) (h0 : 0 ≤ i) (h1 : i < n) : ∃ ad , A = some ad ∧ w.cell? (ad.add (i.toNat * 3)) = some (.string (rd_T70 xs i).f0) ∧ w.cell? ⟨(ad.add (i.toNat * 3)).block, (ad.add (i.toNat * 3)).off + 1, none⟩ = some (.int .i64 (rd_T70 xs i).f1) ∧ w.cell? ⟨(ad.add (i.toNat * 3)).block, (ad.add (i.toNat * 3)).off + 2, none⟩ = some (.string (rd_T70 xs i).f2) := by
 obtain ⟨ad, c, e, _, hK, hc0⟩ := Kd.C_get h z70 i h0 h1
 have hc : ∀ j u, c[j]? = some u → w.cell? (ad.add (i.toNat * 3 + j)) = some u := hc0
 obtain rfl := k70_open hK
 exact ⟨ad, e, hc 0 _ rfl, by rw [← add_field _ _ 1 (by omega)]; exact hc 1 _ rfl, by rw [← add_field _ _ 2 (by omega)]; exact hc 2 _ rfl⟩
def rd_L6 (xs : List (List Int)) (i : Int) : (List Int) := xs.getD i.toNat ([] : List Int)
theorem at_L6 {w : World} {A : Option Addr} {n : Nat} {xs : List (List Int)} (h : Kd.C (Kd.slice 3 (Kd.int .i64)) w A n xs) (i : Int) (h0 : 0 ≤ i) (h1 : i < n) : ∃ ad A0 c0, A = some ad ∧ w.cell? (ad.add i.toNat) = some (.slice A0 (rd_L6 xs i).length c0) ∧ (rd_L6 xs i).length ≤ c0 ∧ (Kd.int .i64).C w A0 (rd_L6 xs i).length (rd_L6 xs i) := by
 obtain ⟨ad, c, e, _, hK, hc0⟩ := Kd.C_get h ([] : List Int) i h0 h1
 have hc : ∀ j u, c[j]? = some u → w.cell? (ad.add (i.toNat * 1 + j)) = some u := hc0
 obtain ⟨A0, c0, rfl, l0, g0⟩ := hK
 exact ⟨ad, A0, c0, e, by have hq := hc 0 _ rfl; rwa [Nat.mul_one, Nat.add_zero] at hq, l0, g0⟩
end Go.Proofs.YthhemephaabblaaGreatDoor.Q
namespace Go.Proofs.YthhemephaabblaaGreatDoor.Q
open Go.RowKit  Go.Proofs.YthhemephaabblaaGreatDoorW.PrintWords Go.Proofs.YthhemephaabblaaGreatDoorW.PrintLast Go.Proofs.YthhemephaabblaaGreatDoorW.PrintMore
attribute [local go_sem] max2_int min2_int max_two min_two max_three min_three max_four min_four
set_option linter.unusedVariables false
set_option linter.unusedSimpArgs false
def query_operators.f  : Option (List ByteArray) := some (([(⟨#[61]⟩ : ByteArray), (⟨#[33, 61]⟩ : ByteArray), (⟨#[60]⟩ : ByteArray), (⟨#[60, 61]⟩ : ByteArray), (⟨#[62]⟩ : ByteArray), (⟨#[62, 61]⟩ : ByteArray)] : List ByteArray))
set_option maxHeartbeats 8000000 in
set_option maxRecDepth 100000 in
theorem query_operators.calls  (r : List ByteArray) (w : World) (h : query_operators.f  = some r) :
  Calls Tryz.prog 30 #[] w fun e w' => ∃ v0_ : Value, e = .returned (v0_) ∧ Kd.R Kd.string 9 w' w.heap.size (fun _ => True) v0_ r ∧ Below w.heap.size w w' := by
 have HB := Aside0.mk (Below.refl w.heap.size w)
 have H : (some (([(⟨#[61]⟩ : ByteArray), (⟨#[33, 61]⟩ : ByteArray), (⟨#[60]⟩ : ByteArray), (⟨#[60, 61]⟩ : ByteArray), (⟨#[62]⟩ : ByteArray), (⟨#[62, 61]⟩ : ByteArray)] : List ByteArray))) = some r := h
 clear h
 obtain ⟨y101, hy101⟩ : ∃ y_ : List ByteArray, y_ = (([(⟨#[61]⟩ : ByteArray), (⟨#[33, 61]⟩ : ByteArray), (⟨#[60]⟩ : ByteArray), (⟨#[60, 61]⟩ : ByteArray), (⟨#[62]⟩ : ByteArray), (⟨#[62, 61]⟩ : ByteArray)] : List ByteArray)) := ⟨_, rfl⟩
 replace H : (some y101) = some r := by first | (rw [hy101]; with_reducible exact H) | (have H2_ := (Option.bind_some _ _).symm.trans H; rw [hy101]; with_reducible exact H2_) | (have H2_ := (Option.bind_some _ _).symm.trans H; with_reducible exact H2_) | with_reducible exact H | (rw [hy101]; exact H) | exact H
 have Ny101 := Aside0.mk hy101
 clear hy101
 obtain rfl := Option.some.inj H
 go_enter Tryz.func30, Tryz.ntmps30
 go_wp2_with (first | ((with_reducible refine gate_dst (N := 1) rfl ?_); refine Kd.R_lit Kd.string _ 9 ?hg (N := 1) ?hd (xs := ([(⟨#[61]⟩ : ByteArray), (⟨#[33, 61]⟩ : ByteArray), (⟨#[60]⟩ : ByteArray), (⟨#[60, 61]⟩ : ByteArray), (⟨#[62]⟩ : ByteArray), (⟨#[62, 61]⟩ : ByteArray)] : List ByteArray)) (inner := [.string (⟨#[61]⟩ : ByteArray), .string (⟨#[33, 61]⟩ : ByteArray), .string (⟨#[60]⟩ : ByteArray), .string (⟨#[60, 61]⟩ : ByteArray), .string (⟨#[62]⟩ : ByteArray), .string (⟨#[62, 61]⟩ : ByteArray)]) (ok := fun _ => True) (okp := fun _ => True) ?hr ?hp (fun _ hk => hk) trivial (Below.refl _ _) (Nat.le_refl _) (by simp) ?_; (case hd => rfl); (case hg => rfl); (case hr => first | (go_simp; done) | (go_simp; rfl)); (case hp => exact (Reps.one (show Kd.M Kd.string _ _ _ (⟨#[61]⟩ : ByteArray) [.string (⟨#[61]⟩ : ByteArray)] from rfl) (Reps.one (show Kd.M Kd.string _ _ _ (⟨#[33, 61]⟩ : ByteArray) [.string (⟨#[33, 61]⟩ : ByteArray)] from rfl) (Reps.one (show Kd.M Kd.string _ _ _ (⟨#[60]⟩ : ByteArray) [.string (⟨#[60]⟩ : ByteArray)] from rfl) (Reps.one (show Kd.M Kd.string _ _ _ (⟨#[60, 61]⟩ : ByteArray) [.string (⟨#[60, 61]⟩ : ByteArray)] from rfl) (Reps.one (show Kd.M Kd.string _ _ _ (⟨#[62]⟩ : ByteArray) [.string (⟨#[62]⟩ : ByteArray)] from rfl) (Reps.one (show Kd.M Kd.string _ _ _ (⟨#[62, 61]⟩ : ByteArray) [.string (⟨#[62, 61]⟩ : ByteArray)] from rfl) (Reps.none _ _)))))))); intro v102 w1 ho2 hb hg_ hnew_; clear hg_ hnew_; (first | rw [← Ny101.out] at ho2 | (simp only [Int.reduceToNat] at ho2; rw [← Ny101.out] at ho2)); have n0_ := Aside0.mk (Kd.R_lower ho2 (below_size (by repeat (first | (with_reducible first | exact HB.out | apply below_alloc | apply pw_below_drewN | apply below_drew1) | exact HB.out)))); have n1_ := Aside0.mk (below_step (by repeat (first | (with_reducible first | exact HB.out | apply below_alloc | apply pw_below_drewN | apply below_drew1) | exact HB.out)) hb); clear HB; have HO103 := n0_; have HB := n1_; clear n0_ n1_; clear hb ho2))
 go_ret
 exact ⟨_, by first | rfl | (simp [errW_none, errW_some] <;> rfl) | (simp [*, errW_none, errW_some] <;> rfl), by (with_reducible repeat (first | apply Kd.R_alloc | apply Kd.R_drewN | apply Kd.R_drew)); exact HO103.out, by repeat (first | (with_reducible first | exact HB.out | apply below_alloc | apply pw_below_drewN | apply below_drew1) | exact HB.out)⟩
def query_small.f (a0 : Int) : Option (Bool) := if 97 ≤ a0 then (some (decide (a0 ≤ 122))) else (some false)
set_option maxHeartbeats 8000000 in
set_option maxRecDepth 100000 in
theorem query_small.calls (a0 : Int) (r : Bool) (w : World) (h : query_small.f a0 = some r) :
  Calls Tryz.prog 64 #[.int .u8 a0] w fun e w' => e = .returned (.bool r) ∧ Drawn0 w w' := by
 have H : (if 97 ≤ a0 then (some (decide (a0 ≤ 122))) else (some false)) = some r := h
 clear h
 by_cases c2 : 97 ≤ a0
 ·
  rw [if_pos c2] at H
  have c2b0 : decide (97 ≤ a0) = true := decide_eq_true c2
  clear c2
  obtain rfl := Option.some.inj H
  go_enter Tryz.func64, Tryz.ntmps64
  go_wp2
  go_ret
  exact ⟨by first | rfl | (simp; done) | (simp [*]; done), by repeat (first | exact Drawn0.refl _ | apply Drawn0.step)⟩
 ·
  rw [if_neg c2] at H
  have c2b0 : decide (97 ≤ a0) = false := decide_eq_false c2
  clear c2
  obtain rfl := Option.some.inj H
  go_enter Tryz.func64, Tryz.ntmps64
  go_wp2
  go_ret
  exact ⟨by first | rfl | (simp; done) | (simp [*]; done), by repeat (first | exact Drawn0.refl _ | apply Drawn0.step)⟩
def query_digit.f (a0 : Int) : Option (Bool) := if 48 ≤ a0 then (some (decide (a0 ≤ 57))) else (some false)
set_option maxHeartbeats 8000000 in
set_option maxRecDepth 100000 in
theorem query_digit.calls (a0 : Int) (r : Bool) (w : World) (h : query_digit.f a0 = some r) :
  Calls Tryz.prog 66 #[.int .u8 a0] w fun e w' => e = .returned (.bool r) ∧ Drawn0 w w' := by
 have H : (if 48 ≤ a0 then (some (decide (a0 ≤ 57))) else (some false)) = some r := h
 clear h
 by_cases c2 : 48 ≤ a0
 ·
  rw [if_pos c2] at H
  have c2b0 : decide (48 ≤ a0) = true := decide_eq_true c2
  clear c2
  obtain rfl := Option.some.inj H
  go_enter Tryz.func66, Tryz.ntmps66
  go_wp2
  go_ret
  exact ⟨by first | rfl | (simp; done) | (simp [*]; done), by repeat (first | exact Drawn0.refl _ | apply Drawn0.step)⟩
 ·
  rw [if_neg c2] at H
  have c2b0 : decide (48 ≤ a0) = false := decide_eq_false c2
  clear c2
  obtain rfl := Option.some.inj H
  go_enter Tryz.func66, Tryz.ntmps66
  go_wp2
  go_ret
  exact ⟨by first | rfl | (simp; done) | (simp [*]; done), by repeat (first | exact Drawn0.refl _ | apply Drawn0.step)⟩
mutual
def query_named.j0 : Nat → ByteArray → Bool → Option (Bool)
 | 0, _, _ => none
 | k + 1, x0, x16 => if x16 = true then (some false) else (query_named.l0 k x0 1)
def query_named.l0 : Nat → ByteArray → Int → Option (Bool)
 | 0, _, _ => none
 | k + 1, x0, x3 => if x3 < (x0.size : Int) then (if 0 ≤ x3 then ((query_small.f (bt x0 x3)).bind fun t105 => (if t105 = true then (query_named.l0 k x0 (wrap64 (x3 + 1))) else ((query_digit.f (bt x0 x3)).bind fun t106 => (if t106 = true then (query_named.l0 k x0 (wrap64 (x3 + 1))) else (if (bt x0 x3) = 95 then (query_named.l0 k x0 (wrap64 (x3 + 1))) else (some false)))))) else (none)) else (some true)
end
def query_named.f (k : Nat) (a0 : ByteArray) : Option (Bool) := if a0.toList = ([] : List UInt8) then (query_named.j0 k a0 true) else (if (a0.size : Int) > 16 then (query_named.j0 k a0 true) else (if 0 < (a0.size : Int) then ((query_small.f (bt a0 0)).bind fun t104 => (query_named.j0 k a0 (!t104))) else (none)))
set_option maxHeartbeats 8000000 in
set_option maxRecDepth 100000 in
theorem query_named.calls (k : Nat) (a0 : ByteArray) (r : Bool) (w : World) (h : query_named.f k a0 = some r) :
  Calls Tryz.prog 49 #[.string a0] w fun e w' => e = .returned (.bool r) ∧ Drawn0 w w' := by
 have H : (if a0.toList = ([] : List UInt8) then (query_named.j0 k a0 true) else (if (a0.size : Int) > 16 then (query_named.j0 k a0 true) else (if 0 < (a0.size : Int) then ((query_small.f (bt a0 0)).bind fun t104 => (query_named.j0 k a0 (!t104))) else (none)))) = some r := h
 clear h
 have HC2 := Aside0.mk H
 clear H
 go_enter Tryz.func49, Tryz.ntmps49
 go_upto_region 1 with (fail)
 go_cut [16] (fun v16 wc => ∃ (kq : Nat) (x16_1 : Bool), v16 = .bool x16_1 ∧ Aside0 (query_named.j0 kq a0 x16_1 = some r) ∧ Aside0 (kq ≤ k) ∧ Drawn0 w wc)
 case first =>
  have H := HC2.out
  clear HC2
  by_cases c3 : a0.toList = ([] : List UInt8)
  ·
   rw [if_pos c3] at H
   have c3b0 : (a0.toList == ([] : List UInt8)) = true := beq_iff_eq.mpr c3
   have c3b1 : (a0.toList != ([] : List UInt8)) = false := bne_eq_false_iff_eq.mpr c3
   clear c3
   (first | rw [c3b0] | (simp only [i64_w, i32_w]; rw [c3b0]) | skip)
   have H' := Aside0.mk H
   clear H
   go_wp2
   go_meet
   case rel => exact ⟨_, (true), (by first | rfl | (simp; done) | (simp [*]; done)), H', ⟨by first | omega | exact Nat.le_refl _⟩, by repeat (first | exact Drawn0.refl _ | apply Drawn0.step)⟩
  ·
   rw [if_neg c3] at H
   have c3b0 : (a0.toList == ([] : List UInt8)) = false := beq_eq_false_iff_ne.mpr c3
   have c3b1 : (a0.toList != ([] : List UInt8)) = true := bne_iff_ne.mpr c3
   (first | rw [c3b0] | (simp only [i64_w, i32_w]; rw [c3b0]) | skip)
   by_cases c4 : (a0.size : Int) > 16
   ·
    rw [if_pos c4] at H
    have c4b0 : decide (16 < (a0.size : Int)) = true := decide_eq_true c4
    have c4b1 : decide (16 < a0.size) = true := decide_eq_true (by omega)
    clear c4
    have H' := Aside0.mk H
    clear H
    go_wp2
    go_meet
    case rel => exact ⟨_, (true), (by first | rfl | (simp; done) | (simp [*]; done)), H', ⟨by first | omega | exact Nat.le_refl _⟩, by repeat (first | exact Drawn0.refl _ | apply Drawn0.step)⟩
   ·
    rw [if_neg c4] at H
    have c4b0 : decide (16 < (a0.size : Int)) = false := decide_eq_false c4
    have c4b1 : decide (16 < a0.size) = false := decide_eq_false (by omega)
    clear c4
    by_cases c5 : 0 < (a0.size : Int)
    ·
     rw [if_pos c5] at H
     have c5b0 : decide (0 < (a0.size : Int)) = true := decide_eq_true c5
     have c5b1 : decide (0 < a0.size) = true := decide_eq_true (by omega)
     clear c5
     replace H := Option.bind_eq_some_iff.mp H
     obtain ⟨t104, A70, H⟩ := H
     replace H : (query_named.j0 k a0 (!t104)) = some r := H
     have A7 := Aside0.mk A70
     clear A70
     have H' := Aside0.mk H
     clear H
     have p6 : 0 ≤ (0 : Int) := (by omega)
     have q6 : 0 < a0.size := (by have : (0 : Int) < (a0.size : Int) := of_decide_eq_true (by first | (with_reducible assumption) | assumption); omega)
     have hx6 : ∀ h : 0 < a0.size, ((a0[0]'h).toNat : Int) = bt a0 0 := bt_at a0 0
     clear p6
     have qi6 : (0 < (a0.size : Int)) = True := eq_true (of_decide_eq_true (by first | (with_reducible assumption) | assumption))
     replace q6 := eq_true q6
     go_wp2_with (first | (go_at_call 64; (with_reducible refine (query_small.calls (bt a0 0) t104 _ A7.out).mono ?_); rintro e w' ⟨rfl, ⟨nd, rfl⟩⟩))
     go_meet
     case rel => exact ⟨_, (!t104), (by first | rfl | (simp; done) | (simp [*]; done)), H', ⟨by first | omega | exact Nat.le_refl _⟩, by repeat (first | exact Drawn0.refl _ | apply Drawn0.step)⟩
    ·
     rw [if_neg c5] at H
     exact absurd H (by simp)
 case rest =>
  clear HC2
  obtain ⟨kq, x16_1, rfl, HA, HJ1, ⟨mc1, rfl⟩⟩ := hcut
  cases kq with
  | zero => exact absurd HA.out (by simp [query_named.j0])
  | succ kj1 =>
   have H := HA.out
   clear HA
   simp only [query_named.j0] at H
   by_cases c8 : x16_1 = true
   ·
    subst c8
    have H1 : (some false) = some r := by rw [if_pos rfl] at H; exact H
    clear H
    have H := H1
    clear H1
    obtain rfl := Option.some.inj H
    go_wp2
    go_ret
    exact ⟨by first | rfl | (simp; done) | (simp [*]; done), by repeat (first | exact Drawn0.refl _ | apply Drawn0.step)⟩
   ·
    replace c8 := Bool.eq_false_iff.mpr c8
    subst c8
    have H1 : (query_named.l0 kj1 a0 1) = some r := by rw [if_neg (show ¬ (false = true) by decide)] at H; exact H
    clear H
    have H := H1
    clear H1
    have H' := Aside0.mk H
    clear H
    go_wp2
    go_loopg [3] kj1 (fun kq v3 w' => ∃ (x3_2 : Int), v3 = .int .i64 x3_2 ∧ Aside0 (query_named.l0 kq a0 x3_2 = some r) ∧ Aside0 (kq ≤ kj1) ∧ Drawn0 w w')
    case atStart => exact ⟨(1), (by first | rfl | (simp; done) | (simp [*]; done)), H', ⟨Nat.le_refl _⟩, by repeat (first | exact Drawn0.refl _ | apply Drawn0.step)⟩
    case round =>
     clear H'
     try clear c8
     obtain ⟨x3_2, rfl, HA, HK2, ⟨m2, rfl⟩⟩ := hrel
     cases gk with
     | zero => exact absurd HA.out (by simp [query_named.l0])
     | succ k2 =>
      have H := HA.out
      clear HA
      simp only [query_named.l0] at H
      by_cases c9 : x3_2 < (a0.size : Int)
      ·
       rw [if_pos c9] at H
       have c9b0 : decide (x3_2 < (a0.size : Int)) = true := decide_eq_true c9
       clear c9
       by_cases c10 : 0 ≤ x3_2
       ·
        rw [if_pos c10] at H
        have c10b0 : decide (0 ≤ x3_2) = true := decide_eq_true c10
        clear c10
        replace H := Option.bind_eq_some_iff.mp H
        obtain ⟨t105, A120, H⟩ := H
        replace H : (if t105 = true then (query_named.l0 k2 a0 (wrap64 (x3_2 + 1))) else ((query_digit.f (bt a0 x3_2)).bind fun t106 => (if t106 = true then (query_named.l0 k2 a0 (wrap64 (x3_2 + 1))) else (if (bt a0 x3_2) = 95 then (query_named.l0 k2 a0 (wrap64 (x3_2 + 1))) else (some false))))) = some r := H
        have A12 := Aside0.mk A120
        clear A120
        by_cases c13 : t105 = true
        ·
         subst c13
         have H1 : (query_named.l0 k2 a0 (wrap64 (x3_2 + 1))) = some r := by rw [if_pos rfl] at H; exact H
         clear H
         have H := H1
         clear H1
         have H' := Aside0.mk H
         clear H
         have p11 : 0 ≤ (x3_2 : Int) := of_decide_eq_true (by first | (with_reducible assumption) | assumption)
         have q11 : x3_2 < (a0.size : Int) := of_decide_eq_true (by first | (with_reducible assumption) | assumption)
         have hx11 := bt_at a0 x3_2
         replace p11 := eq_true p11
         replace q11 := eq_true q11
         go_wp2_with (first | ((with_reducible refine gate_callee (f := 64) rfl ?_); refine goesL_ (some 26) rfl rfl Tryz.func64 (by kernel_rfl) rfl #[.int .u8 (bt a0 x3_2)] rfl (by (try simp only [List.map_toArray, List.map_cons, List.map_nil]); first | done | rfl | (simp only [List.length_drop, List.length_take]; rfl)) ?_; (with_reducible refine (query_small.calls (bt a0 x3_2) true _ A12.out).mono ?_); rintro e w' ⟨rfl, ⟨nd, rfl⟩⟩; refine ⟨_, rfl, ?_⟩))
         go_roundg k2
         case measure => have := HJ1.out; have := HK2.out; omega
         case rel => exact ⟨(wrap64 (x3_2 + 1)), (by first | rfl | (simp; done) | (simp [*]; done)), H', ⟨by have := HJ1.out; have := HK2.out; omega⟩, by repeat (first | exact Drawn0.refl _ | apply Drawn0.step)⟩
        ·
         replace c13 := Bool.eq_false_iff.mpr c13
         subst c13
         have H1 : ((query_digit.f (bt a0 x3_2)).bind fun t106 => (if t106 = true then (query_named.l0 k2 a0 (wrap64 (x3_2 + 1))) else (if (bt a0 x3_2) = 95 then (query_named.l0 k2 a0 (wrap64 (x3_2 + 1))) else (some false)))) = some r := by rw [if_neg (show ¬ (false = true) by decide)] at H; exact H
         clear H
         have H := H1
         clear H1
         replace H := Option.bind_eq_some_iff.mp H
         obtain ⟨t106, A150, H⟩ := H
         replace H : (if t106 = true then (query_named.l0 k2 a0 (wrap64 (x3_2 + 1))) else (if (bt a0 x3_2) = 95 then (query_named.l0 k2 a0 (wrap64 (x3_2 + 1))) else (some false))) = some r := H
         have A15 := Aside0.mk A150
         clear A150
         by_cases c16 : t106 = true
         ·
          subst c16
          have H1 : (query_named.l0 k2 a0 (wrap64 (x3_2 + 1))) = some r := by rw [if_pos rfl] at H; exact H
          clear H
          have H := H1
          clear H1
          have H' := Aside0.mk H
          clear H
          have p11 : 0 ≤ (x3_2 : Int) := of_decide_eq_true (by first | (with_reducible assumption) | assumption)
          have q11 : x3_2 < (a0.size : Int) := of_decide_eq_true (by first | (with_reducible assumption) | assumption)
          have hx11 := bt_at a0 x3_2
          replace p11 := eq_true p11
          replace q11 := eq_true q11
          go_wp2_with (first | ((with_reducible refine gate_callee (f := 64) rfl ?_); refine goesL_ (some 26) rfl rfl Tryz.func64 (by kernel_rfl) rfl #[.int .u8 (bt a0 x3_2)] rfl (by (try simp only [List.map_toArray, List.map_cons, List.map_nil]); first | done | rfl | (simp only [List.length_drop, List.length_take]; rfl)) ?_; (with_reducible refine (query_small.calls (bt a0 x3_2) false _ A12.out).mono ?_); rintro e w' ⟨rfl, ⟨nd, rfl⟩⟩; refine ⟨_, rfl, ?_⟩; have p14 : 0 ≤ (x3_2 : Int) := of_decide_eq_true (by first | (with_reducible assumption) | assumption); have q14 : x3_2 < (a0.size : Int) := of_decide_eq_true (by first | (with_reducible assumption) | assumption); have hx14 := bt_at a0 x3_2; replace p14 := eq_true p14; replace q14 := eq_true q14) | (go_at_call 66; (with_reducible refine (query_digit.calls (bt a0 x3_2) true _ A15.out).mono ?_); rintro e w' ⟨rfl, ⟨nd, rfl⟩⟩))
          go_roundg k2
          case measure => have := HJ1.out; have := HK2.out; omega
          case rel => exact ⟨(wrap64 (x3_2 + 1)), (by first | rfl | (simp; done) | (simp [*]; done)), H', ⟨by have := HJ1.out; have := HK2.out; omega⟩, by repeat (first | exact Drawn0.refl _ | apply Drawn0.step)⟩
         ·
          replace c16 := Bool.eq_false_iff.mpr c16
          subst c16
          have H1 : (if (bt a0 x3_2) = 95 then (query_named.l0 k2 a0 (wrap64 (x3_2 + 1))) else (some false)) = some r := by rw [if_neg (show ¬ (false = true) by decide)] at H; exact H
          clear H
          have H := H1
          clear H1
          by_cases c18 : (bt a0 x3_2) = 95
          ·
           rw [if_pos c18] at H
           have c18b0 : ((bt a0 x3_2) == 95) = true := beq_iff_eq.mpr c18
           have c18b1 : ((bt a0 x3_2) != 95) = false := bne_eq_false_iff_eq.mpr c18
           clear c18
           have H' := Aside0.mk H
           clear H
           have p11 : 0 ≤ (x3_2 : Int) := of_decide_eq_true (by first | (with_reducible assumption) | assumption)
           have q11 : x3_2 < (a0.size : Int) := of_decide_eq_true (by first | (with_reducible assumption) | assumption)
           have hx11 := bt_at a0 x3_2
           replace p11 := eq_true p11
           replace q11 := eq_true q11
           go_wp2_with (first | ((with_reducible refine gate_callee (f := 64) rfl ?_); refine goesL_ (some 26) rfl rfl Tryz.func64 (by kernel_rfl) rfl #[.int .u8 (bt a0 x3_2)] rfl (by (try simp only [List.map_toArray, List.map_cons, List.map_nil]); first | done | rfl | (simp only [List.length_drop, List.length_take]; rfl)) ?_; (with_reducible refine (query_small.calls (bt a0 x3_2) false _ A12.out).mono ?_); rintro e w' ⟨rfl, ⟨nd, rfl⟩⟩; refine ⟨_, rfl, ?_⟩; have p14 : 0 ≤ (x3_2 : Int) := of_decide_eq_true (by first | (with_reducible assumption) | assumption); have q14 : x3_2 < (a0.size : Int) := of_decide_eq_true (by first | (with_reducible assumption) | assumption); have hx14 := bt_at a0 x3_2; replace p14 := eq_true p14; replace q14 := eq_true q14) | (go_at_call 66; (with_reducible refine (query_digit.calls (bt a0 x3_2) false _ A15.out).mono ?_); rintro e w' ⟨rfl, ⟨nd, rfl⟩⟩; have p17 : 0 ≤ (x3_2 : Int) := of_decide_eq_true (by first | (with_reducible assumption) | assumption); have q17 : x3_2 < (a0.size : Int) := of_decide_eq_true (by first | (with_reducible assumption) | assumption); have hx17 := bt_at a0 x3_2; replace p17 := eq_true p17; replace q17 := eq_true q17))
           go_roundg k2
           case measure => have := HJ1.out; have := HK2.out; omega
           case rel => exact ⟨(wrap64 (x3_2 + 1)), (by first | rfl | (simp; done) | (simp [*]; done)), H', ⟨by have := HJ1.out; have := HK2.out; omega⟩, by repeat (first | exact Drawn0.refl _ | apply Drawn0.step)⟩
          ·
           rw [if_neg c18] at H
           have c18b0 : ((bt a0 x3_2) == 95) = false := beq_eq_false_iff_ne.mpr c18
           have c18b1 : ((bt a0 x3_2) != 95) = true := bne_iff_ne.mpr c18
           obtain rfl := Option.some.inj H
           have p11 : 0 ≤ (x3_2 : Int) := of_decide_eq_true (by first | (with_reducible assumption) | assumption)
           have q11 : x3_2 < (a0.size : Int) := of_decide_eq_true (by first | (with_reducible assumption) | assumption)
           have hx11 := bt_at a0 x3_2
           replace p11 := eq_true p11
           replace q11 := eq_true q11
           go_wp2_with (first | ((with_reducible refine gate_callee (f := 64) rfl ?_); refine goesL_ (some 26) rfl rfl Tryz.func64 (by kernel_rfl) rfl #[.int .u8 (bt a0 x3_2)] rfl (by (try simp only [List.map_toArray, List.map_cons, List.map_nil]); first | done | rfl | (simp only [List.length_drop, List.length_take]; rfl)) ?_; (with_reducible refine (query_small.calls (bt a0 x3_2) false _ A12.out).mono ?_); rintro e w' ⟨rfl, ⟨nd, rfl⟩⟩; refine ⟨_, rfl, ?_⟩; have p14 : 0 ≤ (x3_2 : Int) := of_decide_eq_true (by first | (with_reducible assumption) | assumption); have q14 : x3_2 < (a0.size : Int) := of_decide_eq_true (by first | (with_reducible assumption) | assumption); have hx14 := bt_at a0 x3_2; replace p14 := eq_true p14; replace q14 := eq_true q14) | (go_at_call 66; (with_reducible refine (query_digit.calls (bt a0 x3_2) false _ A15.out).mono ?_); rintro e w' ⟨rfl, ⟨nd, rfl⟩⟩; have p17 : 0 ≤ (x3_2 : Int) := of_decide_eq_true (by first | (with_reducible assumption) | assumption); have q17 : x3_2 < (a0.size : Int) := of_decide_eq_true (by first | (with_reducible assumption) | assumption); have hx17 := bt_at a0 x3_2; replace p17 := eq_true p17; replace q17 := eq_true q17))
           go_ret
           exact ⟨by first | rfl | (simp; done) | (simp [*]; done), by repeat (first | exact Drawn0.refl _ | apply Drawn0.step)⟩
       ·
        rw [if_neg c10] at H
        exact absurd H (by simp)
      ·
       rw [if_neg c9] at H
       have c9b0 : decide (x3_2 < (a0.size : Int)) = false := decide_eq_false c9
       clear c9
       obtain rfl := Option.some.inj H
       go_wp2
       go_ret
       exact ⟨by first | rfl | (simp; done) | (simp [*]; done), by repeat (first | exact Drawn0.refl _ | apply Drawn0.step)⟩
end Go.Proofs.YthhemephaabblaaGreatDoor.Q
