/- Parts of the proof: A plain law of my own over any program: a region that draws its order, whose operations read, compute, make memory or call, and leave all that was as it was. Each operation is shown once, whatever came up before it; what the slots hold is told by predicates that stand when the world grows. In the words' vocabulary (<Name>WInv). The law of Ext, each operation with a relation of its own between the world ahead of it and the world behind it. cairnlaw02.rest: the rest, never negative. What stands when the world grows: the tables, a state, bytes. Slices of bytes that are cut, copied, put into lists of slices. mac.block: a secret's block. And the plain code (HMAC over SHA-256). cairnref02.words: the sixty-four words of a block. -/
import Derived.Test.YtnkhhnfmijljbaaDoorWInv
import Derived.Test.YtnkhhnfmijljbaaDoorWInvWords
import Derived.Test.YtnkhhnfmijljbaaDoorZExacta
import Derived.Test.YtnkhhnfmijljbaaDoorZExactb
import Derived.Laws.IdiomCopy
set_option linter.unusedVariables false
set_option linter.unusedSimpArgs false
namespace Go.Proofs.YtnkhhnfmijljbaaDoorW.PrintLast
open Go.RowKit
/-- w' is w, and perhaps more blocks -/
def Ext (w w' : World) : Prop := Below w.heap.size w w'
theorem Ext.refl (w : World) : Ext w w := Below.refl _ _
theorem Ext.trans {a b c : World} (h : Ext a b) (k : Ext b c) : Ext a c := Below.trans h (Below.mono k h.size)
theorem Ext.drew {a w : World} (h : Ext a w) : Ext a w.drew := Below.drew h
theorem Ext.to_drew (w : World) : Ext w w.drew := (Ext.refl w).drew
theorem Ext.alloc {a w : World} (h : Ext a w) (o : Obj) : Ext a (w.alloc o) := Below.alloc h h.size o
theorem Ext.below {B : Nat} {a b c : World} (h : Below B a b) (hB : B ≤ b.heap.size) (k : Ext b c) : Below B a c := Below.trans h (Below.mono k hB)
def bitsOf (T : List (List Nat × List Nat)) : List Nat := (List.range T.length).foldl (fun B d => B ++ [upM B d ((T[d]?.map (·.1)).getD [])]) []
def extOk (ops : Array Oper) (D : List (Nat × Tmp)) (n : Nat) : Bool :=
  ops.size == n && waitsOk (rtab .any ops).2 (bitsOf (rtab .any ops).2) && baseOk (rtab .any ops).2 (List.range n)
    && (List.range n).all (fun i => match ops[i]? with
      | some o => (match o.dst with
        | some t => D.contains (i, t)
        | none => D.all fun e => !(e.1 == i))
      | none => false)
    && (List.range D.length).all (fun k => match D[k]? with
      | some x => (D.take k ++ D.drop (k + 1)).all fun e => !(e.1 == x.1) && !(e.2 == x.2)
      | none => false)
    && D.all (fun e => decide (e.1 < n))
section
variable {P : Program} {ops : Array Oper} {Q : Exit → Act → World → Prop}
/-- An operation that, run here, yields a good value, in a world that has grown at most. -/
def Good (P : Program) (o : Oper) (a : Act) (w : World) (Gi : World → Value → Prop) : Prop :=
  (∃ v w', (execOp a.eval o).run P w = .ok (.value v) w' ∧ Ext w w' ∧ Gi w' v) ∨
  (∃ f vs, (execOp a.eval o).run P w = .ok (.enter f vs) w ∧ Calls P f vs w (fun e w' => ∃ v, e = .returned v ∧ Ext w w' ∧ Gi w' v))
theorem Good.wp {o : Oper} {a : Act} {w : World} {Gi : World → Value → Prop} {K : Act → World → Prop} (h : Good P o a w Gi) (hk : ∀ v w', Ext w w' → Gi w' v → K (a.put o.dst v) w') : Oper.wp P o a w K Q := by
  unfold Oper.wp
  rcases h with ⟨v, w', e, h1, h2⟩ | ⟨f, vs, e, hc⟩
  · rw [e]; exact hk v w' h1 h2
  · rw [e]; exact hc.mono (fun e w' ⟨v, he, h1, h2⟩ => by subst he; exact hk v w' h1 h2)
/-- What is known of the slots when operation i comes up. -/
structure Has (a0 a : Act) (D : List (Nat × Tmp)) (m : Nat) (G : Nat → World → Value → Prop) (w : World) : Prop where
  dep : ∀ j t, D.contains (j, t) = true → m.testBit j = true → ∃ v, a.tmps[t]? = some v ∧ G j w v
  old : ∀ t, (D.all fun e => !(e.2 == t)) = true → a.tmps[t]? = a0.tmps[t]?
/-- The step of operation i. -/
def StepE (P : Program) (ops : Array Oper) (a0 : Act) (w0 : World) (D : List (Nat × Tmp)) (G : Nat → World → Value → Prop) (i : Nat) : Prop :=
  ∃ o, ops[i]? = some o ∧ ∀ a w, Ext w0 w → Has a0 a D ((bitsOf (rtab .any ops).2).getD i 0) G w →
    (Region.wanted o (yielded ops a.tmps) = true ∧ Good P o a w (G i)) ∨ (Region.wanted o (yielded ops a.tmps) = false ∧ G i w undef)
theorem stepE_nil {a0 : Act} {w0 : World} {D : List (Nat × Tmp)} {G : Nat → World → Value → Prop} : ∀ i ∈ ([] : List Nat), StepE P ops a0 w0 D G i := fun _ h => by cases h
theorem stepE_cons {a0 : Act} {w0 : World} {D : List (Nat × Tmp)} {G : Nat → World → Value → Prop} {i : Nat} {rs : List Nat} (h : StepE P ops a0 w0 D G i) (hs : ∀ j ∈ rs, StepE P ops a0 w0 D G j) : ∀ j ∈ i :: rs, StepE P ops a0 w0 D G j := fun j hj => by
  rcases List.mem_cons.1 hj with rfl | hj
  · exact h
  · exact hs j hj
theorem putSel_all {b : Nat → Bool} : ∀ {L : List (Nat × Tmp × Value)} {a : Act}, (∀ e ∈ L, b e.1 = true) → putSel a b L = putAll a (L.map fun e => e.2)
  | [], _, _ => rfl
  | e :: r, a, h => by
    unfold putSel
    rw [if_pos (h e List.mem_cons_self), putSel_all (fun x hx => h x (List.mem_cons_of_mem _ hx))]
    rfl
theorem putSel_begin {b : Nat → Bool} : ∀ {L : List (Nat × Tmp × Value)} {a : Act}, (∀ e ∈ L, b e.1 = false) → putSel a b L = a
  | [], _, _ => rfl
  | e :: r, a, h => by
    unfold putSel
    rw [if_neg (by rw [h e List.mem_cons_self]; decide), putSel_begin (fun x hx => h x (List.mem_cons_of_mem _ hx))]
theorem putSel_congr {b : Nat → Bool} {D : List (Nat × Tmp)} {f g : Nat → Value} (h : ∀ e ∈ D, f e.1 = g e.1) {a : Act} : putSel a b (D.map fun e => (e.1, e.2, f e.1)) = putSel a b (D.map fun e => (e.1, e.2, g e.1)) := by
  congr 1
  exact List.map_congr_left (fun e he => by rw [h e he])
/-- the frame is not smaller than the slots that the region fills -/
def fits (a0 : Act) (D : List (Nat × Tmp)) : Bool := D.all fun e => Nat.ble (e.2 + 1) a0.tmps.size
theorem ext_region {id : Nat} {a0 : Act} {w0 : World} (n : Nat) (D : List (Nat × Tmp)) (O : List Nat) (G : Nat → World → Value → Prop) (hm : P.follows .mixedOrders = true) (hok : extOk ops D n = true) (hfit : fits a0 D = true) (hO : List.range n = O)
    (hG : ∀ i w w' v, G i w v → Ext w w' → G i w' v) (hs : ∀ i ∈ O, StepE P ops a0 w0.drew D G i)
    (hend : ∀ (vals : Nat → Value) (w' : World), Ext w0.drew w' → (∀ i ∈ O, (D.any fun e => e.1 == i) = true → G i w' (vals i)) → Q .normal (putAll a0 (D.map fun e => (e.2, vals e.1))) w') :
    (Code.region id ops true).wp P Q a0 w0 := by
  subst hO
  simp only [extOk, Bool.and_eq_true, beq_iff_eq] at hok
  obtain ⟨⟨⟨⟨⟨hn, hw⟩, hk⟩, hd⟩, hdist⟩, hDlt⟩ := hok
  have hdist' : ∀ (k : Nat) (i : Nat) (t : Tmp), D[k]? = some (i, t) → ((D.take k ++ D.drop (k + 1)).all fun e => !(e.1 == i) && !(e.2 == t)) = true := fun k i t h => by
    have h1 := List.all_eq_true.1 hdist k (List.mem_range.2 (List.getElem?_eq_some_iff.1 h).1)
    rw [h] at h1
    exact h1
  have hfit' : ∀ e ∈ D, Nat.ble (e.2 + 1) a0.tmps.size = true := fun e he => List.all_eq_true.1 hfit e he
  refine start_ (n := n) (S := fun _ => True) (ds := []) (Array.replicate n false) hm hn rfl trivial (fun _ => ?_)
  have hTl : (rtab .any ops).2.length = n := by rw [rtab_length, hn]
  refine inv_ (md := .any) (T := rtab .any ops) (B := bitsOf (rtab .any ops).2) (List.range n)
    (fun b a w => Ext w0.drew w ∧ ∃ vals : Nat → Value, a = putSel a0 b (D.map fun e => (e.1, e.2, vals e.1)) ∧ ∀ i, b i = true → G i w (vals i)) rfl hw hk ?_ ?_ ?_ ?_
  · rw [hTl, Bool.and_eq_true, beq_iff_eq, beq_iff_eq]
    refine ⟨?_, by simp⟩
    rw [Array.toList_replicate]
    refine List.ext_getElem (by simp [lof]) (fun j h1 h2 => ?_)
    have hj : j < n := by simpa [lof] using h1
    simp [lof, hj]
  · refine ⟨Ext.refl _, fun _ => undef, ?_, fun i h => by cases h⟩
    rw [putSel_begin (fun e he => rfl)]
  · intro i hi b a w ⟨hE, vals, ha, hg⟩ hbi hon hoff
    obtain ⟨o, ho, hstep⟩ := hs i hi
    refine ⟨o, ho, fun K hK => ?_⟩
    have hin : i < n := List.mem_range.1 hi
    have hD := List.all_eq_true.1 hd i hi
    rw [ho] at hD
    simp only at hD
    -- the frame behind it
    have next : ∀ v w', Ext w w' → G i w' v → K (a.put o.dst v) w' := by
      intro v w' hE' hv
      refine hK _ _ ⟨hE.trans hE', fun j => if j = i then v else vals j, ?_, fun j hj => ?_⟩
      · cases hdst : o.dst with
        | none =>
          rw [hdst] at hD
          have hD' : ∀ e ∈ D, e.1 ≠ i := fun e he => by have := List.all_eq_true.1 hD e he; simpa using this
          have hnoi : ((D.map fun e => (e.1, e.2, (fun j => if j = i then v else vals j) e.1)).all fun e => !(e.1 == i)) = true :=
            List.all_eq_true.2 (fun x hx => by
              obtain ⟨e, he, rfl⟩ := List.mem_map.1 hx
              have := hD' e he
              simp [this])
          rw [putSel_same hnoi]
          show a = _
          rw [ha]
          exact putSel_congr (f := vals) (g := fun j => if j = i then v else vals j) (fun e he => by rw [if_neg (hD' e he)])
        | some t =>
          rw [hdst] at hD
          have hmem : (i, t) ∈ D := List.contains_iff_mem.1 hD
          obtain ⟨k, hkD⟩ := List.getElem?_of_mem hmem
          have hdi := hdist' k i t hkD
          rw [ha]
          refine putSel_upk k (v0 := vals i) hbi (by rw [List.getElem?_map, hkD]; rfl) ?_ ?_
          · refine List.ext_getElem? (fun j => ?_)
            rw [List.getElem?_set, List.getElem?_map, List.getElem?_map]
            by_cases hkj : k = j
            · subst hkj
              have hlt : k < D.length := (List.getElem?_eq_some_iff.1 hkD).1
              rw [if_pos rfl, if_pos (by simpa using hlt), hkD]
              simp
            · rw [if_neg hkj]
              cases hj : D[j]? with
              | none => rfl
              | some e =>
                have he : e.1 ≠ i := by
                  have hm1 : e ∈ D.take k ++ D.drop (k + 1) := by
                    rw [List.mem_append]
                    rcases Nat.lt_or_gt_of_ne hkj with h | h
                    · right
                      refine List.mem_of_getElem? (i := j - (k + 1)) ?_
                      rw [List.getElem?_drop, show k + 1 + (j - (k + 1)) = j by omega, hj]
                    · left
                      refine List.mem_of_getElem? (i := j) ?_
                      rw [List.getElem?_take, if_pos h, hj]
                  have := List.all_eq_true.1 hdi e hm1
                  simp only [Bool.and_eq_true] at this
                  simpa using this.1
                simp [he]
          · refine List.all_eq_true.2 (fun x hx => ?_)
            rw [← List.map_take, ← List.map_drop, ← List.map_append] at hx
            obtain ⟨e, he, rfl⟩ := List.mem_map.1 hx
            exact List.all_eq_true.1 hdi e he
      · by_cases hji : j = i
        · subst hji; simpa using hv
        · rw [up_ne hji] at hj
          simp only [if_neg hji]
          exact hG _ _ _ _ (hg j hj) hE'
    have has : Has a0 a D ((bitsOf (rtab .any ops).2).getD i 0) G w := by
      refine ⟨fun j t hjt hbit => ?_, fun t ht => ?_⟩
      · have hmem : (j, t) ∈ D := List.contains_iff_mem.1 hjt
        have hjn : j < n := by
          -- bits stand for numbers of the region
          by_cases hlt : j < n
          · exact hlt
          · exfalso
            have hTi : (rtab .any ops).2[i]? = some ((rtab .any ops).2[i]'(by rw [hTl]; exact hin)) := List.getElem?_eq_getElem _
            have key : ∀ (m d : Nat), d ≤ m → d < n → ∀ q, ((bitsOf (rtab .any ops).2).getD d 0).testBit q = true → q < n := by
              intro m
              induction m with
              | zero =>
                intro d hdm hdn q hq
                obtain rfl : d = 0 := by omega
                have hr : (rtab .any ops).2[0]? = some ((rtab .any ops).2[0]'(by rw [hTl]; exact hdn)) := List.getElem?_eq_getElem _
                have h1 := List.all_eq_true.1 hw 0 (List.mem_range.2 (by rw [hTl]; exact hdn))
                rw [hr] at h1
                simp only [beq_iff_eq] at h1
                have h2 : (upM (bitsOf (rtab .any ops).2) 0 ((rtab .any ops).2[0]'(by rw [hTl]; exact hdn)).1).testBit q = true := by rw [← h1, Nat.testBit_or, hq, Bool.true_or]
                obtain ⟨p, hp, h3⟩ := upM_bit h2
                have := (baseOk_row hk hr).2 p hp
                omega
              | succ m ih =>
                intro d hdm hdn q hq
                have hr : (rtab .any ops).2[d]? = some ((rtab .any ops).2[d]'(by rw [hTl]; exact hdn)) := List.getElem?_eq_getElem _
                have h1 := List.all_eq_true.1 hw d (List.mem_range.2 (by rw [hTl]; exact hdn))
                rw [hr] at h1
                simp only [beq_iff_eq] at h1
                have h2 : (upM (bitsOf (rtab .any ops).2) d ((rtab .any ops).2[d]'(by rw [hTl]; exact hdn)).1).testBit q = true := by rw [← h1, Nat.testBit_or, hq, Bool.true_or]
                obtain ⟨p, hp, h3⟩ := upM_bit h2
                have h4 := (baseOk_row hk hr).2 p hp
                rcases h3 with rfl | ⟨h5, h6⟩
                · omega
                · exact ih p (by omega) (by omega) q h6
            exact hlt (key i i (Nat.le_refl _) hin j hbit)
        have hbj : b j = true := hon j (by rw [hbit, Bool.and_true]; exact List.contains_iff_mem.2 (List.mem_range.2 hjn))
        obtain ⟨k, hkD⟩ := List.getElem?_of_mem hmem
        refine ⟨vals j, ?_, hg j hbj⟩
        rw [ha]
        refine putSel_on (e := (j, t, vals j)) k (by rw [List.getElem?_map, hkD]; rfl) ?_ hbj (hfit' _ hmem)
        refine List.all_eq_true.2 (fun x hx => ?_)
        rw [← List.map_drop] at hx
        obtain ⟨e, he, rfl⟩ := List.mem_map.1 hx
        have := List.all_eq_true.1 (hdist' k j t hkD) e (List.mem_append_right _ he)
        simp only [Bool.and_eq_true] at this
        exact this.2
      · rw [ha]
        refine putSel_off (List.all_eq_true.2 (fun x hx => ?_))
        obtain ⟨e, he, rfl⟩ := List.mem_map.1 hx
        exact List.all_eq_true.1 ht e he
    rcases hstep a w hE has with ⟨hw1, hgood⟩ | ⟨hw0, hu⟩
    · rw [if_pos hw1]
      exact hgood.wp next
    · rw [if_neg (by rw [hw0]; decide)]
      exact next undef w (Ext.refl w) hu
  · intro b a w hall ⟨hE, vals, ha, hg⟩
    have hall' : ∀ j, j < n → b j = true := fun j hj => hall j (List.contains_iff_mem.2 (List.mem_range.2 hj))
    have hDn : ∀ e ∈ D, b e.1 = true := by
      intro e he
      have h1 := List.all_eq_true.1 hDlt e he
      exact hall' _ (of_decide_eq_true h1)
    rw [ha, putSel_all (fun x hx => by obtain ⟨e, he, rfl⟩ := List.mem_map.1 hx; exact hDn e he), List.map_map]
    exact hend vals w hE (fun i hi _ => hg i (hall' i (List.mem_range.1 hi)))
/-! ### the same where the last operation, which waits for all others, writes or does whatever -/
def extOk1 (ops : Array Oper) (D : List (Nat × Tmp)) (n : Nat) : Bool :=
  ops.size == n && waitsOk (rtab .any ops).2 (bitsOf (rtab .any ops).2) && baseOk (rtab .any ops).2 (List.range n)
    && (List.range (n - 1)).all (fun i => match ops[i]? with
      | some o => (match o.dst with
        | some t => D.contains (i, t)
        | none => D.all fun e => !(e.1 == i))
      | none => false)
    && (List.range D.length).all (fun k => match D[k]? with
      | some x => (D.take k ++ D.drop (k + 1)).all fun e => !(e.1 == x.1) && !(e.2 == x.2)
      | none => false)
    && D.all (fun e => decide (e.1 < n - 1))
    && (List.range (n - 1)).all (fun j => ((bitsOf (rtab .any ops).2).getD (n - 1) 0).testBit j)
    && decide (0 < n)
theorem ext_tail {id : Nat} {a0 : Act} {w0 : World} (n : Nat) (D : List (Nat × Tmp)) (O : List Nat) (G : Nat → World → Value → Prop) (hm : P.follows .mixedOrders = true) (hok : extOk1 ops D n = true) (hfit : fits a0 D = true) (hO : List.range (n - 1) = O)
    (hG : ∀ i w w' v, G i w v → Ext w w' → G i w' v) (hs : ∀ i ∈ O, StepE P ops a0 w0.drew D G i)
    (hend : ∃ o, ops[n - 1]? = some o ∧ ∀ (vals : Nat → Value) (w' : World), Ext w0.drew w' → (∀ i ∈ O, (D.any fun e => e.1 == i) = true → G i w' (vals i)) →
      Region.wanted o (yielded ops (putAll a0 (D.map fun e => (e.2, vals e.1))).tmps) = true ∧ ∀ K : Act → World → Prop, Shut (∀ a' w'', Q .normal a' w'' → K a' w'') → Oper.wp P o (putAll a0 (D.map fun e => (e.2, vals e.1))) w' K Q) :
    (Code.region id ops true).wp P Q a0 w0 := by
  subst hO
  simp only [extOk1, Bool.and_eq_true, beq_iff_eq] at hok
  obtain ⟨⟨⟨⟨⟨⟨⟨hn, hw⟩, hk⟩, hd⟩, hdist⟩, hDlt⟩, hall1⟩, hpos⟩ := hok
  have hn0 : 0 < n := of_decide_eq_true hpos
  have hfall : ∀ j, j < n - 1 → ((bitsOf (rtab .any ops).2).getD (n - 1) 0).testBit j = true := fun j hj => List.all_eq_true.1 hall1 j (List.mem_range.2 hj)
  have hdist' : ∀ (k : Nat) (i : Nat) (t : Tmp), D[k]? = some (i, t) → ((D.take k ++ D.drop (k + 1)).all fun e => !(e.1 == i) && !(e.2 == t)) = true := fun k i t h => by
    have h1 := List.all_eq_true.1 hdist k (List.mem_range.2 (List.getElem?_eq_some_iff.1 h).1)
    rw [h] at h1
    exact h1
  have hfit' : ∀ e ∈ D, Nat.ble (e.2 + 1) a0.tmps.size = true := fun e he => List.all_eq_true.1 hfit e he
  refine start_ (n := n) (S := fun _ => True) (ds := []) (Array.replicate n false) hm hn rfl trivial (fun _ => ?_)
  have hTl : (rtab .any ops).2.length = n := by rw [rtab_length, hn]
  refine inv_ (md := .any) (T := rtab .any ops) (B := bitsOf (rtab .any ops).2) (List.range n)
    (fun b a w => if b (n - 1) = true then Q .normal a w else (Ext w0.drew w ∧ ∃ vals : Nat → Value, a = putSel a0 b (D.map fun e => (e.1, e.2, vals e.1)) ∧ ∀ i, b i = true → G i w (vals i))) rfl hw hk ?_ ?_ ?_ ?_
  · rw [hTl, Bool.and_eq_true, beq_iff_eq, beq_iff_eq]
    refine ⟨?_, by simp⟩
    rw [Array.toList_replicate]
    refine List.ext_getElem (by simp [lof]) (fun j h1 h2 => ?_)
    have hj : j < n := by simpa [lof] using h1
    simp [lof, hj]
  · dsimp only
    rw [if_neg Bool.false_ne_true]
    refine ⟨Ext.refl _, fun _ => undef, ?_, fun i h => by cases h⟩
    rw [putSel_begin (fun e he => rfl)]
  · intro i hi b a w hI hbi hon hoff
    have hin : i < n := List.mem_range.1 hi
    by_cases hif : i = n - 1
    · -- the last one
      subst hif
      rw [if_neg (by rw [hbi]; decide)] at hI
      obtain ⟨hE, vals, ha, hg⟩ := hI
      obtain ⟨o, ho, hlast⟩ := hend
      have hall' : ∀ j, j < n - 1 → b j = true := fun j hj => hon j (by rw [hfall j hj, Bool.and_true]; exact List.contains_iff_mem.2 (List.mem_range.2 (by omega)))
      have ha' : a = putAll a0 (D.map fun e => (e.2, vals e.1)) := by
        rw [ha, putSel_all (fun x hx => by
          obtain ⟨e, he, rfl⟩ := List.mem_map.1 hx
          exact hall' _ (of_decide_eq_true (List.all_eq_true.1 hDlt e he))), List.map_map]
        rfl
      refine ⟨o, ho, fun K hK => ?_⟩
      obtain ⟨hw1, hfin⟩ := hlast vals w hE (fun j hj _ => hg j (hall' j (List.mem_range.1 hj)))
      rw [← ha'] at hw1 hfin
      rw [if_pos hw1]
      exact hfin K (fun a' w'' hq => hK a' w'' (by dsimp only; rw [if_pos (up_self b _)]; exact hq))
    have hi1 : i ∈ List.range (n - 1) := List.mem_range.2 (by omega)
    have hbf : b (n - 1) = false := hoff (n - 1) (by rw [hfall i (by omega), Bool.and_true]; exact List.contains_iff_mem.2 (List.mem_range.2 (by omega)))
    rw [if_neg (by rw [hbf]; decide)] at hI
    obtain ⟨hE, vals, ha, hg⟩ := hI
    obtain ⟨o, ho, hstep⟩ := hs i hi1
    refine ⟨o, ho, fun K hK => ?_⟩
    have hD := List.all_eq_true.1 hd i hi1
    rw [ho] at hD
    simp only at hD
    -- the frame behind it
    have next : ∀ v w', Ext w w' → G i w' v → K (a.put o.dst v) w' := by
      intro v w' hE' hv
      refine hK _ _ ?_
      dsimp only
      rw [if_neg (by rw [up_ne (fun e => hif e.symm), hbf]; decide)]
      refine ⟨hE.trans hE', fun j => if j = i then v else vals j, ?_, fun j hj => ?_⟩
      · cases hdst : o.dst with
        | none =>
          rw [hdst] at hD
          have hD' : ∀ e ∈ D, e.1 ≠ i := fun e he => by have := List.all_eq_true.1 hD e he; simpa using this
          have hnoi : ((D.map fun e => (e.1, e.2, (fun j => if j = i then v else vals j) e.1)).all fun e => !(e.1 == i)) = true :=
            List.all_eq_true.2 (fun x hx => by
              obtain ⟨e, he, rfl⟩ := List.mem_map.1 hx
              have := hD' e he
              simp [this])
          rw [putSel_same hnoi]
          show a = _
          rw [ha]
          exact putSel_congr (f := vals) (g := fun j => if j = i then v else vals j) (fun e he => by rw [if_neg (hD' e he)])
        | some t =>
          rw [hdst] at hD
          have hmem : (i, t) ∈ D := List.contains_iff_mem.1 hD
          obtain ⟨k, hkD⟩ := List.getElem?_of_mem hmem
          have hdi := hdist' k i t hkD
          rw [ha]
          refine putSel_upk k (v0 := vals i) hbi (by rw [List.getElem?_map, hkD]; rfl) ?_ ?_
          · refine List.ext_getElem? (fun j => ?_)
            rw [List.getElem?_set, List.getElem?_map, List.getElem?_map]
            by_cases hkj : k = j
            · subst hkj
              have hlt : k < D.length := (List.getElem?_eq_some_iff.1 hkD).1
              rw [if_pos rfl, if_pos (by simpa using hlt), hkD]
              simp
            · rw [if_neg hkj]
              cases hj : D[j]? with
              | none => rfl
              | some e =>
                have he : e.1 ≠ i := by
                  have hm1 : e ∈ D.take k ++ D.drop (k + 1) := by
                    rw [List.mem_append]
                    rcases Nat.lt_or_gt_of_ne hkj with h | h
                    · right
                      refine List.mem_of_getElem? (i := j - (k + 1)) ?_
                      rw [List.getElem?_drop, show k + 1 + (j - (k + 1)) = j by omega, hj]
                    · left
                      refine List.mem_of_getElem? (i := j) ?_
                      rw [List.getElem?_take, if_pos h, hj]
                  have := List.all_eq_true.1 hdi e hm1
                  simp only [Bool.and_eq_true] at this
                  simpa using this.1
                simp [he]
          · refine List.all_eq_true.2 (fun x hx => ?_)
            rw [← List.map_take, ← List.map_drop, ← List.map_append] at hx
            obtain ⟨e, he, rfl⟩ := List.mem_map.1 hx
            exact List.all_eq_true.1 hdi e he
      · by_cases hji : j = i
        · subst hji; simpa using hv
        · rw [up_ne hji] at hj
          simp only [if_neg hji]
          exact hG _ _ _ _ (hg j hj) hE'
    have has : Has a0 a D ((bitsOf (rtab .any ops).2).getD i 0) G w := by
      refine ⟨fun j t hjt hbit => ?_, fun t ht => ?_⟩
      · have hmem : (j, t) ∈ D := List.contains_iff_mem.1 hjt
        have hjn : j < n := by
          -- bits stand for numbers of the region
          by_cases hlt : j < n
          · exact hlt
          · exfalso
            have hTi : (rtab .any ops).2[i]? = some ((rtab .any ops).2[i]'(by rw [hTl]; exact hin)) := List.getElem?_eq_getElem _
            have key : ∀ (m d : Nat), d ≤ m → d < n → ∀ q, ((bitsOf (rtab .any ops).2).getD d 0).testBit q = true → q < n := by
              intro m
              induction m with
              | zero =>
                intro d hdm hdn q hq
                obtain rfl : d = 0 := by omega
                have hr : (rtab .any ops).2[0]? = some ((rtab .any ops).2[0]'(by rw [hTl]; exact hdn)) := List.getElem?_eq_getElem _
                have h1 := List.all_eq_true.1 hw 0 (List.mem_range.2 (by rw [hTl]; exact hdn))
                rw [hr] at h1
                simp only [beq_iff_eq] at h1
                have h2 : (upM (bitsOf (rtab .any ops).2) 0 ((rtab .any ops).2[0]'(by rw [hTl]; exact hdn)).1).testBit q = true := by rw [← h1, Nat.testBit_or, hq, Bool.true_or]
                obtain ⟨p, hp, h3⟩ := upM_bit h2
                have := (baseOk_row hk hr).2 p hp
                omega
              | succ m ih =>
                intro d hdm hdn q hq
                have hr : (rtab .any ops).2[d]? = some ((rtab .any ops).2[d]'(by rw [hTl]; exact hdn)) := List.getElem?_eq_getElem _
                have h1 := List.all_eq_true.1 hw d (List.mem_range.2 (by rw [hTl]; exact hdn))
                rw [hr] at h1
                simp only [beq_iff_eq] at h1
                have h2 : (upM (bitsOf (rtab .any ops).2) d ((rtab .any ops).2[d]'(by rw [hTl]; exact hdn)).1).testBit q = true := by rw [← h1, Nat.testBit_or, hq, Bool.true_or]
                obtain ⟨p, hp, h3⟩ := upM_bit h2
                have h4 := (baseOk_row hk hr).2 p hp
                rcases h3 with rfl | ⟨h5, h6⟩
                · omega
                · exact ih p (by omega) (by omega) q h6
            exact hlt (key i i (Nat.le_refl _) hin j hbit)
        have hbj : b j = true := hon j (by rw [hbit, Bool.and_true]; exact List.contains_iff_mem.2 (List.mem_range.2 hjn))
        obtain ⟨k, hkD⟩ := List.getElem?_of_mem hmem
        refine ⟨vals j, ?_, hg j hbj⟩
        rw [ha]
        refine putSel_on (e := (j, t, vals j)) k (by rw [List.getElem?_map, hkD]; rfl) ?_ hbj (hfit' _ hmem)
        refine List.all_eq_true.2 (fun x hx => ?_)
        rw [← List.map_drop] at hx
        obtain ⟨e, he, rfl⟩ := List.mem_map.1 hx
        have := List.all_eq_true.1 (hdist' k j t hkD) e (List.mem_append_right _ he)
        simp only [Bool.and_eq_true] at this
        exact this.2
      · rw [ha]
        refine putSel_off (List.all_eq_true.2 (fun x hx => ?_))
        obtain ⟨e, he, rfl⟩ := List.mem_map.1 hx
        exact List.all_eq_true.1 ht e he
    rcases hstep a w hE has with ⟨hw1, hgood⟩ | ⟨hw0, hu⟩
    · rw [if_pos hw1]
      exact hgood.wp next
    · rw [if_neg (by rw [hw0]; decide)]
      exact next undef w (Ext.refl w) hu
  · intro b a w hall hI
    rw [if_pos (hall (n - 1) (List.contains_iff_mem.2 (List.mem_range.2 (by omega))))] at hI
    exact hI
/-! ### single operations -/
variable {o : Oper} {a : Act} {w : World} {Gi : World → Value → Prop}
theorem goodE_val (v : Value) (hr : (execOp a.eval o).run P w = .ok (.value v) w) (hg : Gi w v) : Good P o a w Gi := Or.inl ⟨v, w, hr, Ext.refl w, hg⟩
theorem goodE_move {x : Operand} (v : Value) (ho : o.op = .move x) (hx : a.eval x = v) (hg : Gi w v) : Good P o a w Gi := goodE_val v (by unfold execOp; rw [ho]; simp [hx]) hg
theorem goodE_assign {x : Operand} (v : Value) (ho : o.op = .assign x) (hx : a.eval x = v) (hg : Gi w v) : Good P o a w Gi := goodE_val v (by unfold execOp; rw [ho]; simp [hx]) hg
theorem goodE_pick {c x y : Operand} (b : Bool) (v : Value) (ho : o.op = .pick c x y) (hc : a.eval c = .bool b) (hv : (if b then a.eval x else a.eval y) = v) (hg : Gi w v) : Good P o a w Gi :=
  goodE_val v (by unfold execOp; rw [ho]; subst hv; cases b <;> simp [hc, asBool]) hg
theorem goodE_row {t : TypeId} {x : Operand} (b off : Nat) (cs : List Value) (d : TypeDesc) (ho : o.op = .load t x) (hx : a.eval x = .pointer (some ⟨b, off, none⟩)) (hc : w.rangeAt b off cs) (hu : P.underlying t = some d) (hd : d.isRow = true)
    (hi : (P.info? t).map (·.size) = some cs.length) (hg : Gi w (.agg cs.toArray)) : Good P o a w Gi :=
  goodE_val _ (by
    unfold execOp
    rw [ho]
    simp only [hx, Instr.loadAt, Instr.sureAddr, Sem.run_bind, Sem.run_pure, Result.andThen_ok, run_loadVar_mid w b off t cs d hc hu hd hi]) hg
theorem goodE_new (v : Value) (w' : World) (hr : (execOp a.eval o).run P w = .ok (.value v) w') (hE : Ext w w') (hg : Gi w' v) : Good P o a w Gi := Or.inl ⟨v, w', hr, hE, hg⟩
theorem goodE_call {f : FuncId} {args : Array Operand} {argTypes : Array TypeId} (ho : o.op = .call ⟨.value (.func f), args, argTypes⟩) (vs : Array Value) (hvs : args.map a.eval = vs) (fn : Func) (hf : P.funcs[f]? = some fn)
    (hn : (fn.name == "runtime.NumGoroutine") = false) (hb : fn.body.isNone = false) (hc : Calls P f vs w (fun e w' => ∃ v, e = .returned v ∧ Ext w w' ∧ Gi w' v)) : Good P o a w Gi := by
  refine Or.inr ⟨f, vs, ?_, hc⟩
  have hn' : ¬ fn.name = "runtime.NumGoroutine" := by simpa using hn
  have hb' : ¬ fn.body = none := fun e => by rw [e] at hb; cases hb
  unfold execOp
  rw [ho]
  simp [resolve, Deferred.ofValue, invoke, callFunc, hvs, hf, hn', hb', go_sem]
/-! ### the last operation -/
theorem finE_skip {K : Act → World → Prop} {w1 : World} (hr : (execOp a.eval o).run P w = .ok .skip w1) (h : K (a.put o.dst undef) w1) : Oper.wp P o a w K Q := by
  unfold Oper.wp; rw [hr]; exact h
theorem finE_val {K : Act → World → Prop} {w1 : World} {v : Value} (hr : (execOp a.eval o).run P w = .ok (.value v) w1) (h : K (a.put o.dst v) w1) : Oper.wp P o a w K Q := by
  unfold Oper.wp; rw [hr]; exact h
theorem finE_call {K : Act → World → Prop} {f : FuncId} {args : Array Operand} {argTypes : Array TypeId} (ho : o.op = .call ⟨.value (.func f), args, argTypes⟩) (vs : Array Value) (hvs : args.map a.eval = vs) (fn : Func) (hf : P.funcs[f]? = some fn)
    (hn : (fn.name == "runtime.NumGoroutine") = false) (hb : fn.body.isNone = false) (hc : Calls P f vs w (fun e w' => ∃ v, e = .returned v ∧ K (a.put o.dst v) w')) : Oper.wp P o a w K Q := by
  have hr : (execOp a.eval o).run P w = .ok (.enter f vs) w := by
    have hn' : ¬ fn.name = "runtime.NumGoroutine" := by simpa using hn
    have hb' : ¬ fn.body = none := fun e => by rw [e] at hb; cases hb
    unfold execOp
    rw [ho]
    simp [resolve, Deferred.ofValue, invoke, callFunc, hvs, hf, hn', hb', go_sem]
  unfold Oper.wp
  rw [hr]
  exact hc.mono (fun e w' ⟨v, he, h⟩ => by subst he; exact h)
end
end Go.Proofs.YtnkhhnfmijljbaaDoorW.PrintLast
set_option linter.unusedVariables false
set_option linter.unusedSimpArgs false
namespace Go.Proofs.YtnkhhnfmijljbaaDoorW.PrintLast
open Go.RowKit
section
variable {P : Program} {ops : Array Oper} {Q : Exit → Act → World → Prop}
/-- An operation that, run here, yields a good value, in a world that has grown at most. -/
def GoodR (Ri : World → World → Prop) (P : Program) (o : Oper) (a : Act) (w : World) (Gi : World → Value → Prop) : Prop :=
  (∃ v w', (execOp a.eval o).run P w = .ok (.value v) w' ∧ Ri w w' ∧ Gi w' v) ∨
  (∃ f vs, (execOp a.eval o).run P w = .ok (.enter f vs) w ∧ Calls P f vs w (fun e w' => ∃ v, e = .returned v ∧ Ri w w' ∧ Gi w' v))
theorem GoodR.wp {Ri : World → World → Prop} {o : Oper} {a : Act} {w : World} {Gi : World → Value → Prop} {K : Act → World → Prop} (h : GoodR Ri P o a w Gi) (hk : ∀ v w', Ri w w' → Gi w' v → K (a.put o.dst v) w') : Oper.wp P o a w K Q := by
  unfold Oper.wp
  rcases h with ⟨v, w', e, h1, h2⟩ | ⟨f, vs, e, hc⟩
  · rw [e]; exact hk v w' h1 h2
  · rw [e]; exact hc.mono (fun e w' ⟨v, he, h1, h2⟩ => by subst he; exact hk v w' h1 h2)
/-- The step of operation i. -/
def StepR (R : Nat → World → World → Prop) (P : Program) (ops : Array Oper) (a0 : Act) (w0 : World) (D : List (Nat × Tmp)) (G : Nat → World → Value → Prop) (i : Nat) : Prop :=
  ∃ o, ops[i]? = some o ∧ ∀ a w, Ext w0 w → Has a0 a D ((bitsOf (rtab .any ops).2).getD i 0) G w →
    (Region.wanted o (yielded ops a.tmps) = true ∧ GoodR (R i) P o a w (G i)) ∨ (Region.wanted o (yielded ops a.tmps) = false ∧ G i w undef)
theorem stepR_nil {R : Nat → World → World → Prop} {a0 : Act} {w0 : World} {D : List (Nat × Tmp)} {G : Nat → World → Value → Prop} : ∀ i ∈ ([] : List Nat), StepR R P ops a0 w0 D G i := fun _ h => by cases h
theorem stepR_cons {R : Nat → World → World → Prop} {a0 : Act} {w0 : World} {D : List (Nat × Tmp)} {G : Nat → World → Value → Prop} {i : Nat} {rs : List Nat} (h : StepR R P ops a0 w0 D G i) (hs : ∀ j ∈ rs, StepR R P ops a0 w0 D G j) : ∀ j ∈ i :: rs, StepR R P ops a0 w0 D G j := fun j hj => by
  rcases List.mem_cons.1 hj with rfl | hj
  · exact h
  · exact hs j hj
theorem exr_tail (R : Nat → World → World → Prop) {id : Nat} {a0 : Act} {w0 : World} (n : Nat) (D : List (Nat × Tmp)) (O : List Nat) (G : Nat → World → Value → Prop) (hm : P.follows .mixedOrders = true) (hok : extOk1 ops D n = true) (hfit : fits a0 D = true) (hO : List.range (n - 1) = O)
    (hRE : ∀ i w w', Ext w0.drew w → R i w w' → Ext w0.drew w') (hR0 : ∀ i w, R i w w) (hG : ∀ i j w w' v, j ≠ i → G j w v → R i w w' → G j w' v) (hs : ∀ i ∈ O, StepR R P ops a0 w0.drew D G i)
    (hend : ∃ o, ops[n - 1]? = some o ∧ ∀ (vals : Nat → Value) (w' : World), Ext w0.drew w' → (∀ i ∈ O, (D.any fun e => e.1 == i) = true → G i w' (vals i)) →
      Region.wanted o (yielded ops (putAll a0 (D.map fun e => (e.2, vals e.1))).tmps) = true ∧ ∀ K : Act → World → Prop, Shut (∀ a' w'', Q .normal a' w'' → K a' w'') → Oper.wp P o (putAll a0 (D.map fun e => (e.2, vals e.1))) w' K Q) :
    (Code.region id ops true).wp P Q a0 w0 := by
  subst hO
  simp only [extOk1, Bool.and_eq_true, beq_iff_eq] at hok
  obtain ⟨⟨⟨⟨⟨⟨⟨hn, hw⟩, hk⟩, hd⟩, hdist⟩, hDlt⟩, hall1⟩, hpos⟩ := hok
  have hn0 : 0 < n := of_decide_eq_true hpos
  have hfall : ∀ j, j < n - 1 → ((bitsOf (rtab .any ops).2).getD (n - 1) 0).testBit j = true := fun j hj => List.all_eq_true.1 hall1 j (List.mem_range.2 hj)
  have hdist' : ∀ (k : Nat) (i : Nat) (t : Tmp), D[k]? = some (i, t) → ((D.take k ++ D.drop (k + 1)).all fun e => !(e.1 == i) && !(e.2 == t)) = true := fun k i t h => by
    have h1 := List.all_eq_true.1 hdist k (List.mem_range.2 (List.getElem?_eq_some_iff.1 h).1)
    rw [h] at h1
    exact h1
  have hfit' : ∀ e ∈ D, Nat.ble (e.2 + 1) a0.tmps.size = true := fun e he => List.all_eq_true.1 hfit e he
  refine start_ (n := n) (S := fun _ => True) (ds := []) (Array.replicate n false) hm hn rfl trivial (fun _ => ?_)
  have hTl : (rtab .any ops).2.length = n := by rw [rtab_length, hn]
  refine inv_ (md := .any) (T := rtab .any ops) (B := bitsOf (rtab .any ops).2) (List.range n)
    (fun b a w => if b (n - 1) = true then Q .normal a w else (Ext w0.drew w ∧ ∃ vals : Nat → Value, a = putSel a0 b (D.map fun e => (e.1, e.2, vals e.1)) ∧ ∀ i, b i = true → G i w (vals i))) rfl hw hk ?_ ?_ ?_ ?_
  · rw [hTl, Bool.and_eq_true, beq_iff_eq, beq_iff_eq]
    refine ⟨?_, by simp⟩
    rw [Array.toList_replicate]
    refine List.ext_getElem (by simp [lof]) (fun j h1 h2 => ?_)
    have hj : j < n := by simpa [lof] using h1
    simp [lof, hj]
  · dsimp only
    rw [if_neg Bool.false_ne_true]
    refine ⟨Ext.refl _, fun _ => undef, ?_, fun i h => by cases h⟩
    rw [putSel_begin (fun e he => rfl)]
  · intro i hi b a w hI hbi hon hoff
    have hin : i < n := List.mem_range.1 hi
    by_cases hif : i = n - 1
    · -- the last one
      subst hif
      rw [if_neg (by rw [hbi]; decide)] at hI
      obtain ⟨hE, vals, ha, hg⟩ := hI
      obtain ⟨o, ho, hlast⟩ := hend
      have hall' : ∀ j, j < n - 1 → b j = true := fun j hj => hon j (by rw [hfall j hj, Bool.and_true]; exact List.contains_iff_mem.2 (List.mem_range.2 (by omega)))
      have ha' : a = putAll a0 (D.map fun e => (e.2, vals e.1)) := by
        rw [ha, putSel_all (fun x hx => by
          obtain ⟨e, he, rfl⟩ := List.mem_map.1 hx
          exact hall' _ (of_decide_eq_true (List.all_eq_true.1 hDlt e he))), List.map_map]
        rfl
      refine ⟨o, ho, fun K hK => ?_⟩
      obtain ⟨hw1, hfin⟩ := hlast vals w hE (fun j hj _ => hg j (hall' j (List.mem_range.1 hj)))
      rw [← ha'] at hw1 hfin
      rw [if_pos hw1]
      exact hfin K (fun a' w'' hq => hK a' w'' (by dsimp only; rw [if_pos (up_self b _)]; exact hq))
    have hi1 : i ∈ List.range (n - 1) := List.mem_range.2 (by omega)
    have hbf : b (n - 1) = false := hoff (n - 1) (by rw [hfall i (by omega), Bool.and_true]; exact List.contains_iff_mem.2 (List.mem_range.2 (by omega)))
    rw [if_neg (by rw [hbf]; decide)] at hI
    obtain ⟨hE, vals, ha, hg⟩ := hI
    obtain ⟨o, ho, hstep⟩ := hs i hi1
    refine ⟨o, ho, fun K hK => ?_⟩
    have hD := List.all_eq_true.1 hd i hi1
    rw [ho] at hD
    simp only at hD
    -- the frame behind it
    have next : ∀ v w', R i w w' → G i w' v → K (a.put o.dst v) w' := by
      intro v w' hE' hv
      refine hK _ _ ?_
      dsimp only
      rw [if_neg (by rw [up_ne (fun e => hif e.symm), hbf]; decide)]
      refine ⟨hRE i _ _ hE hE', fun j => if j = i then v else vals j, ?_, fun j hj => ?_⟩
      · cases hdst : o.dst with
        | none =>
          rw [hdst] at hD
          have hD' : ∀ e ∈ D, e.1 ≠ i := fun e he => by have := List.all_eq_true.1 hD e he; simpa using this
          have hnoi : ((D.map fun e => (e.1, e.2, (fun j => if j = i then v else vals j) e.1)).all fun e => !(e.1 == i)) = true :=
            List.all_eq_true.2 (fun x hx => by
              obtain ⟨e, he, rfl⟩ := List.mem_map.1 hx
              have := hD' e he
              simp [this])
          rw [putSel_same hnoi]
          show a = _
          rw [ha]
          exact putSel_congr (f := vals) (g := fun j => if j = i then v else vals j) (fun e he => by rw [if_neg (hD' e he)])
        | some t =>
          rw [hdst] at hD
          have hmem : (i, t) ∈ D := List.contains_iff_mem.1 hD
          obtain ⟨k, hkD⟩ := List.getElem?_of_mem hmem
          have hdi := hdist' k i t hkD
          rw [ha]
          refine putSel_upk k (v0 := vals i) hbi (by rw [List.getElem?_map, hkD]; rfl) ?_ ?_
          · refine List.ext_getElem? (fun j => ?_)
            rw [List.getElem?_set, List.getElem?_map, List.getElem?_map]
            by_cases hkj : k = j
            · subst hkj
              have hlt : k < D.length := (List.getElem?_eq_some_iff.1 hkD).1
              rw [if_pos rfl, if_pos (by simpa using hlt), hkD]
              simp
            · rw [if_neg hkj]
              cases hj : D[j]? with
              | none => rfl
              | some e =>
                have he : e.1 ≠ i := by
                  have hm1 : e ∈ D.take k ++ D.drop (k + 1) := by
                    rw [List.mem_append]
                    rcases Nat.lt_or_gt_of_ne hkj with h | h
                    · right
                      refine List.mem_of_getElem? (i := j - (k + 1)) ?_
                      rw [List.getElem?_drop, show k + 1 + (j - (k + 1)) = j by omega, hj]
                    · left
                      refine List.mem_of_getElem? (i := j) ?_
                      rw [List.getElem?_take, if_pos h, hj]
                  have := List.all_eq_true.1 hdi e hm1
                  simp only [Bool.and_eq_true] at this
                  simpa using this.1
                simp [he]
          · refine List.all_eq_true.2 (fun x hx => ?_)
            rw [← List.map_take, ← List.map_drop, ← List.map_append] at hx
            obtain ⟨e, he, rfl⟩ := List.mem_map.1 hx
            exact List.all_eq_true.1 hdi e he
      · by_cases hji : j = i
        · subst hji; simpa using hv
        · rw [up_ne hji] at hj
          simp only [if_neg hji]
          exact hG i j _ _ _ hji (hg j hj) hE'
    have has : Has a0 a D ((bitsOf (rtab .any ops).2).getD i 0) G w := by
      refine ⟨fun j t hjt hbit => ?_, fun t ht => ?_⟩
      · have hmem : (j, t) ∈ D := List.contains_iff_mem.1 hjt
        have hjn : j < n := by
          -- bits stand for numbers of the region
          by_cases hlt : j < n
          · exact hlt
          · exfalso
            have hTi : (rtab .any ops).2[i]? = some ((rtab .any ops).2[i]'(by rw [hTl]; exact hin)) := List.getElem?_eq_getElem _
            have key : ∀ (m d : Nat), d ≤ m → d < n → ∀ q, ((bitsOf (rtab .any ops).2).getD d 0).testBit q = true → q < n := by
              intro m
              induction m with
              | zero =>
                intro d hdm hdn q hq
                obtain rfl : d = 0 := by omega
                have hr : (rtab .any ops).2[0]? = some ((rtab .any ops).2[0]'(by rw [hTl]; exact hdn)) := List.getElem?_eq_getElem _
                have h1 := List.all_eq_true.1 hw 0 (List.mem_range.2 (by rw [hTl]; exact hdn))
                rw [hr] at h1
                simp only [beq_iff_eq] at h1
                have h2 : (upM (bitsOf (rtab .any ops).2) 0 ((rtab .any ops).2[0]'(by rw [hTl]; exact hdn)).1).testBit q = true := by rw [← h1, Nat.testBit_or, hq, Bool.true_or]
                obtain ⟨p, hp, h3⟩ := upM_bit h2
                have := (baseOk_row hk hr).2 p hp
                omega
              | succ m ih =>
                intro d hdm hdn q hq
                have hr : (rtab .any ops).2[d]? = some ((rtab .any ops).2[d]'(by rw [hTl]; exact hdn)) := List.getElem?_eq_getElem _
                have h1 := List.all_eq_true.1 hw d (List.mem_range.2 (by rw [hTl]; exact hdn))
                rw [hr] at h1
                simp only [beq_iff_eq] at h1
                have h2 : (upM (bitsOf (rtab .any ops).2) d ((rtab .any ops).2[d]'(by rw [hTl]; exact hdn)).1).testBit q = true := by rw [← h1, Nat.testBit_or, hq, Bool.true_or]
                obtain ⟨p, hp, h3⟩ := upM_bit h2
                have h4 := (baseOk_row hk hr).2 p hp
                rcases h3 with rfl | ⟨h5, h6⟩
                · omega
                · exact ih p (by omega) (by omega) q h6
            exact hlt (key i i (Nat.le_refl _) hin j hbit)
        have hbj : b j = true := hon j (by rw [hbit, Bool.and_true]; exact List.contains_iff_mem.2 (List.mem_range.2 hjn))
        obtain ⟨k, hkD⟩ := List.getElem?_of_mem hmem
        refine ⟨vals j, ?_, hg j hbj⟩
        rw [ha]
        refine putSel_on (e := (j, t, vals j)) k (by rw [List.getElem?_map, hkD]; rfl) ?_ hbj (hfit' _ hmem)
        refine List.all_eq_true.2 (fun x hx => ?_)
        rw [← List.map_drop] at hx
        obtain ⟨e, he, rfl⟩ := List.mem_map.1 hx
        have := List.all_eq_true.1 (hdist' k j t hkD) e (List.mem_append_right _ he)
        simp only [Bool.and_eq_true] at this
        exact this.2
      · rw [ha]
        refine putSel_off (List.all_eq_true.2 (fun x hx => ?_))
        obtain ⟨e, he, rfl⟩ := List.mem_map.1 hx
        exact List.all_eq_true.1 ht e he
    rcases hstep a w hE has with ⟨hw1, hgood⟩ | ⟨hw0, hu⟩
    · rw [if_pos hw1]
      exact hgood.wp next
    · rw [if_neg (by rw [hw0]; decide)]
      exact next undef w (hR0 i w) hu
  · intro b a w hall hI
    rw [if_pos (hall (n - 1) (List.contains_iff_mem.2 (List.mem_range.2 (by omega))))] at hI
    exact hI

theorem goodR_of {Ri : World → World → Prop} {o : Oper} {a : Act} {w : World} {Gi : World → Value → Prop} (hR : Ri = Ext) (h : Good P o a w Gi) : GoodR Ri P o a w Gi := by subst hR; exact h
theorem goodR_new {Ri : World → World → Prop} {o : Oper} {a : Act} {w : World} {Gi : World → Value → Prop} (v : Value) (w' : World) (hr : (execOp a.eval o).run P w = .ok (.value v) w') (hE : Ri w w') (hg : Gi w' v) : GoodR Ri P o a w Gi := Or.inl ⟨v, w', hr, hE, hg⟩
end
end Go.Proofs.YtnkhhnfmijljbaaDoorW.PrintLast
set_option linter.unusedVariables false
set_option linter.unusedSimpArgs false
namespace Go.Proofs.YtnkhhnfmijljbaaDoor
open Go.RowKit Go.Proofs.YtnkhhnfmijljbaaDoorW.PrintWords Go.Proofs.YtnkhhnfmijljbaaDoorW.PrintLast Go.Proofs.YtnkhhnfmijljbaaDoorW.PrintMore

theorem rest_calls (n m : Int) (w : World) (hn : -9223372036854775808 ≤ n ∧ n ≤ 9223372036854775807) (h0 : 0 < m) (hm : m ≤ 4611686018427387904) :
    Calls Tryd.prog 19 #[.int .i64 n, .int .i64 m] w (fun e w' => e = .returned (.int .i64 (n % m)) ∧ w' = w) := by
  have hm0 : ¬ m = 0 := by omega
  obtain ⟨t, ht⟩ : ∃ t, t = n.tmod m := ⟨_, rfl⟩
  have ht1 : -m < t ∧ t < m := by
    rw [ht]
    have h1 := Int.tmod_lt_of_pos n h0
    have h2 := Int.lt_tmod_of_pos n h0
    omega
  have hr : (t + m).tmod m = n % m := by
    rw [Int.tmod_eq_emod_of_nonneg (by omega), Int.add_emod_right, ht]
    have h3 := Int.tmod_def n m
    rw [h3, Int.sub_emod, Int.mul_emod_right, Int.sub_zero, Int.emod_emod]
  have HR := Aside0.mk hr
  go_enter Tryd.func19, Tryd.ntmps19
  go_wp2
  go_ret
  have e : (n.tmod m + m) % m = n % m := by
    have h := HR.out
    rw [Int.tmod_eq_emod_of_nonneg (by omega), ht] at h
    exact h
  exact ⟨by show Ending.returned (Value.int .i64 ((n.tmod m + m) % m)) = _; rw [e], rfl⟩
end Go.Proofs.YtnkhhnfmijljbaaDoor
set_option linter.unusedVariables false
set_option linter.unusedSimpArgs false
namespace Go.Proofs.YtnkhhnfmijljbaaDoor
open Go.RowKit Go.Proofs.YtnkhhnfmijljbaaDoorW.PrintWords Go.Proofs.YtnkhhnfmijljbaaDoorW.PrintLast Go.Proofs.YtnkhhnfmijljbaaDoorW.PrintMore
open Extern.Stop (cell)
theorem KTab.ext {w w' : World} (h : KTab w) (hE : Ext w w') : KTab w' := h.below hE h.1
theorem FTab.ext {w w' : World} (h : FTab w) (hE : Ext w w') : FTab w' := h.below hE h.1
theorem LTab.ext {w w' : World} (h : LTab w) (hE : Ext w w') : LTab w' := h.below hE h.lt
theorem Row.ext {w w' : World} {b : Nat} {L : List Value} {t : TypeId} (h : Row w b L t) (hE : Ext w w') : Row w' b L t := h.below hE h.lt
theorem St.ext {w w' : World} {g : Nat} {bs : List UInt8} {tk : Int} (h : St w g bs tk) (hE : Ext w w') : St w' g bs tk := by
  obtain ⟨T, hT, hR⟩ := h
  exact ⟨T, hT, hR.ext hE⟩
theorem St.under {w w' : World} {g B : Nat} {bs : List UInt8} {tk : Int} (h : St w g bs tk) (hb : Below B w w') (hg : g < B) : St w' g bs tk := by
  obtain ⟨T, hT, hR⟩ := h
  exact ⟨T, hT, hR.below hb hg⟩
theorem Bs.ext {w w' : World} {A : Option Addr} {n : Nat} {xs : List UInt8} (h : Bs w A n xs) (hE : Ext w w') : Bs w' A n xs := h.below hE
theorem Bss.ext {w w' : World} {A : Option Addr} {n : Nat} {xs : List (List UInt8)} (h : Bss w A n xs) (hE : Ext w w') : Bss w' A n xs := h.below hE
/-- one slice, built -/
theorem bss_one {w : World} {A : Option Addr} {n c : Nat} {xs : List UInt8} (h : Bs w A n xs) (hc : n ≤ c) : Bss (w.alloc (.cells #[.slice A n c] 24)) (some ⟨w.heap.size, 0, none⟩) 1 [xs] := by
  have hl := h.len
  subst hl
  exact Bss.of_row (t := 24) (ls := [(A, c, xs)]) (Row.alloc w [.slice A xs.length c] 24) (fun l hl => by
    rw [List.mem_singleton] at hl; subst hl
    exact ⟨hc, h.ext ((Ext.refl w).alloc _)⟩) (by simp)
theorem bss_two {w : World} {A A' : Option Addr} {n c n' c' : Nat} {xs ys : List UInt8} (h : Bs w A n xs) (hc : n ≤ c) (h' : Bs w A' n' ys) (hc' : n' ≤ c') : Bss (w.alloc (.cells #[.slice A n c, .slice A' n' c'] 24)) (some ⟨w.heap.size, 0, none⟩) 2 [xs, ys] := by
  have hl := h.len
  subst hl
  have hl' := h'.len
  subst hl'
  exact Bss.of_row (t := 24) (ls := [(A, c, xs), (A', c', ys)]) (Row.alloc w [.slice A xs.length c, .slice A' ys.length c'] 24) (fun l hl => by
    rcases List.mem_cons.1 hl with rfl | hl
    · exact ⟨hc, h.ext ((Ext.refl w).alloc _)⟩
    · rw [List.mem_singleton] at hl; subst hl
      exact ⟨hc', h'.ext ((Ext.refl w).alloc _)⟩) (by simp)
theorem Bs.row {w : World} {b n : Nat} {xs : List UInt8} {t : TypeId} (h : Row w b (xs.map Extern.Stop.cell) t) (hn : n = xs.length) (hl : xs.length ≤ 9223372036854775807) : Bs w (some ⟨b, 0, none⟩) n xs := by
  subst hn
  exact Bs.of_row h hl
theorem addr_add (b i j : Nat) : (⟨b, i, none⟩ : Addr).add j = ⟨b, i + j, none⟩ := by unfold Addr.add; split <;> simp_all
theorem Bs.sub {w : World} {b : Nat} {xs : List UInt8} {t : TypeId} (h : Row w b (xs.map Extern.Stop.cell) t) (i m : Nat) (hi : i + m ≤ xs.length) (hl : xs.length ≤ 9223372036854775807) : Bs w (some ⟨b, i, none⟩) m ((xs.drop i).take m) := by
  have hm : m = ((xs.drop i).take m).length := by simp; omega
  refine Kd.C_of_reads (h1 := fun _ => rfl) (d := (0 : Int)) ⟨by rw [ints_length]; exact hm.symm, by omega, fun hn => ⟨_, rfl, fun j hj => ?_⟩⟩
  have hj' : i + j < xs.length := by omega
  have e1 : ((xs.drop i).take m)[j]? = some xs[i + j] := by rw [List.getElem?_take, if_pos hj, List.getElem?_drop, List.getElem?_eq_getElem hj']
  have e2 : (ints ((xs.drop i).take m)).getD j 0 = n8 xs[i + j] := by rw [ints, List.getD, List.getElem?_map, e1]; rfl
  have := h.cell (k := i + j) (v := .int .u8 ((ints ((xs.drop i).take m)).getD j 0)) (by rw [e2, List.getElem?_map, List.getElem?_eq_getElem hj']; rfl)
  rw [addr_add]
  exact this
/-- a write of a part of a row -/
theorem write_of (w : World) (g : Nat) (bs : List UInt8) (b i m c : Nat) (xs : List UInt8) (t : TypeId) (hK : KTab w) (hS : St w g bs bs.length) (hR : Row w b (xs.map cell) t) (hne : b ≠ g) (hi : i + m ≤ xs.length) (hc : m ≤ c) (hl : xs.length < 4611686018427387904)
    (hlen : bs.length + m < 4611686018427387904) :
    Calls Tryd.prog 20 #[.pointer (some ⟨g, 0, none⟩), .slice (some ⟨b, i, none⟩) m c] w (fun e w' => e = .returned (.tuple #[]) ∧ Only w g w' ∧ St w' g (bs ++ (xs.drop i).take m) (bs ++ (xs.drop i).take m).length) := by
  have hm : ((xs.drop i).take m).length = m := by simp; omega
  have h := write_calls w g bs (some ⟨b, i, none⟩) c ((xs.drop i).take m) hK hS (by rw [hm]; exact Bs.sub hR i m hi (by omega)) (by omega) (fun ad ha _ => by cases ha; exact hne) (by rw [hm]; exact hlen)
  rw [hm] at h
  exact h
/-- sha.Sum of one slice, built here -/
theorem sumOne_calls (w : World) (A : Option Addr) (n c : Nat) (xs : List UInt8) (hK : KTab w) (hF : FTab w) (h : Bs w A n xs) (hc : n ≤ c) (hl : xs.length < 500000000000000000) :
    Calls Tryd.prog 16 #[.slice (some ⟨w.heap.size, 0, none⟩) 1 1] (w.alloc (.cells #[.slice A n c] 24)) (fun e w' => e = .returned (hashV (Spec.digest xs)) ∧ Ext w w') := by
  have hE : Ext w (w.alloc (.cells #[.slice A n c] 24)) := (Ext.refl w).alloc _
  refine (shaSum_calls _ (some ⟨w.heap.size, 0, none⟩) 1 [xs] (hK.ext hE) (hF.ext hE) (bss_one h hc) (by simpa using hl)).mono ?_
  rintro e w' ⟨rfl, h1⟩
  exact ⟨by simp, hE.trans h1⟩
end Go.Proofs.YtnkhhnfmijljbaaDoor
set_option linter.unusedVariables false
set_option linter.unusedSimpArgs false
namespace Go.Proofs.YtnkhhnfmijljbaaDoor
open Go.RowKit Go.Proofs.YtnkhhnfmijljbaaDoorW.PrintWords Go.Proofs.YtnkhhnfmijljbaaDoorW.PrintLast Go.Proofs.YtnkhhnfmijljbaaDoorW.PrintMore
open Extern.Stop (cell)

/-- a slice that holds the bytes xs, none of which lies below block B -/
def Fr (B : Nat) (w : World) (v : Value) (xs : List UInt8) : Prop := ∃ A c, v = .slice A xs.length c ∧ xs.length ≤ c ∧ Bs w A xs.length xs ∧ ∀ ad, A = some ad → 0 < xs.length → B ≤ ad.block
section
variable {B : Nat} {w w' : World} {v : Value} {xs : List UInt8}
theorem Fr.ext (h : Fr B w v xs) (hE : Ext w w') : Fr B w' v xs := by
  obtain ⟨A, c, h1, h2, h3, h4⟩ := h
  exact ⟨A, c, h1, h2, h3.ext hE, h4⟩
theorem Fr.mono {B' : Nat} (h : Fr B w v xs) (hb : B' ≤ B) : Fr B' w v xs := by
  obtain ⟨A, c, h1, h2, h3, h4⟩ := h
  exact ⟨A, c, h1, h2, h3, fun ad h5 h6 => Nat.le_trans hb (h4 ad h5 h6)⟩
theorem Fr.only {g : Nat} (h : Fr B w v xs) (hO : Only w g w') (hg : g < B) : Fr B w' v xs := by
  obtain ⟨A, c, h1, h2, h3, h4⟩ := h
  exact ⟨A, c, h1, h2, h3.only hO (fun ad h5 h6 => by have := h4 ad h5 h6; omega), h4⟩
theorem Fr.of_bs {A : Option Addr} {n c : Nat} (h : Bs w A n xs) (hc : n ≤ c) : Fr 0 w (.slice A n c) xs := by
  have hl := h.len
  subst hl
  exact ⟨A, c, rfl, hc, h, fun _ _ _ => Nat.zero_le _⟩
/-- what was there when the call began -/
theorem Fr.below {a : World} (h : Fr B a v xs) (hb : Below a.heap.size a w) : Fr B w v xs := by
  obtain ⟨A, c, h1, h2, h3, h4⟩ := h
  exact ⟨A, c, h1, h2, h3.below hb, h4⟩
theorem fr_lt {A : Option Addr} {n : Nat} (h : Bs w A n xs) (ad : Addr) (ha : A = some ad) (hn : 0 < n) : ad.block < w.heap.size := by
  obtain ⟨ad', h1, h2⟩ := h.cells hn
  have hl := h.len
  rw [ha] at h1
  cases h1
  have h3 := Go.World.block_lt_of_cell? _ _ (h2 0 _ (by rw [List.getElem?_map, List.getElem?_eq_getElem (by omega : 0 < xs.length)]; rfl))
  rw [add_block] at h3
  exact h3
end
theorem below_ext {w a b : World} (h : Below w.heap.size w a) (k : Ext a b) : Below w.heap.size w b := Ext.below h h.size k
theorem i5 : ∃ i : TypeInfo, Tryd.prog.info? 5 = some i ∧ i.zero = some (.int .u8 0) ∧ i.size = 1 ∧ i.bytes = 1 := by
  obtain ⟨i, h, hz⟩ := Option.map_eq_some_iff.1 info5
  simp only [Prod.mk.injEq] at hz
  exact ⟨i, h, hz.1, hz.2.1, hz.2.2⟩
theorem info24 : (Tryd.prog.info? 24).map (fun i => (i.zero, i.size, i.bytes)) = some (some (.slice none 0 0), 1, 24) := by kernel_rfl
theorem i24 : ∃ i : TypeInfo, Tryd.prog.info? 24 = some i ∧ i.zero = some (.slice none 0 0) ∧ i.size = 1 ∧ i.bytes = 24 := by
  obtain ⟨i, h, hz⟩ := Option.map_eq_some_iff.1 info24
  simp only [Prod.mk.injEq] at hz
  exact ⟨i, h, hz.1, hz.2.1, hz.2.2⟩
/-- v[:j] -/
theorem fr_to {B : Nat} {w : World} {v : Value} {xs : List UInt8} (h : Fr B w v xs) (j : Int) (h0 : 0 ≤ j) (h1 : j ≤ xs.length) :
    ∃ v1, (∀ W, (Instr.slice 24 v none (some (.int .i64 j)) none).run Tryd.prog W = .ok v1 W) ∧ Fr B w v1 (xs.take j.toNat) := by
  obtain ⟨A, c, rfl, hc, hb, hf⟩ := h
  obtain ⟨i, hi, _, _, _⟩ := i5
  refine ⟨_, cut_to 24 5 .i64 Tryd.underlying24 hi A xs.length c j h0 h1 hc, A, c, ?_, ?_, ?_, fun ad ha hn => hf ad ha ?_⟩
  · rw [List.length_take, Nat.min_eq_left (by omega)]
  · rw [List.length_take]; omega
  · exact hb.take j.toNat (by omega)
  · rw [List.length_take] at hn; omega
/-- v[j:] -/
theorem fr_from {B : Nat} {w : World} {v : Value} {xs : List UInt8} (h : Fr B w v xs) (j : Int) (h0 : 0 ≤ j) (h1 : j ≤ xs.length) :
    ∃ v1, (∀ W, (Instr.slice 24 v (some (.int .i64 j)) none none).run Tryd.prog W = .ok v1 W) ∧ Fr B w v1 (xs.drop j.toNat) := by
  obtain ⟨A, c, rfl, hc, hb, hf⟩ := h
  obtain ⟨i, hi, _, hsz, _⟩ := i5
  refine ⟨_, cut_from 24 5 .i64 Tryd.underlying24 hi 1 hsz A xs.length c j h0 h1, (if c = j.toNat then A else A.map (·.add (j.toNat * 1))), c - j.toNat, ?_, ?_, ?_, fun ad ha hn => ?_⟩
  · rw [List.length_drop]
  · rw [List.length_drop]; omega
  · rw [Nat.mul_one]; exact hb.drop j.toNat (by omega) hc
  · rw [List.length_drop] at hn
    split at ha
    · exact hf ad ha (by omega)
    · obtain ⟨ad', h2, h3⟩ := Option.map_eq_some_iff.1 ha
      rw [← h3, add_block]
      exact hf ad' h2 (by omega)
theorem cells_of_bs {w : World} {ad : Addr} {n : Nat} {xs : List UInt8} (h : Bs w (some ad) n xs) : ∀ j u, (xs.map cell)[j]? = some u → w.cell? (ad.add j) = some u := by
  intro j u hu
  have hl := h.len
  have hj := (List.getElem?_eq_some_iff.1 hu).1
  rw [List.length_map] at hj
  obtain ⟨ad', h1, h2⟩ := h.cells (by omega)
  cases h1
  exact h2 j u hu
/-- append([]byte{}, xs...): a copy in a block of its own -/
theorem run_copyB (W : World) (ty : TypeId) (ad : Addr) (A : Option Addr) (c : Nat) (ys : List UInt8) (h : Bs W A ys.length ys) (hl : ys.length ≤ 140737488355328) :
    ∃ v1 w1, (Builtin.append_ #[24, 24] ty #[.slice (some ad) 0 0, .slice A ys.length c]).run Tryd.prog W = .ok v1 w1 ∧ Ext W w1 ∧ Fr W.heap.size w1 v1 ys := by
  obtain ⟨i, hi, hz, hsz, hby⟩ := i5
  rcases Nat.eq_zero_or_pos ys.length with h0 | h0
  · obtain rfl : ys = [] := List.eq_nil_of_length_eq_zero h0
    refine ⟨.slice (some ad) 0 0, W, ?_, Ext.refl W, some ad, 0, rfl, Nat.le_refl _, h.len ▸ ?_, fun a _ hp => by simp at hp⟩
    · cases A with
      | none => simp [Builtin.append_, run_underlying Tryd.underlying24, sizeOf, typeInfo, hi, Builtin.lenOf, Builtin.firstCells, storeCells]
      | some a => simp [Builtin.append_, run_underlying Tryd.underlying24, sizeOf, typeInfo, hi, Builtin.lenOf, Builtin.firstCells, storeCells, loadCells, loadCellsFrom]
    · exact Kd.C_of_reads (h1 := fun _ => rfl) (d := (0 : Int)) ⟨rfl, by simp, fun hp => by simp at hp⟩
  · obtain ⟨a, rfl, _⟩ := h.cells h0
    have hr := run_append_grow (P := Tryd.prog) W 24 ty 5 i (.int .u8 0) Tryd.underlying24 hi hz ad 0 0 [] (by simp) (by intro j v hj; simp at hj) a ys.length c (ys.map cell) (by rw [List.length_map, hsz, Nat.mul_one]) (cells_of_bs h) (by omega) (by omega) (growslice_fits (by omega) (by rw [hby]; omega))
    simp only [Nat.zero_add] at hr
    have hge := grownCap_ge W ys.length 0 5
    refine ⟨_, _, hr, ((Ext.refl W).drew).alloc _, _, _, rfl, hge, ?_, fun ad' ha _ => by cases ha; exact Nat.le_refl _⟩
    refine Kd.C_of_reads (h1 := fun _ => rfl) (d := (0 : Int)) ⟨ints_length ys, by omega, fun _ => ⟨_, rfl, fun j hj => ?_⟩⟩
    rw [addr_add, Nat.zero_add]
    refine (cell_of_row _ W.heap.size j _ 5 (0, 0) (heap_alloc_new W.drew _)).trans ?_
    rw [Array.empty_append, Array.getElem?_append_left (by simpa using hj)]
    simp [Extern.Stop.cell, ints, List.getD, hj, n8]
/-! ### lists of slices of bytes, the call's own -/
abbrev Pt := Option Addr × Nat × List UInt8
def pv (l : Pt) : Value := .slice l.1 l.2.2.length l.2.1
/-- v is a list of slices of the call's own (from block B on), which hold the bytes of ls; none of them lies in v's own block, nor below block B' -/
def Pl (B B' : Nat) (w : World) (v : Value) (ls : List Pt) : Prop :=
  w.ownsRow B 24 1 v ls.length (ls.map pv) ∧ ∀ l ∈ ls, Fr B' w (pv l) l.2.2 ∧ ∀ ad, l.1 = some ad → 0 < l.2.2.length → v.ownBlock ≠ some ad.block
section
variable {B B' : Nat} {w w' : World} {v : Value} {ls : List Pt}
theorem Pl.nil : Pl B B' w (.slice none 0 0) [] := ⟨own_nil _ _ _ _, fun l h => by cases h⟩
theorem grown_of_only {g : Nat} (hO : Only w g w') : w.grownBy w' (some g) := ⟨hO.os, hO.tape, hO.output, hO.size, fun k hk hne => hO.block k hk (fun e => hne (by rw [e]))⟩
theorem Pl.ext (h : Pl B B' w v ls) (hE : Ext w w') : Pl B B' w' v ls := ⟨pw_own_below h.1 hE, fun l hl => ⟨(h.2 l hl).1.ext hE, (h.2 l hl).2⟩⟩
theorem Pl.only {g : Nat} (h : Pl B B' w v ls) (hO : Only w g w') (hg : g < B) (hg' : g < B') : Pl B B' w' v ls :=
  ⟨h.1.kept (grown_of_only hO) (by
    cases hb : v.ownBlock with
    | none => exact .inl rfl
    | some k => exact .inr (fun e => by have := own_base h.1 k hb; injection e with e; omega)), fun l hl => ⟨(h.2 l hl).1.only hO hg', (h.2 l hl).2⟩⟩
theorem Fr.grown {xs : List UInt8} {A : Option Addr} {n c : Nat} {row : Option Nat} (h : Fr B w (.slice A n c) xs) (hg : w.grownBy w' row) (hne : ∀ ad, A = some ad → 0 < n → row ≠ some ad.block) : Fr B w' (.slice A n c) xs := by
  obtain ⟨A', c', h1, h2, h3, h4⟩ := h
  cases h1
  refine ⟨A, c, rfl, h2, ?_, h4⟩
  have hl : ReadsOf (Value.int .u8) (0 : Int) w A xs.length (ints xs) := Kd.reads_of_C (h1 := fun _ => rfl) h3
  refine Kd.C_of_reads (h1 := fun _ => rfl) (d := (0 : Int)) ⟨hl.1, hl.2.1, fun hn => ?_⟩
  obtain ⟨ad, e, hc⟩ := hl.2.2 hn
  refine ⟨ad, e, fun j hj => ?_⟩
  exact hg.cell (hc j hj) (by rw [add_block]; exact fun e' => hne ad e hn e'.symm)
theorem Pl.slice (h : Pl B B' w v ls) : ∃ A c, v = .slice A ls.length c ∧ ls.length ≤ c := by
  obtain ⟨A, c, rfl⟩ := own_slice h.1
  exact ⟨A, c, rfl, own_le h.1⟩
theorem Pl.bss (h : Pl B B' w v ls) : ∃ A c, v = .slice A ls.length c ∧ ls.length ≤ c ∧ Bss w A ls.length (ls.map (·.2.2)) := by
  obtain ⟨A, c, rfl, hc⟩ := h.slice
  refine ⟨A, c, rfl, hc, ?_⟩
  have hmax : ls.length ≤ 9223372036854775807 := by
    rcases h.1.2 with ⟨_, h0⟩ | ⟨_, cap, _, _, _, _, h1, h2, _⟩
    · omega
    · unfold maxLen at h2; omega
  refine ⟨by simp, hmax, fun hn => ?_⟩
  obtain ⟨g, cap, e, _, _⟩ := h.1.form hn
  injection e with e1 e2 e3
  subst e1
  subst e3
  refine ⟨_, rfl, fun j p hj => ?_⟩
  obtain ⟨hjl, hp⟩ := List.getElem?_eq_some_iff.1 hj
  have hjl' : j < ls.length := by simpa using hjl
  obtain ⟨A', c', hv', hc', hb', _⟩ := (h.2 ls[j] (List.getElem_mem _)).1
  have hpe : p = ints ls[j].2.2 := by rw [← hp]; simp
  subst hpe
  refine ⟨[pv ls[j]], rfl, ⟨A', c', by rw [ints_length, hv'], by rw [ints_length]; exact hc', by rw [ints_length]; exact hb'⟩, fun i u hu => ?_⟩
  have hi : i = 0 := by
    have := (List.getElem?_eq_some_iff.1 hu).1
    simpa using this
  subst hi
  have hu' : u = pv ls[j] := by simpa using hu.symm
  rw [hu', show (⟨g, 0, none⟩ : Addr).add (j * (Kd.slice 5 (Kd.int .u8)).sz + 0) = (⟨g, 0, none⟩ : Addr).add j by show (⟨g, 0, none⟩ : Addr).add (j * 1 + 0) = _; rw [Nat.mul_one, Nat.add_zero]]
  exact h.1.cells (g := g) rfl j _ (by simp [hjl'])
end
section
variable {ops : Array Oper} {rest : List Oper} {o : Oper} {a : Act} {Q : Exit → Act → World → Prop}
/-- 'ls = append(ls, p)' -/
theorem wpL_pl {W : World} {B B' : Nat} {v : Value} {ls : List Pt} (p : Pt) (hgd : o.guard = none) (s x : Operand) (ho : o.op = .call { callee := .builtin .append, args := #[s, x], argTypes := #[22, 22] }) (hs : a.eval s = v) (hx : a.eval x = .slice (some ⟨W.heap.size, 0, none⟩) 1 1)
    (h : Pl B B' W v ls) (hp : Fr B' W (pv p) p.2.2) (hpv : ∀ ad, p.1 = some ad → 0 < p.2.2.length → v.ownBlock ≠ some ad.block) (hB : B ≤ W.heap.size) (hl : ls.length < 5000000000000)
    (k : ∀ v1 w1, Pl B B' w1 v1 (ls ++ [p]) → Below B W w1 → W.grownBy w1 v.ownBlock → wpList Tryd.prog ops Q rest (a.put o.dst v1) w1) : wpList Tryd.prog ops Q (o :: rest) a (W.alloc (.cells #[pv p] 24)) := by
  refine print_append (P := Tryd.prog) B hgd s x 22 24 (.slice none 0 0) 24 ho Tryd.underlying22 info24 rfl (by omega) v (ls.map pv) (pv p) hs hx rfl (by rw [List.length_map]; exact h.1) (Below.refl _ _) hB (by rw [List.length_map]; omega) ?_
  intro v1 w1 hO hb hg hat
  refine k v1 w1 ⟨by simpa using hO, fun l hl' => ?_⟩ hb hg
  have key : ∀ l, Fr B' W (pv l) l.2.2 → (∀ ad, l.1 = some ad → 0 < l.2.2.length → v.ownBlock ≠ some ad.block) → Fr B' w1 (pv l) l.2.2 ∧ ∀ ad, l.1 = some ad → 0 < l.2.2.length → v1.ownBlock ≠ some ad.block := by
    intro l hf hne
    refine ⟨Fr.grown hf hg hne, fun ad ha hn => ?_⟩
    rcases hat with e | ⟨b, e, hb'⟩
    · rw [e]; exact hne ad ha hn
    · rw [e]
      intro e'
      injection e' with e'
      obtain ⟨A', c', hv', _, hbs, _⟩ := hf
      have e1 : A' = some ad := by unfold pv at hv'; injection hv' with e2; rw [← e2, ha]
      have := fr_lt hbs ad e1 hn
      omega
  rcases List.mem_append.1 hl' with hl' | hl'
  · exact key l (h.2 l hl').1 (h.2 l hl').2
  · rw [List.mem_singleton] at hl'
    subst hl'
    exact key _ hp hpv
theorem wpL_ex {op : Op} {dst : Option Tmp} {ty : TypeId} {pos : String} {after : Array Edge} {guard : Option (Nat × Bool)} {w : World} {F : Value → World → Prop} (hw : Region.wanted ⟨dst, op, ty, pos, after, guard⟩ (yielded ops a.tmps) = true)
    (h : ∃ v w1, (execOp a.eval ⟨dst, op, ty, pos, after, guard⟩).run Tryd.prog w = .ok (.value v) w1 ∧ F v w1) (k : ∀ v w1, F v w1 → wpList Tryd.prog ops Q rest (a.put dst v) w1) : wpList Tryd.prog ops Q (⟨dst, op, ty, pos, after, guard⟩ :: rest) a w := by
  obtain ⟨v, w1, hr, hf⟩ := h
  exact wpL_val v hw hr (k v w1 hf)
end
theorem exec_append {P : Program} {w : World} {ρ : Operand → Value} {o : Oper} {s x : Operand} {t u : TypeId} (ho : o.op = .call { callee := .builtin .append, args := #[s, x], argTypes := #[t, u] }) {v : Value} {w1 : World}
    (h : (Builtin.append_ #[t, u] o.type #[ρ s, ρ x]).run P w = .ok v w1) : (execOp ρ o).run P w = .ok (.value v) w1 := by
  unfold execOp
  simp only [ho, resolve, invoke, builtin, Sem.run_bind, Sem.run_pure, Result.andThen_ok, List.map_toArray, List.map_cons, List.map_nil, h]
theorem elem24 : Tryd.prog.underlying 24 = some (.slice (Tryd.prog.elem 24)) := by kernel_rfl
theorem exec_slice {w : World} {ρ : Operand → Value} {o : Oper} {x : Operand} {lo hi mx : Option Operand} (ho : o.op = .slice 24 x lo hi mx) {v : Value} {w1 : World}
    (h : (Instr.slice 24 (ρ x) (lo.map ρ) (hi.map ρ) (mx.map ρ)).run Tryd.prog w = .ok v w1) : (execOp ρ o).run Tryd.prog w = .ok (.value v) w1 := by
  unfold execOp
  rw [ho]
  simp only [Sem.run_bind, Sem.run_pure, Result.andThen_ok, run_sliceAt_slice _ _ _ _ _ _ elem24, h]
section
variable {ops : Array Oper} {rest : List Oper} {a : Act} {Q : Exit → Act → World → Prop} {dst : Option Tmp} {ty : TypeId} {pos : String} {after : Array Edge} {guard : Option (Nat × Bool)} {w : World}
/-- 'x[lo:hi]' -/
theorem wpL_slice {x : Operand} {lo hi mx : Option Operand} (v : Value) (hw : Region.wanted ⟨dst, .slice 24 x lo hi mx, ty, pos, after, guard⟩ (yielded ops a.tmps) = true) (h : (Instr.slice 24 (a.eval x) (lo.map a.eval) (hi.map a.eval) (mx.map a.eval)).run Tryd.prog w = .ok v w)
    (k : wpList Tryd.prog ops Q rest (a.put dst v) w) : wpList Tryd.prog ops Q (⟨dst, .slice 24 x lo hi mx, ty, pos, after, guard⟩ :: rest) a w := wpL_val v hw (exec_slice (o := ⟨dst, .slice 24 x lo hi mx, ty, pos, after, guard⟩) rfl h) k
/-- 'append(s, x...)' -/
theorem wpL_append {s x : Operand} {t u : TypeId} {F : Value → World → Prop} (hw : Region.wanted ⟨dst, .call { callee := .builtin .append, args := #[s, x], argTypes := #[t, u] }, ty, pos, after, guard⟩ (yielded ops a.tmps) = true)
    (h : ∃ v w1, (Builtin.append_ #[t, u] ty #[a.eval s, a.eval x]).run Tryd.prog w = .ok v w1 ∧ F v w1) (k : ∀ v w1, F v w1 → wpList Tryd.prog ops Q rest (a.put dst v) w1) :
    wpList Tryd.prog ops Q (⟨dst, .call { callee := .builtin .append, args := #[s, x], argTypes := #[t, u] }, ty, pos, after, guard⟩ :: rest) a w := by
  obtain ⟨v, w1, hr, hf⟩ := h
  exact wpL_val v hw (exec_append (o := ⟨dst, .call { callee := .builtin .append, args := #[s, x], argTypes := #[t, u] }, ty, pos, after, guard⟩) rfl hr) (k v w1 hf)
end
end Go.Proofs.YtnkhhnfmijljbaaDoor
set_option linter.unusedVariables false
set_option linter.unusedSimpArgs false
namespace Go.Proofs.YtnkhhnfmijljbaaDoor.Spec
/-- a secret's block -/
def key (s : List UInt8) : List UInt8 := (if 64 < s.length then digest s else s) ++ List.replicate (64 - (if 64 < s.length then digest s else s).length) 0
def xorL (x : UInt8) (l : List UInt8) : List UInt8 := l.map (· ^^^ x)
/-- the code of a message under a secret -/
def code (s m : List UInt8) : List UInt8 := digest (xorL 0x5c (key s) ++ digest (xorL 0x36 (key s) ++ m))
theorem key_length (s : List UInt8) : (key s).length = 64 := by
  unfold key
  by_cases h : 64 < s.length
  · simp [h, digest_length]
  · simp [h]; omega
theorem xorL_length (x : UInt8) (l : List UInt8) : (xorL x l).length = l.length := by simp [xorL]
theorem code_length (s m : List UInt8) : (code s m).length = 32 := digest_length _
end Go.Proofs.YtnkhhnfmijljbaaDoor.Spec
namespace Go.Proofs.YtnkhhnfmijljbaaDoor
open Go.RowKit Go.Proofs.YtnkhhnfmijljbaaDoorW.PrintWords Go.Proofs.YtnkhhnfmijljbaaDoorW.PrintLast Go.Proofs.YtnkhhnfmijljbaaDoorW.PrintMore
open Extern.Stop (cell)

/-- bytes copied to the head of a block of bytes -/
theorem run_copy_into (w : World) (ty : TypeId) (g : Nat) (ys : List UInt8) (t : TypeId) (N c : Nat) (A : Option Addr) (c' : Nat) (xs : List UInt8) (hR : Row w g (ys.map cell) t) (hN : N = ys.length) (hB : Bs w A xs.length xs) (hle : xs.length ≤ ys.length) :
    ∃ k w', (Builtin.copy_ #[24, 24] ty #[.slice (some ⟨g, 0, none⟩) N c, .slice A xs.length c']).run Tryd.prog w = .ok k w' ∧ Only w g w' ∧ Row w' g ((xs ++ ys.drop xs.length).map cell) t := by
  subst hN
  have hmin : Nat.min xs.length ys.length = xs.length := Nat.min_eq_left hle
  rcases Nat.eq_zero_or_pos xs.length with h0 | h0
  · obtain rfl : xs = [] := List.eq_nil_of_length_eq_zero h0
    exact ⟨_, w, run_copy_none w 24 24 ty 5 _ A _ _ _ _ Tryd.underlying24 (by kernel_rfl) (by rw [hmin]; rfl), Only.refl w g, by simpa using hR⟩
  · obtain ⟨ad, rfl, _⟩ := hB.cells h0
    have hr := run_copy_row (P := Tryd.prog) w 24 24 ty 5 g 0 ys.length c ad xs.length c' (ys.map cell).toArray t (xs.map cell) Tryd.underlying24 (by kernel_rfl) hR (by rw [List.length_map, hmin]) (cells_of_bs hB) (by simpa using hle)
      (by intro v hv; obtain ⟨y, _, rfl⟩ := List.mem_map.1 hv; rfl)
    refine ⟨_, _, hr, (Only.refl w g).setRow _, ?_⟩
    have h := Row.setRow (L' := (xs ++ ys.drop xs.length).map cell) hR
    simp only [Nat.zero_add, List.take_zero, List.nil_append, List.length_map, ← List.map_drop, ← List.map_append]
    exact h
theorem wpL_copy {ops : Array Oper} {rest : List Oper} {a : Act} {Q : Exit → Act → World → Prop} {dst : Option Tmp} {ty : TypeId} {pos : String} {after : Array Edge} {w : World} {d s : Operand} {F : Value → World → Prop}
    (h : ∃ v w1, (Builtin.copy_ #[24, 24] ty #[a.eval d, a.eval s]).run Tryd.prog w = .ok v w1 ∧ F v w1) (k : ∀ v w1, F v w1 → wpList Tryd.prog ops Q rest (a.put dst v) w1) :
    wpList Tryd.prog ops Q (⟨dst, .call { callee := .builtin .copy, args := #[d, s], argTypes := #[24, 24] }, ty, pos, after, none⟩ :: rest) a w := by
  obtain ⟨v, w1, hr, hf⟩ := h
  exact Lib.wpList_copy_run w rfl d s 24 24 rfl _ _ rfl rfl hr (k v w1 hf)
theorem z8_eq (n : Nat) : z8 n = (List.replicate n (0 : UInt8)).map cell := by simp [z8, cell]
set_option maxHeartbeats 1000000 in
set_option maxRecDepth 100000 in
theorem mblock_calls (w : World) (A : Option Addr) (c : Nat) (xs : List UInt8) (hK : KTab w) (hF : FTab w) (hx : Bs w A xs.length xs) (hc : xs.length ≤ c) (hl : xs.length < 500000000000000000) :
    Calls Tryd.prog 40 #[.slice A xs.length c] w (fun e w' => e = .returned (.agg ((Spec.key xs).map cell).toArray) ∧ Below w.heap.size w w') := by
  obtain ⟨B, hBdef⟩ : ∃ B, B = w.heap.size := ⟨_, rfl⟩
  have HBD := Aside0.mk hBdef
  have HK := Aside0.mk hK
  have HF := Aside0.mk hF
  have HX := Aside0.mk hx
  clear hK hF hx
  go_enter Tryd.func40, Tryd.ntmps40
  go_wp2_with (with_reducible refine gate_dst (N := 6) rfl ?_; refine Aside0.out ?_)
  refine Aside0.mk ?_
  refine wpList_world (fun w1 => Ext w w1 ∧ w1.heap.size = B + 2 ∧ Row w1 B (z8 64) 74 ∧ Row w1 (B + 1) (z8 64) 74) ⟨?_, ?_, ?_, ?_⟩ ?_
  · exact ((Ext.refl w).alloc _).alloc _
  · simp [hBdef]
  · rw [hBdef]; exact (Row.alloc w (z8 64) 74).alloc_other _
  · rw [hBdef, show w.heap.size + 1 = (w.alloc (.cells (z8 64).toArray 74)).heap.size by simp]; exact Row.alloc _ (z8 64) 74
  rintro w1 ⟨hE1, hS1, hA1, hC1⟩
  rw [← hBdef]
  have HE1 := Aside0.mk hE1
  have HS1 := Aside0.mk hS1
  have HA1 := Aside0.mk hA1
  have HC1 := Aside0.mk hC1
  have HX1 := Aside0.mk (HX.out.ext hE1)
  clear hE1 hS1 hA1 hC1 hBdef
  by_cases h64 : 64 < xs.length
  · have h64' : (64 : Int) < xs.length := by omega
    go_wp2_with fail
    refine (sumOne_calls w1 A xs.length c xs (HK.out.ext HE1.out) (HF.out.ext HE1.out) HX1.out hc hl).mono ?_
    rintro e w2 ⟨rfl, hE2⟩
    have HE2 := Aside0.mk hE2
    clear hE2
    go_wp2_with (with_reducible change wpList _ _ _ (Oper.mk _ (Op.store 28 _ _) _ _ _ _ :: _) _ _; refine Aside0.out ?_)
    refine Aside0.mk ?_
    refine wpList_store_row rfl 28 _ _ rfl w2.heap.size ((Spec.digest xs).map cell).toArray rfl (by simp only [go_sem, hashV, Act.eval, Act.put]; rfl) 28 _ (heap_alloc_new _ _) (by kernel_rfl) rfl (oneCells _) ?_
    obtain ⟨R, hR⟩ : ∃ R, R = w2.heap.size := ⟨_, rfl⟩
    have hEr : Ext w2 ((w2.alloc (.cells (z8 32).toArray 28)).setRow w2.heap.size ((Spec.digest xs).map cell).toArray) := below_alloc_setRow _ _ _
    refine wpList_world (fun w3 => Ext w1 w3 ∧ Row w3 R ((Spec.digest xs).map cell) 28) ⟨HE2.out.trans hEr, by rw [hR]; exact alloc_setRow _ _ _ _⟩ ?_
    rintro w3 ⟨hE3, hR3⟩
    rw [← hR]
    have HE3 := Aside0.mk hE3
    have HR3 := Aside0.mk hR3
    clear hE3 hR3 hR hEr
    go_wp2_with (with_reducible refine gate_dst (N := 14) rfl ?_; refine Aside0.out ?_)
    refine Aside0.mk ?_
    have hBs := Bs.row HR3.out (n := 32) (by rw [Spec.digest_length]) (by rw [Spec.digest_length]; omega)
    have hz3 : Row w3 (B + 1) ((List.replicate 64 (0 : UInt8)).map cell) 74 := by rw [← z8_eq]; exact HC1.out.ext HE3.out
    have HA3 := Aside0.mk (HA1.out.ext HE3.out)
    have HBS := Aside0.mk hBs
    have HZ3 := Aside0.mk hz3
    have hdl : (Spec.digest xs).length = 32 := Spec.digest_length xs
    clear hBs hz3
    refine wpL_copy (F := fun _ w4 => Only w3 (B + 1) w4 ∧ Row w4 (B + 1) ((Spec.key xs).map cell) 74) ?_ ?_
    · obtain ⟨k, w4, hr, hO, hR⟩ := run_copy_into w3 3 (B + 1) (List.replicate 64 0) 74 64 64 (some ⟨R, 0, none⟩) 32 (Spec.digest xs) HZ3.out rfl (by rw [hdl]; exact HBS.out) (by rw [hdl, List.length_replicate]; omega)
      rw [hdl] at hr
      refine ⟨k, w4, hr, hO, ?_⟩
      have e : Spec.key xs = Spec.digest xs ++ (List.replicate 64 0).drop (Spec.digest xs).length := by rw [Spec.key, if_pos h64, List.drop_replicate]
      rw [e]
      exact hR
    rintro v4 w4 ⟨hO4, hR4⟩
    have HA4 := Aside0.mk (hO4.row HA3.out (by omega))
    have HB4 := Aside0.mk (below_only (B := B) (by rw [HBD.out]; exact below_ext HE1.out HE3.out) hO4 (by omega) (by have := HE3.out.size; have := HS1.out; omega))
    have HR4 := Aside0.mk hR4
    have hk64 := Spec.key_length xs
    have HKL := Aside0.mk (show ((Spec.key xs).map cell).toArray.size = 64 by simp [hk64])
    clear hO4 hR4 hdl hk64
    go_wp2_with (with_reducible refine gate_dst (N := 15) rfl ?_; refine Aside0.out ?_)
    refine Aside0.mk ?_
    refine wpList_load_row rfl 74 _ rfl (B + 1) rfl 74 ((Spec.key xs).map cell).toArray (0, 0) _ HR4.out Tryd.underlying74 rfl (by rw [HKL.out]; kernel_rfl) ?_
    go_wp2_with (with_reducible change wpList _ _ _ (Oper.mk _ (Op.store 74 _ _) _ _ _ _ :: _) _ _; refine Aside0.out ?_)
    refine Aside0.mk ?_
    refine wpList_store_row rfl 74 _ _ rfl B ((Spec.key xs).map cell).toArray rfl (by simp [go_sem]) 74 _ HA4.out (by rw [HKL.out]; kernel_rfl) (by rw [HKL.out]; rfl) (oneCells _) ?_
    go_wp2
    (try simp only [Exit.inBlock, Exit.then])
    refine bodyPost_ret (results_cell_row rfl _ _ B 74 ((Spec.key xs).map cell).toArray (0, 0) _ rfl (setRow_heap _ _ _ _ _ _ HA4.out) Tryd.underlying74 rfl (by rw [HKL.out]; kernel_rfl)) rfl ?_
    exact ⟨rfl, by rw [← HBD.out]; exact Below.setRow HB4.out (Nat.le_refl _) _⟩
  · have h64' : ¬ ((64 : Int) < xs.length) := by omega
    go_wp2_with (with_reducible refine gate_dst (N := 14) rfl ?_; refine Aside0.out ?_)
    refine Aside0.mk ?_
    have hz3 : Row w1 (B + 1) ((List.replicate 64 (0 : UInt8)).map cell) 74 := by rw [← z8_eq]; exact HC1.out
    have HZ3 := Aside0.mk hz3
    clear hz3
    refine wpL_copy (F := fun _ w4 => Only w1 (B + 1) w4 ∧ Row w4 (B + 1) ((Spec.key xs).map cell) 74) ?_ ?_
    · obtain ⟨k, w4, hr, hO, hR⟩ := run_copy_into w1 3 (B + 1) (List.replicate 64 0) 74 64 64 A c xs HZ3.out rfl HX1.out (by rw [List.length_replicate]; omega)
      refine ⟨k, w4, hr, hO, ?_⟩
      have e : Spec.key xs = xs ++ (List.replicate 64 0).drop xs.length := by rw [Spec.key, if_neg h64, List.drop_replicate]
      rw [e]
      exact hR
    rintro v4 w4 ⟨hO4, hR4⟩
    have HA4 := Aside0.mk (hO4.row HA1.out (by omega))
    have HB4 := Aside0.mk (below_only (B := B) (by rw [HBD.out]; exact HE1.out) hO4 (by omega) (by have := HS1.out; omega))
    have HR4 := Aside0.mk hR4
    have hk64 := Spec.key_length xs
    have HKL := Aside0.mk (show ((Spec.key xs).map cell).toArray.size = 64 by simp [hk64])
    clear hO4 hR4 hk64
    go_wp2_with (with_reducible refine gate_dst (N := 15) rfl ?_; refine Aside0.out ?_)
    refine Aside0.mk ?_
    refine wpList_load_row rfl 74 _ rfl (B + 1) rfl 74 ((Spec.key xs).map cell).toArray (0, 0) _ HR4.out Tryd.underlying74 rfl (by rw [HKL.out]; kernel_rfl) ?_
    go_wp2_with (with_reducible change wpList _ _ _ (Oper.mk _ (Op.store 74 _ _) _ _ _ _ :: _) _ _; refine Aside0.out ?_)
    refine Aside0.mk ?_
    refine wpList_store_row rfl 74 _ _ rfl B ((Spec.key xs).map cell).toArray rfl (by simp [go_sem]) 74 _ HA4.out (by rw [HKL.out]; kernel_rfl) (by rw [HKL.out]; rfl) (oneCells _) ?_
    go_wp2
    (try simp only [Exit.inBlock, Exit.then])
    refine bodyPost_ret (results_cell_row rfl _ _ B 74 ((Spec.key xs).map cell).toArray (0, 0) _ rfl (setRow_heap _ _ _ _ _ _ HA4.out) Tryd.underlying74 rfl (by rw [HKL.out]; kernel_rfl)) rfl ?_
    exact ⟨rfl, by rw [← HBD.out]; exact Below.setRow HB4.out (Nat.le_refl _) _⟩
end Go.Proofs.YtnkhhnfmijljbaaDoor
set_option linter.unusedVariables false
set_option linter.unusedSimpArgs false
namespace Go.Proofs.YtnkhhnfmijljbaaDoor
open Go.RowKit Go.Proofs.YtnkhhnfmijljbaaDoorW.PrintWords Go.Proofs.YtnkhhnfmijljbaaDoorW.PrintLast Go.Proofs.YtnkhhnfmijljbaaDoorW.PrintMore
open Extern.Stop (cell)
attribute [local go_sem] u32_add u32_shr3 u32_shr10 u8_conv u32_shl24 u32_shl16 u32_shl8 bits_u32_xor bits_u32_or bits_u32_and u32_not u32_not' u32_notm

theorem ext_drewN {a w : World} (h : Ext a w) (n : Nat) : Ext a (w.drewN n) := below_drewN h n
theorem turned_ext (x : UInt32) (n : Nat) (h : n ∈ [2, 6, 7, 11, 13, 17, 18, 19, 22, 25]) (w : World) : Calls Tryd.prog 42 #[.int .u32 (n32 x), .int .i64 n] w (fun e w' => e = .returned (.int .u32 (n32 (Spec.rr x n))) ∧ Ext w w') :=
  (turned_calls x n h w).mono fun e w' ⟨h1, m, h2⟩ => ⟨h1, by subst h2; exact ext_drewN (Ext.refl w) m⟩
theorem add_order (a b c d : UInt32) : a + b + d + c = a + (b + c + d) := by
  rw [UInt32.add_assoc, UInt32.add_assoc, UInt32.add_assoc b c d, UInt32.add_comm c d]
set_option maxHeartbeats 2000000 in
set_option maxRecDepth 100000 in
theorem words_calls (w : World) (g o : Nat) (c : Nat) (b : List UInt8) (hl : b.length = 64) (hb : Bs w (some ⟨g, o, none⟩) 64 b) :
    Calls Tryd.prog 41 #[.slice (some ⟨g, o, none⟩) 64 c] w (fun e w' => e = .returned (.agg ((Spec.sched b 64).map u).toArray) ∧ Ext w w') := by
  obtain ⟨B, hBdef⟩ : ∃ B, B = w.heap.size := ⟨_, rfl⟩
  have HBD := Aside0.mk hBdef
  have HBB := Aside0.mk hb
  have HL := Aside0.mk hl
  clear hb hl
  go_enter Tryd.func41, Tryd.ntmps41
  go_wp2_with fail
  refine wp_world (fun w1 => Ext w w1 ∧ w1.heap.size = B + 2 ∧ Row w1 B (schL b 0) 86 ∧ Row w1 (B + 1) (schL b 0) 86) ⟨?_, ?_, ?_, ?_⟩ ?_
  · exact ((Ext.refl w).alloc _).alloc _
  · simp [hBdef]
  · rw [hBdef]; exact (Row.alloc w (schL b 0) 86).alloc_other _
  · rw [hBdef, show w.heap.size + 1 = (w.alloc (.cells (schL b 0).toArray 86)).heap.size by simp]; exact Row.alloc _ (schL b 0) 86
  rintro w1 ⟨hE1, hS1, hA1, hW1⟩
  rw [← hBdef]
  have HE1 := Aside0.mk hE1
  have HS1 := Aside0.mk hS1
  have HA1 := Aside0.mk hA1
  have HW1 := Aside0.mk hW1
  clear hE1 hS1 hA1 hW1 hBdef
  go_loopw [4] (fun i wr => ∃ (t : Nat), t ≤ 16 ∧ i = .int .i64 t ∧ Ext w wr ∧ wr.heap.size = B + 2 ∧ Row wr B (schL b 0) 86 ∧ Row wr (B + 1) (schL b t) 86)
    (fun i _ => 16 - (intOf i).toNat)
  case atStart => exact ⟨0, by omega, rfl, HE1.out, HS1.out, HA1.out, HW1.out⟩
  case round =>
    obtain ⟨t, ht, rfl, hE, hS, hA, hW⟩ := hrel
    by_cases h16 : t < 16
    · have HE := Aside0.mk hE
      have HS := Aside0.mk hS
      have HA := Aside0.mk hA
      have HW := Aside0.mk hW
      have hbw := HBB.out.ext hE
      have key : ∀ i, i < 64 → wr.cell? ⟨g, o + i, none⟩ = some (.int .u8 (n8 (b.getD i 0))) := fun i hi => by
        obtain ⟨ad', h1, h2⟩ := hbw.cell i hi
        cases h1
        rw [addr_add] at h2
        exact h2
      have c0 := key (4 * t) (by omega)
      have c1 := key (4 * t + 1) (by omega)
      have c2 := key (4 * t + 2) (by omega)
      have c3 := key (4 * t + 3) (by omega)
      clear hE hS hA hW hbw key
      obtain ⟨x0, hx0⟩ : ∃ x, x = b.getD (4 * t) 0 := ⟨_, rfl⟩
      obtain ⟨x1, hx1⟩ : ∃ x, x = b.getD (4 * t + 1) 0 := ⟨_, rfl⟩
      obtain ⟨x2, hx2⟩ : ∃ x, x = b.getD (4 * t + 2) 0 := ⟨_, rfl⟩
      obtain ⟨x3, hx3⟩ : ∃ x, x = b.getD (4 * t + 3) 0 := ⟨_, rfl⟩
      rw [← hx0] at c0
      rw [← hx1] at c1
      rw [← hx2] at c2
      rw [← hx3] at c3
      have HX : Aside0 (Spec.be x0 x1 x2 x3 = Spec.nextW b (Spec.sched b t) t) := Aside0.mk (by rw [Spec.nextW, if_pos h16, hx0, hx1, hx2, hx3])
      clear hx0 hx1 hx2 hx3
      go_wp2
      refine wp_region_still_tail 35 (by kernel_rfl) (by kernel_rfl) ?_
      simp only [List.take_succ_cons, List.take_zero, List.drop_succ_cons, List.drop_zero]
      have b0 : (0 : Int) ≤ 4 * t ∧ 4 * (t : Int) < 64 := by omega
      have b1 : (0 : Int) ≤ 4 * t + 1 ∧ 4 * (t : Int) + 1 < 64 := by omega
      have b2 : (0 : Int) ≤ 4 * t + 2 ∧ 4 * (t : Int) + 2 < 64 := by omega
      have b3 : (0 : Int) ≤ 4 * t + 3 ∧ 4 * (t : Int) + 3 < 64 := by omega
      have b4 : (0 : Int) ≤ t ∧ (t : Int) < 64 := by omega
      repeat (refine wpStill_step (fun K hK => ?_); go_simp; (try go_bits); with_reducible refine hK _ ?_; clear hK K)
      refine wpStill_nil ?_
      change wpList _ _ _ _ _ wr.drew
      clear c0 c1 c2 c3
      have cw := HW.out.cell (schL_new b t t (by omega) (by omega))
      have cf := HW.out.free t
      go_wp2
      go_roundw
      case measure => simp [intOf]; omega
      case rel =>
        refine ⟨t + 1, by omega, by simp, Below.drew (Below.setCell HE.out (p := ⟨B + 1, t, none⟩) (by show w.heap.size ≤ B + 1; rw [HBD.out]; omega) _), by simpa using HS.out, HA.out.other _ _ (by show B ≠ B + 1; omega), ?_⟩
        have := HW.out.set t (.int .u32 (n32 (Spec.be x0 x1 x2 x3)))
        rw [schL_set b t (by omega) _ HX.out] at this
        exact this
    · obtain rfl : t = 16 := by omega
      have HE := Aside0.mk hE
      have HS := Aside0.mk hS
      have HA := Aside0.mk hA
      have HW := Aside0.mk hW
      clear hE hS hA hW
      go_wp2_with fail
      rw [show ((16 : Nat) : Int) = 16 from rfl]
      go_loopw [5] (fun i wr => ∃ (t : Nat), 16 ≤ t ∧ t ≤ 64 ∧ i = .int .i64 t ∧ Ext w wr ∧ Row wr B (schL b 0) 86 ∧ Row wr (B + 1) (schL b t) 86)
        (fun i _ => 64 - (intOf i).toNat)
      case atStart => exact ⟨16, by omega, by omega, rfl, HE.out, HA.out, HW.out⟩
      case round =>
        obtain ⟨t, h16, ht, rfl, hE, hA, hW⟩ := hrel
        by_cases hlt : t < 64
        · have HE := Aside0.mk hE
          have HA := Aside0.mk hA
          have HW := Aside0.mk hW
          have c0 := hW.cell (schL_old b t (t - 15) (by omega))
          have c1 := hW.cell (schL_old b t (t - 2) (by omega))
          clear hE hA hW
          obtain ⟨x, hx⟩ : ∃ x, x = (Spec.sched b t).getD (t - 15) 0 := ⟨_, rfl⟩
          obtain ⟨y, hy⟩ : ∃ x, x = (Spec.sched b t).getD (t - 2) 0 := ⟨_, rfl⟩
          obtain ⟨z, hz⟩ : ∃ x, x = (Spec.sched b t).getD (t - 7) 0 := ⟨_, rfl⟩
          obtain ⟨q, hq⟩ : ∃ x, x = (Spec.sched b t).getD (t - 16) 0 := ⟨_, rfl⟩
          rw [← hx] at c0
          rw [← hy] at c1
          have HX : Aside0 (Spec.s1 y + z + Spec.s0 x + q = Spec.nextW b (Spec.sched b t) t) := Aside0.mk (by rw [Spec.nextW, if_neg (by omega), hx, hy, hz, hq]; exact add_order _ _ _ _)
          have HZ := Aside0.mk (schL_old b t (t - 7) (by omega))
          have HQ := Aside0.mk (schL_old b t (t - 16) (by omega))
          rw [← hz] at HZ
          rw [← hq] at HQ
          have b4 : (0 : Int) ≤ t ∧ (t : Int) < 64 := by omega
          have b5 : (7 : Int) ≤ t := by omega
          have b6 : (16 : Int) ≤ t := by omega
          have b7 : (t : Int) - 7 < 64 := by omega
          have b8 : (t : Int) - 16 < 64 := by omega
          have b9 : (t : Int) - 15 < 64 := by omega
          have b10 : (t : Int) - 2 < 64 := by omega
          have b11 : (15 : Int) ≤ t := by omega
          have b12 : (2 : Int) ≤ t := by omega
          clear hx hy hz hq
          go_wp2_with fail
          refine (turned_ext x 7 (by simp) _).mono ?_
          rintro e w2 ⟨rfl, hE2⟩
          go_wp2_with fail
          refine (turned_ext x 18 (by simp) _).mono ?_
          rintro e w3 ⟨rfl, hE3⟩
          go_wp2_with fail
          refine (turned_ext y 17 (by simp) _).mono ?_
          rintro e w4 ⟨rfl, hE4⟩
          go_wp2_with fail
          refine (turned_ext y 19 (by simp) _).mono ?_
          rintro e w5 ⟨rfl, hE5⟩
          go_wp2_with fail
          have hE25 := hE2.trans (hE3.trans (hE4.trans hE5))
          have HE5 := Aside0.mk (HE.out.trans hE25)
          have HA5 := Aside0.mk (HA.out.ext hE25)
          have HW5 := Aside0.mk (HW.out.ext hE25)
          have c2 := (HW.out.ext hE25).cell HZ.out
          have c3 := (HW.out.ext hE25).cell HQ.out
          clear hE2 hE3 hE4 hE5 hE25 c0 c1
          refine wp_region_still_tail 15 (by kernel_rfl) (by kernel_rfl) ?_
          simp only [List.take_succ_cons, List.take_zero, List.drop_succ_cons, List.drop_zero]
          repeat (refine wpStill_step (fun K hK => ?_); go_simp; (try go_bits); with_reducible refine hK _ ?_; clear hK K)
          refine wpStill_nil ?_
          change wpList _ _ _ _ _ w5.drew
          clear c2 c3
          have cw := HW5.out.cell (schL_new b t t (by omega) hlt)
          have cf := HW5.out.free t
          go_wp2
          go_roundw
          case measure => simp [intOf]; omega
          case rel =>
            refine ⟨t + 1, by omega, by omega, by simp, Below.drew (Below.setCell HE5.out (p := ⟨B + 1, t, none⟩) (by show w.heap.size ≤ B + 1; rw [HBD.out]; omega) _), HA5.out.other _ _ (by show B ≠ B + 1; omega), ?_⟩
            have := HW5.out.set t (.int .u32 (n32 (Spec.s1 y + z + Spec.s0 x + q)))
            rw [schL_set b t hlt _ HX.out] at this
            exact this
        · obtain rfl : t = 64 := by omega
          have HE := Aside0.mk hE
          have HA := Aside0.mk hA
          have HW := Aside0.mk hW
          have e64 : schL b 64 = (Spec.sched b 64).map u := by simp [schL, u0s]
          rw [e64] at HW
          have HSZ := Aside0.mk (show ((Spec.sched b 64).map u).toArray.size = 64 by simp [Spec.sched_length])
          have HOC := Aside0.mk (show ((Spec.sched b 64).map u).toArray.all (·.oneCell') = true from all_oneCell_toArray (fun x hx => by obtain ⟨y, _, rfl⟩ := List.mem_map.1 hx; rfl))
          have HSA := Aside0.mk (show (schL b 0).toArray.size = 64 by simp [schL, u0s, Spec.sched])
          clear hE hA hW e64
          go_wp2_with (with_reducible refine gate_dst (N := 92) rfl ?_; refine Aside0.out ?_)
          refine Aside0.mk ?_
          refine wpList_load_row rfl 86 _ rfl (B + 1) rfl 86 ((Spec.sched b 64).map u).toArray (0, 0) _ HW.out Tryd.underlying86 rfl (by rw [HSZ.out]; kernel_rfl) ?_
          go_wp2_with (with_reducible change wpList _ _ _ (Oper.mk _ (Op.store 86 _ _) _ _ _ _ :: _) _ _; refine Aside0.out ?_)
          refine Aside0.mk ?_
          refine wpList_store_row rfl 86 _ _ rfl B ((Spec.sched b 64).map u).toArray rfl (by simp [go_sem]) 86 _ HA.out (by rw [HSZ.out]; kernel_rfl) (by rw [HSZ.out, HSA.out]) HOC.out ?_
          go_wp2
          (try simp only [Exit.inBlock, Exit.then])
          refine bodyPost_ret (results_cell_row rfl _ _ B 86 ((Spec.sched b 64).map u).toArray (0, 0) _ rfl (setRow_heap _ _ _ _ _ _ HA.out) Tryd.underlying86 rfl (by rw [HSZ.out]; kernel_rfl)) rfl ?_
          exact ⟨rfl, Below.setRow HE.out (by rw [HBD.out]; exact Nat.le_refl _) _⟩
end Go.Proofs.YtnkhhnfmijljbaaDoor
