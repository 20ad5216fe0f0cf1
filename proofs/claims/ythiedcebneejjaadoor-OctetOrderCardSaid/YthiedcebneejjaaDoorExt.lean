/- A plain law of my own over any program: a region that draws its order, whose operations read, compute, make memory or call, and leave all that was as it was. Each operation is shown once, whatever came up before it; what the slots hold is told by predicates that stand when the world grows. In the words' vocabulary (<Name>WInv). -/
import Derived.Test.YthiedcebneejjaaDoorWInv
import Derived.Test.YthiedcebneejjaaDoorWInvWords
import Derived.Test.YthiedcebneejjaaDoorKit
set_option linter.unusedVariables false
set_option linter.unusedSimpArgs false
namespace Go.Proofs.YthiedcebneejjaaDoorW.PrintLast
open Go.RowKit
/-- w' is w, and perhaps more blocks -/
def Ext (w w' : World) : Prop := Below w.heap.size w w'
theorem Ext.refl (w : World) : Ext w w := Below.refl _ _
theorem Ext.trans {a b c : World} (h : Ext a b) (k : Ext b c) : Ext a c := Below.trans h (Below.mono k h.size)
theorem Ext.drew {a w : World} (h : Ext a w) : Ext a w.drew := Below.drew h
theorem Ext.to_drew (w : World) : Ext w w.drew := (Ext.refl w).drew
theorem Ext.alloc {a w : World} (h : Ext a w) (o : Obj) : Ext a (w.alloc o) := Below.alloc h h.size o
theorem Ext.below {B : Nat} {a b c : World} (h : Below B a b) (hB : B ≤ b.heap.size) (k : Ext b c) : Below B a c := Below.trans h (Below.mono k hB)
def bitsOf (T : List (List Nat × List Nat)) : List Nat := (List.range T.length).foldl (fun B d => B ++ [upM B d ((T[d]?.map (·.1)).getD [])]) []
def extOk (ops : Array Oper) (D : List (Nat × Tmp)) (n : Nat) : Bool :=
  ops.size == n && waitsOk (rtab .any ops).2 (bitsOf (rtab .any ops).2) && baseOk (rtab .any ops).2 (List.range n)
    && (List.range n).all (fun i => match ops[i]? with
      | some o => (match o.dst with
        | some t => D.contains (i, t)
        | none => D.all fun e => !(e.1 == i))
      | none => false)
    && (List.range D.length).all (fun k => match D[k]? with
      | some x => (D.take k ++ D.drop (k + 1)).all fun e => !(e.1 == x.1) && !(e.2 == x.2)
      | none => false)
    && D.all (fun e => decide (e.1 < n))
section
variable {P : Program} {ops : Array Oper} {Q : Exit → Act → World → Prop}
/-- An operation that, run here, yields a good value, in a world that has grown at most. -/
def Good (P : Program) (o : Oper) (a : Act) (w : World) (Gi : World → Value → Prop) : Prop :=
  (∃ v w', (execOp a.eval o).run P w = .ok (.value v) w' ∧ Ext w w' ∧ Gi w' v) ∨
  (∃ f vs, (execOp a.eval o).run P w = .ok (.enter f vs) w ∧ Calls P f vs w (fun e w' => ∃ v, e = .returned v ∧ Ext w w' ∧ Gi w' v))
theorem Good.wp {o : Oper} {a : Act} {w : World} {Gi : World → Value → Prop} {K : Act → World → Prop} (h : Good P o a w Gi) (hk : ∀ v w', Ext w w' → Gi w' v → K (a.put o.dst v) w') : Oper.wp P o a w K Q := by
  unfold Oper.wp
  rcases h with ⟨v, w', e, h1, h2⟩ | ⟨f, vs, e, hc⟩
  · rw [e]; exact hk v w' h1 h2
  · rw [e]; exact hc.mono (fun e w' ⟨v, he, h1, h2⟩ => by subst he; exact hk v w' h1 h2)
/-- What is known of the slots when operation i comes up. -/
structure Has (a0 a : Act) (D : List (Nat × Tmp)) (m : Nat) (G : Nat → World → Value → Prop) (w : World) : Prop where
  dep : ∀ j t, D.contains (j, t) = true → m.testBit j = true → ∃ v, a.tmps[t]? = some v ∧ G j w v
  old : ∀ t, (D.all fun e => !(e.2 == t)) = true → a.tmps[t]? = a0.tmps[t]?
/-- The step of operation i. -/
def StepE (P : Program) (ops : Array Oper) (a0 : Act) (w0 : World) (D : List (Nat × Tmp)) (G : Nat → World → Value → Prop) (i : Nat) : Prop :=
  ∃ o, ops[i]? = some o ∧ ∀ a w, Ext w0 w → Has a0 a D ((bitsOf (rtab .any ops).2).getD i 0) G w →
    (Region.wanted o (yielded ops a.tmps) = true ∧ Good P o a w (G i)) ∨ (Region.wanted o (yielded ops a.tmps) = false ∧ G i w undef)
theorem stepE_nil {a0 : Act} {w0 : World} {D : List (Nat × Tmp)} {G : Nat → World → Value → Prop} : ∀ i ∈ ([] : List Nat), StepE P ops a0 w0 D G i := fun _ h => by cases h
theorem stepE_cons {a0 : Act} {w0 : World} {D : List (Nat × Tmp)} {G : Nat → World → Value → Prop} {i : Nat} {rs : List Nat} (h : StepE P ops a0 w0 D G i) (hs : ∀ j ∈ rs, StepE P ops a0 w0 D G j) : ∀ j ∈ i :: rs, StepE P ops a0 w0 D G j := fun j hj => by
  rcases List.mem_cons.1 hj with rfl | hj
  · exact h
  · exact hs j hj
theorem putSel_all {b : Nat → Bool} : ∀ {L : List (Nat × Tmp × Value)} {a : Act}, (∀ e ∈ L, b e.1 = true) → putSel a b L = putAll a (L.map fun e => e.2)
  | [], _, _ => rfl
  | e :: r, a, h => by
    unfold putSel
    rw [if_pos (h e List.mem_cons_self), putSel_all (fun x hx => h x (List.mem_cons_of_mem _ hx))]
    rfl
theorem putSel_begin {b : Nat → Bool} : ∀ {L : List (Nat × Tmp × Value)} {a : Act}, (∀ e ∈ L, b e.1 = false) → putSel a b L = a
  | [], _, _ => rfl
  | e :: r, a, h => by
    unfold putSel
    rw [if_neg (by rw [h e List.mem_cons_self]; decide), putSel_begin (fun x hx => h x (List.mem_cons_of_mem _ hx))]
theorem putSel_congr {b : Nat → Bool} {D : List (Nat × Tmp)} {f g : Nat → Value} (h : ∀ e ∈ D, f e.1 = g e.1) {a : Act} : putSel a b (D.map fun e => (e.1, e.2, f e.1)) = putSel a b (D.map fun e => (e.1, e.2, g e.1)) := by
  congr 1
  exact List.map_congr_left (fun e he => by rw [h e he])
/-- the frame is not smaller than the slots that the region fills -/
def fits (a0 : Act) (D : List (Nat × Tmp)) : Bool := D.all fun e => Nat.ble (e.2 + 1) a0.tmps.size
theorem ext_region {id : Nat} {a0 : Act} {w0 : World} (n : Nat) (D : List (Nat × Tmp)) (O : List Nat) (G : Nat → World → Value → Prop) (hm : P.follows .mixedOrders = true) (hok : extOk ops D n = true) (hfit : fits a0 D = true) (hO : List.range n = O)
    (hG : ∀ i w w' v, G i w v → Ext w w' → G i w' v) (hs : ∀ i ∈ O, StepE P ops a0 w0.drew D G i)
    (hend : ∀ (vals : Nat → Value) (w' : World), Ext w0.drew w' → (∀ i ∈ O, (D.any fun e => e.1 == i) = true → G i w' (vals i)) → Q .normal (putAll a0 (D.map fun e => (e.2, vals e.1))) w') :
    (Code.region id ops true).wp P Q a0 w0 := by
  subst hO
  simp only [extOk, Bool.and_eq_true, beq_iff_eq] at hok
  obtain ⟨⟨⟨⟨⟨hn, hw⟩, hk⟩, hd⟩, hdist⟩, hDlt⟩ := hok
  have hdist' : ∀ (k : Nat) (i : Nat) (t : Tmp), D[k]? = some (i, t) → ((D.take k ++ D.drop (k + 1)).all fun e => !(e.1 == i) && !(e.2 == t)) = true := fun k i t h => by
    have h1 := List.all_eq_true.1 hdist k (List.mem_range.2 (List.getElem?_eq_some_iff.1 h).1)
    rw [h] at h1
    exact h1
  have hfit' : ∀ e ∈ D, Nat.ble (e.2 + 1) a0.tmps.size = true := fun e he => List.all_eq_true.1 hfit e he
  refine start_ (n := n) (S := fun _ => True) (ds := []) (Array.replicate n false) hm hn rfl trivial (fun _ => ?_)
  have hTl : (rtab .any ops).2.length = n := by rw [rtab_length, hn]
  refine inv_ (md := .any) (T := rtab .any ops) (B := bitsOf (rtab .any ops).2) (List.range n)
    (fun b a w => Ext w0.drew w ∧ ∃ vals : Nat → Value, a = putSel a0 b (D.map fun e => (e.1, e.2, vals e.1)) ∧ ∀ i, b i = true → G i w (vals i)) rfl hw hk ?_ ?_ ?_ ?_
  · rw [hTl, Bool.and_eq_true, beq_iff_eq, beq_iff_eq]
    refine ⟨?_, by simp⟩
    rw [Array.toList_replicate]
    refine List.ext_getElem (by simp [lof]) (fun j h1 h2 => ?_)
    have hj : j < n := by simpa [lof] using h1
    simp [lof, hj]
  · refine ⟨Ext.refl _, fun _ => undef, ?_, fun i h => by cases h⟩
    rw [putSel_begin (fun e he => rfl)]
  · intro i hi b a w ⟨hE, vals, ha, hg⟩ hbi hon hoff
    obtain ⟨o, ho, hstep⟩ := hs i hi
    refine ⟨o, ho, fun K hK => ?_⟩
    have hin : i < n := List.mem_range.1 hi
    have hD := List.all_eq_true.1 hd i hi
    rw [ho] at hD
    simp only at hD
    -- the frame behind it
    have next : ∀ v w', Ext w w' → G i w' v → K (a.put o.dst v) w' := by
      intro v w' hE' hv
      refine hK _ _ ⟨hE.trans hE', fun j => if j = i then v else vals j, ?_, fun j hj => ?_⟩
      · cases hdst : o.dst with
        | none =>
          rw [hdst] at hD
          have hD' : ∀ e ∈ D, e.1 ≠ i := fun e he => by have := List.all_eq_true.1 hD e he; simpa using this
          have hnoi : ((D.map fun e => (e.1, e.2, (fun j => if j = i then v else vals j) e.1)).all fun e => !(e.1 == i)) = true :=
            List.all_eq_true.2 (fun x hx => by
              obtain ⟨e, he, rfl⟩ := List.mem_map.1 hx
              have := hD' e he
              simp [this])
          rw [putSel_same hnoi]
          show a = _
          rw [ha]
          exact putSel_congr (f := vals) (g := fun j => if j = i then v else vals j) (fun e he => by rw [if_neg (hD' e he)])
        | some t =>
          rw [hdst] at hD
          have hmem : (i, t) ∈ D := List.contains_iff_mem.1 hD
          obtain ⟨k, hkD⟩ := List.getElem?_of_mem hmem
          have hdi := hdist' k i t hkD
          rw [ha]
          refine putSel_upk k (v0 := vals i) hbi (by rw [List.getElem?_map, hkD]; rfl) ?_ ?_
          · refine List.ext_getElem? (fun j => ?_)
            rw [List.getElem?_set, List.getElem?_map, List.getElem?_map]
            by_cases hkj : k = j
            · subst hkj
              have hlt : k < D.length := (List.getElem?_eq_some_iff.1 hkD).1
              rw [if_pos rfl, if_pos (by simpa using hlt), hkD]
              simp
            · rw [if_neg hkj]
              cases hj : D[j]? with
              | none => rfl
              | some e =>
                have he : e.1 ≠ i := by
                  have hm1 : e ∈ D.take k ++ D.drop (k + 1) := by
                    rw [List.mem_append]
                    rcases Nat.lt_or_gt_of_ne hkj with h | h
                    · right
                      refine List.mem_of_getElem? (i := j - (k + 1)) ?_
                      rw [List.getElem?_drop, show k + 1 + (j - (k + 1)) = j by omega, hj]
                    · left
                      refine List.mem_of_getElem? (i := j) ?_
                      rw [List.getElem?_take, if_pos h, hj]
                  have := List.all_eq_true.1 hdi e hm1
                  simp only [Bool.and_eq_true] at this
                  simpa using this.1
                simp [he]
          · refine List.all_eq_true.2 (fun x hx => ?_)
            rw [← List.map_take, ← List.map_drop, ← List.map_append] at hx
            obtain ⟨e, he, rfl⟩ := List.mem_map.1 hx
            exact List.all_eq_true.1 hdi e he
      · by_cases hji : j = i
        · subst hji; simpa using hv
        · rw [up_ne hji] at hj
          simp only [if_neg hji]
          exact hG _ _ _ _ (hg j hj) hE'
    have has : Has a0 a D ((bitsOf (rtab .any ops).2).getD i 0) G w := by
      refine ⟨fun j t hjt hbit => ?_, fun t ht => ?_⟩
      · have hmem : (j, t) ∈ D := List.contains_iff_mem.1 hjt
        have hjn : j < n := by
          -- bits stand for numbers of the region
          by_cases hlt : j < n
          · exact hlt
          · exfalso
            have hTi : (rtab .any ops).2[i]? = some ((rtab .any ops).2[i]'(by rw [hTl]; exact hin)) := List.getElem?_eq_getElem _
            have key : ∀ (m d : Nat), d ≤ m → d < n → ∀ q, ((bitsOf (rtab .any ops).2).getD d 0).testBit q = true → q < n := by
              intro m
              induction m with
              | zero =>
                intro d hdm hdn q hq
                obtain rfl : d = 0 := by omega
                have hr : (rtab .any ops).2[0]? = some ((rtab .any ops).2[0]'(by rw [hTl]; exact hdn)) := List.getElem?_eq_getElem _
                have h1 := List.all_eq_true.1 hw 0 (List.mem_range.2 (by rw [hTl]; exact hdn))
                rw [hr] at h1
                simp only [beq_iff_eq] at h1
                have h2 : (upM (bitsOf (rtab .any ops).2) 0 ((rtab .any ops).2[0]'(by rw [hTl]; exact hdn)).1).testBit q = true := by rw [← h1, Nat.testBit_or, hq, Bool.true_or]
                obtain ⟨p, hp, h3⟩ := upM_bit h2
                have := (baseOk_row hk hr).2 p hp
                omega
              | succ m ih =>
                intro d hdm hdn q hq
                have hr : (rtab .any ops).2[d]? = some ((rtab .any ops).2[d]'(by rw [hTl]; exact hdn)) := List.getElem?_eq_getElem _
                have h1 := List.all_eq_true.1 hw d (List.mem_range.2 (by rw [hTl]; exact hdn))
                rw [hr] at h1
                simp only [beq_iff_eq] at h1
                have h2 : (upM (bitsOf (rtab .any ops).2) d ((rtab .any ops).2[d]'(by rw [hTl]; exact hdn)).1).testBit q = true := by rw [← h1, Nat.testBit_or, hq, Bool.true_or]
                obtain ⟨p, hp, h3⟩ := upM_bit h2
                have h4 := (baseOk_row hk hr).2 p hp
                rcases h3 with rfl | ⟨h5, h6⟩
                · omega
                · exact ih p (by omega) (by omega) q h6
            exact hlt (key i i (Nat.le_refl _) hin j hbit)
        have hbj : b j = true := hon j (by rw [hbit, Bool.and_true]; exact List.contains_iff_mem.2 (List.mem_range.2 hjn))
        obtain ⟨k, hkD⟩ := List.getElem?_of_mem hmem
        refine ⟨vals j, ?_, hg j hbj⟩
        rw [ha]
        refine putSel_on (e := (j, t, vals j)) k (by rw [List.getElem?_map, hkD]; rfl) ?_ hbj (hfit' _ hmem)
        refine List.all_eq_true.2 (fun x hx => ?_)
        rw [← List.map_drop] at hx
        obtain ⟨e, he, rfl⟩ := List.mem_map.1 hx
        have := List.all_eq_true.1 (hdist' k j t hkD) e (List.mem_append_right _ he)
        simp only [Bool.and_eq_true] at this
        exact this.2
      · rw [ha]
        refine putSel_off (List.all_eq_true.2 (fun x hx => ?_))
        obtain ⟨e, he, rfl⟩ := List.mem_map.1 hx
        exact List.all_eq_true.1 ht e he
    rcases hstep a w hE has with ⟨hw1, hgood⟩ | ⟨hw0, hu⟩
    · rw [if_pos hw1]
      exact hgood.wp next
    · rw [if_neg (by rw [hw0]; decide)]
      exact next undef w (Ext.refl w) hu
  · intro b a w hall ⟨hE, vals, ha, hg⟩
    have hall' : ∀ j, j < n → b j = true := fun j hj => hall j (List.contains_iff_mem.2 (List.mem_range.2 hj))
    have hDn : ∀ e ∈ D, b e.1 = true := by
      intro e he
      have h1 := List.all_eq_true.1 hDlt e he
      exact hall' _ (of_decide_eq_true h1)
    rw [ha, putSel_all (fun x hx => by obtain ⟨e, he, rfl⟩ := List.mem_map.1 hx; exact hDn e he), List.map_map]
    exact hend vals w hE (fun i hi _ => hg i (hall' i (List.mem_range.1 hi)))
/-! ### the same where the last operation, which waits for all others, writes or does whatever -/
def extOk1 (ops : Array Oper) (D : List (Nat × Tmp)) (n : Nat) : Bool :=
  ops.size == n && waitsOk (rtab .any ops).2 (bitsOf (rtab .any ops).2) && baseOk (rtab .any ops).2 (List.range n)
    && (List.range (n - 1)).all (fun i => match ops[i]? with
      | some o => (match o.dst with
        | some t => D.contains (i, t)
        | none => D.all fun e => !(e.1 == i))
      | none => false)
    && (List.range D.length).all (fun k => match D[k]? with
      | some x => (D.take k ++ D.drop (k + 1)).all fun e => !(e.1 == x.1) && !(e.2 == x.2)
      | none => false)
    && D.all (fun e => decide (e.1 < n - 1))
    && (List.range (n - 1)).all (fun j => ((bitsOf (rtab .any ops).2).getD (n - 1) 0).testBit j)
    && decide (0 < n)
theorem ext_tail {id : Nat} {a0 : Act} {w0 : World} (n : Nat) (D : List (Nat × Tmp)) (O : List Nat) (G : Nat → World → Value → Prop) (hm : P.follows .mixedOrders = true) (hok : extOk1 ops D n = true) (hfit : fits a0 D = true) (hO : List.range (n - 1) = O)
    (hG : ∀ i w w' v, G i w v → Ext w w' → G i w' v) (hs : ∀ i ∈ O, StepE P ops a0 w0.drew D G i)
    (hend : ∃ o, ops[n - 1]? = some o ∧ ∀ (vals : Nat → Value) (w' : World), Ext w0.drew w' → (∀ i ∈ O, (D.any fun e => e.1 == i) = true → G i w' (vals i)) →
      Region.wanted o (yielded ops (putAll a0 (D.map fun e => (e.2, vals e.1))).tmps) = true ∧ ∀ K : Act → World → Prop, Shut (∀ a' w'', Q .normal a' w'' → K a' w'') → Oper.wp P o (putAll a0 (D.map fun e => (e.2, vals e.1))) w' K Q) :
    (Code.region id ops true).wp P Q a0 w0 := by
  subst hO
  simp only [extOk1, Bool.and_eq_true, beq_iff_eq] at hok
  obtain ⟨⟨⟨⟨⟨⟨⟨hn, hw⟩, hk⟩, hd⟩, hdist⟩, hDlt⟩, hall1⟩, hpos⟩ := hok
  have hn0 : 0 < n := of_decide_eq_true hpos
  have hfall : ∀ j, j < n - 1 → ((bitsOf (rtab .any ops).2).getD (n - 1) 0).testBit j = true := fun j hj => List.all_eq_true.1 hall1 j (List.mem_range.2 hj)
  have hdist' : ∀ (k : Nat) (i : Nat) (t : Tmp), D[k]? = some (i, t) → ((D.take k ++ D.drop (k + 1)).all fun e => !(e.1 == i) && !(e.2 == t)) = true := fun k i t h => by
    have h1 := List.all_eq_true.1 hdist k (List.mem_range.2 (List.getElem?_eq_some_iff.1 h).1)
    rw [h] at h1
    exact h1
  have hfit' : ∀ e ∈ D, Nat.ble (e.2 + 1) a0.tmps.size = true := fun e he => List.all_eq_true.1 hfit e he
  refine start_ (n := n) (S := fun _ => True) (ds := []) (Array.replicate n false) hm hn rfl trivial (fun _ => ?_)
  have hTl : (rtab .any ops).2.length = n := by rw [rtab_length, hn]
  refine inv_ (md := .any) (T := rtab .any ops) (B := bitsOf (rtab .any ops).2) (List.range n)
    (fun b a w => if b (n - 1) = true then Q .normal a w else (Ext w0.drew w ∧ ∃ vals : Nat → Value, a = putSel a0 b (D.map fun e => (e.1, e.2, vals e.1)) ∧ ∀ i, b i = true → G i w (vals i))) rfl hw hk ?_ ?_ ?_ ?_
  · rw [hTl, Bool.and_eq_true, beq_iff_eq, beq_iff_eq]
    refine ⟨?_, by simp⟩
    rw [Array.toList_replicate]
    refine List.ext_getElem (by simp [lof]) (fun j h1 h2 => ?_)
    have hj : j < n := by simpa [lof] using h1
    simp [lof, hj]
  · dsimp only
    rw [if_neg Bool.false_ne_true]
    refine ⟨Ext.refl _, fun _ => undef, ?_, fun i h => by cases h⟩
    rw [putSel_begin (fun e he => rfl)]
  · intro i hi b a w hI hbi hon hoff
    have hin : i < n := List.mem_range.1 hi
    by_cases hif : i = n - 1
    · -- the last one
      subst hif
      rw [if_neg (by rw [hbi]; decide)] at hI
      obtain ⟨hE, vals, ha, hg⟩ := hI
      obtain ⟨o, ho, hlast⟩ := hend
      have hall' : ∀ j, j < n - 1 → b j = true := fun j hj => hon j (by rw [hfall j hj, Bool.and_true]; exact List.contains_iff_mem.2 (List.mem_range.2 (by omega)))
      have ha' : a = putAll a0 (D.map fun e => (e.2, vals e.1)) := by
        rw [ha, putSel_all (fun x hx => by
          obtain ⟨e, he, rfl⟩ := List.mem_map.1 hx
          exact hall' _ (of_decide_eq_true (List.all_eq_true.1 hDlt e he))), List.map_map]
        rfl
      refine ⟨o, ho, fun K hK => ?_⟩
      obtain ⟨hw1, hfin⟩ := hlast vals w hE (fun j hj _ => hg j (hall' j (List.mem_range.1 hj)))
      rw [← ha'] at hw1 hfin
      rw [if_pos hw1]
      exact hfin K (fun a' w'' hq => hK a' w'' (by dsimp only; rw [if_pos (up_self b _)]; exact hq))
    have hi1 : i ∈ List.range (n - 1) := List.mem_range.2 (by omega)
    have hbf : b (n - 1) = false := hoff (n - 1) (by rw [hfall i (by omega), Bool.and_true]; exact List.contains_iff_mem.2 (List.mem_range.2 (by omega)))
    rw [if_neg (by rw [hbf]; decide)] at hI
    obtain ⟨hE, vals, ha, hg⟩ := hI
    obtain ⟨o, ho, hstep⟩ := hs i hi1
    refine ⟨o, ho, fun K hK => ?_⟩
    have hD := List.all_eq_true.1 hd i hi1
    rw [ho] at hD
    simp only at hD
    -- the frame behind it
    have next : ∀ v w', Ext w w' → G i w' v → K (a.put o.dst v) w' := by
      intro v w' hE' hv
      refine hK _ _ ?_
      dsimp only
      rw [if_neg (by rw [up_ne (fun e => hif e.symm), hbf]; decide)]
      refine ⟨hE.trans hE', fun j => if j = i then v else vals j, ?_, fun j hj => ?_⟩
      · cases hdst : o.dst with
        | none =>
          rw [hdst] at hD
          have hD' : ∀ e ∈ D, e.1 ≠ i := fun e he => by have := List.all_eq_true.1 hD e he; simpa using this
          have hnoi : ((D.map fun e => (e.1, e.2, (fun j => if j = i then v else vals j) e.1)).all fun e => !(e.1 == i)) = true :=
            List.all_eq_true.2 (fun x hx => by
              obtain ⟨e, he, rfl⟩ := List.mem_map.1 hx
              have := hD' e he
              simp [this])
          rw [putSel_same hnoi]
          show a = _
          rw [ha]
          exact putSel_congr (f := vals) (g := fun j => if j = i then v else vals j) (fun e he => by rw [if_neg (hD' e he)])
        | some t =>
          rw [hdst] at hD
          have hmem : (i, t) ∈ D := List.contains_iff_mem.1 hD
          obtain ⟨k, hkD⟩ := List.getElem?_of_mem hmem
          have hdi := hdist' k i t hkD
          rw [ha]
          refine putSel_upk k (v0 := vals i) hbi (by rw [List.getElem?_map, hkD]; rfl) ?_ ?_
          · refine List.ext_getElem? (fun j => ?_)
            rw [List.getElem?_set, List.getElem?_map, List.getElem?_map]
            by_cases hkj : k = j
            · subst hkj
              have hlt : k < D.length := (List.getElem?_eq_some_iff.1 hkD).1
              rw [if_pos rfl, if_pos (by simpa using hlt), hkD]
              simp
            · rw [if_neg hkj]
              cases hj : D[j]? with
              | none => rfl
              | some e =>
                have he : e.1 ≠ i := by
                  have hm1 : e ∈ D.take k ++ D.drop (k + 1) := by
                    rw [List.mem_append]
                    rcases Nat.lt_or_gt_of_ne hkj with h | h
                    · right
                      refine List.mem_of_getElem? (i := j - (k + 1)) ?_
                      rw [List.getElem?_drop, show k + 1 + (j - (k + 1)) = j by omega, hj]
                    · left
                      refine List.mem_of_getElem? (i := j) ?_
                      rw [List.getElem?_take, if_pos h, hj]
                  have := List.all_eq_true.1 hdi e hm1
                  simp only [Bool.and_eq_true] at this
                  simpa using this.1
                simp [he]
          · refine List.all_eq_true.2 (fun x hx => ?_)
            rw [← List.map_take, ← List.map_drop, ← List.map_append] at hx
            obtain ⟨e, he, rfl⟩ := List.mem_map.1 hx
            exact List.all_eq_true.1 hdi e he
      · by_cases hji : j = i
        · subst hji; simpa using hv
        · rw [up_ne hji] at hj
          simp only [if_neg hji]
          exact hG _ _ _ _ (hg j hj) hE'
    have has : Has a0 a D ((bitsOf (rtab .any ops).2).getD i 0) G w := by
      refine ⟨fun j t hjt hbit => ?_, fun t ht => ?_⟩
      · have hmem : (j, t) ∈ D := List.contains_iff_mem.1 hjt
        have hjn : j < n := by
          -- bits stand for numbers of the region
          by_cases hlt : j < n
          · exact hlt
          · exfalso
            have hTi : (rtab .any ops).2[i]? = some ((rtab .any ops).2[i]'(by rw [hTl]; exact hin)) := List.getElem?_eq_getElem _
            have key : ∀ (m d : Nat), d ≤ m → d < n → ∀ q, ((bitsOf (rtab .any ops).2).getD d 0).testBit q = true → q < n := by
              intro m
              induction m with
              | zero =>
                intro d hdm hdn q hq
                obtain rfl : d = 0 := by omega
                have hr : (rtab .any ops).2[0]? = some ((rtab .any ops).2[0]'(by rw [hTl]; exact hdn)) := List.getElem?_eq_getElem _
                have h1 := List.all_eq_true.1 hw 0 (List.mem_range.2 (by rw [hTl]; exact hdn))
                rw [hr] at h1
                simp only [beq_iff_eq] at h1
                have h2 : (upM (bitsOf (rtab .any ops).2) 0 ((rtab .any ops).2[0]'(by rw [hTl]; exact hdn)).1).testBit q = true := by rw [← h1, Nat.testBit_or, hq, Bool.true_or]
                obtain ⟨p, hp, h3⟩ := upM_bit h2
                have := (baseOk_row hk hr).2 p hp
                omega
              | succ m ih =>
                intro d hdm hdn q hq
                have hr : (rtab .any ops).2[d]? = some ((rtab .any ops).2[d]'(by rw [hTl]; exact hdn)) := List.getElem?_eq_getElem _
                have h1 := List.all_eq_true.1 hw d (List.mem_range.2 (by rw [hTl]; exact hdn))
                rw [hr] at h1
                simp only [beq_iff_eq] at h1
                have h2 : (upM (bitsOf (rtab .any ops).2) d ((rtab .any ops).2[d]'(by rw [hTl]; exact hdn)).1).testBit q = true := by rw [← h1, Nat.testBit_or, hq, Bool.true_or]
                obtain ⟨p, hp, h3⟩ := upM_bit h2
                have h4 := (baseOk_row hk hr).2 p hp
                rcases h3 with rfl | ⟨h5, h6⟩
                · omega
                · exact ih p (by omega) (by omega) q h6
            exact hlt (key i i (Nat.le_refl _) hin j hbit)
        have hbj : b j = true := hon j (by rw [hbit, Bool.and_true]; exact List.contains_iff_mem.2 (List.mem_range.2 hjn))
        obtain ⟨k, hkD⟩ := List.getElem?_of_mem hmem
        refine ⟨vals j, ?_, hg j hbj⟩
        rw [ha]
        refine putSel_on (e := (j, t, vals j)) k (by rw [List.getElem?_map, hkD]; rfl) ?_ hbj (hfit' _ hmem)
        refine List.all_eq_true.2 (fun x hx => ?_)
        rw [← List.map_drop] at hx
        obtain ⟨e, he, rfl⟩ := List.mem_map.1 hx
        have := List.all_eq_true.1 (hdist' k j t hkD) e (List.mem_append_right _ he)
        simp only [Bool.and_eq_true] at this
        exact this.2
      · rw [ha]
        refine putSel_off (List.all_eq_true.2 (fun x hx => ?_))
        obtain ⟨e, he, rfl⟩ := List.mem_map.1 hx
        exact List.all_eq_true.1 ht e he
    rcases hstep a w hE has with ⟨hw1, hgood⟩ | ⟨hw0, hu⟩
    · rw [if_pos hw1]
      exact hgood.wp next
    · rw [if_neg (by rw [hw0]; decide)]
      exact next undef w (Ext.refl w) hu
  · intro b a w hall hI
    rw [if_pos (hall (n - 1) (List.contains_iff_mem.2 (List.mem_range.2 (by omega))))] at hI
    exact hI
/-! ### single operations -/
variable {o : Oper} {a : Act} {w : World} {Gi : World → Value → Prop}
theorem goodE_val (v : Value) (hr : (execOp a.eval o).run P w = .ok (.value v) w) (hg : Gi w v) : Good P o a w Gi := Or.inl ⟨v, w, hr, Ext.refl w, hg⟩
theorem goodE_move {x : Operand} (v : Value) (ho : o.op = .move x) (hx : a.eval x = v) (hg : Gi w v) : Good P o a w Gi := goodE_val v (by unfold execOp; rw [ho]; simp [hx]) hg
theorem goodE_assign {x : Operand} (v : Value) (ho : o.op = .assign x) (hx : a.eval x = v) (hg : Gi w v) : Good P o a w Gi := goodE_val v (by unfold execOp; rw [ho]; simp [hx]) hg
theorem goodE_pick {c x y : Operand} (b : Bool) (v : Value) (ho : o.op = .pick c x y) (hc : a.eval c = .bool b) (hv : (if b then a.eval x else a.eval y) = v) (hg : Gi w v) : Good P o a w Gi :=
  goodE_val v (by unfold execOp; rw [ho]; subst hv; cases b <;> simp [hc, asBool]) hg
theorem goodE_row {t : TypeId} {x : Operand} (b off : Nat) (cs : List Value) (d : TypeDesc) (ho : o.op = .load t x) (hx : a.eval x = .pointer (some ⟨b, off, none⟩)) (hc : w.rangeAt b off cs) (hu : P.underlying t = some d) (hd : d.isRow = true)
    (hi : (P.info? t).map (·.size) = some cs.length) (hg : Gi w (.agg cs.toArray)) : Good P o a w Gi :=
  goodE_val _ (by
    unfold execOp
    rw [ho]
    simp only [hx, Instr.loadAt, Instr.sureAddr, Sem.run_bind, Sem.run_pure, Result.andThen_ok, run_loadVar_mid w b off t cs d hc hu hd hi]) hg
theorem goodE_new (v : Value) (w' : World) (hr : (execOp a.eval o).run P w = .ok (.value v) w') (hE : Ext w w') (hg : Gi w' v) : Good P o a w Gi := Or.inl ⟨v, w', hr, hE, hg⟩
theorem goodE_call {f : FuncId} {args : Array Operand} {argTypes : Array TypeId} (ho : o.op = .call ⟨.value (.func f), args, argTypes⟩) (vs : Array Value) (hvs : args.map a.eval = vs) (fn : Func) (hf : P.funcs[f]? = some fn)
    (hn : (fn.name == "runtime.NumGoroutine") = false) (hb : fn.body.isNone = false) (hc : Calls P f vs w (fun e w' => ∃ v, e = .returned v ∧ Ext w w' ∧ Gi w' v)) : Good P o a w Gi := by
  refine Or.inr ⟨f, vs, ?_, hc⟩
  have hn' : ¬ fn.name = "runtime.NumGoroutine" := by simpa using hn
  have hb' : ¬ fn.body = none := fun e => by rw [e] at hb; cases hb
  unfold execOp
  rw [ho]
  simp [resolve, Deferred.ofValue, invoke, callFunc, hvs, hf, hn', hb', go_sem]
/-! ### the last operation -/
theorem finE_skip {K : Act → World → Prop} {w1 : World} (hr : (execOp a.eval o).run P w = .ok .skip w1) (h : K (a.put o.dst undef) w1) : Oper.wp P o a w K Q := by
  unfold Oper.wp; rw [hr]; exact h
theorem finE_val {K : Act → World → Prop} {w1 : World} {v : Value} (hr : (execOp a.eval o).run P w = .ok (.value v) w1) (h : K (a.put o.dst v) w1) : Oper.wp P o a w K Q := by
  unfold Oper.wp; rw [hr]; exact h
theorem finE_call {K : Act → World → Prop} {f : FuncId} {args : Array Operand} {argTypes : Array TypeId} (ho : o.op = .call ⟨.value (.func f), args, argTypes⟩) (vs : Array Value) (hvs : args.map a.eval = vs) (fn : Func) (hf : P.funcs[f]? = some fn)
    (hn : (fn.name == "runtime.NumGoroutine") = false) (hb : fn.body.isNone = false) (hc : Calls P f vs w (fun e w' => ∃ v, e = .returned v ∧ K (a.put o.dst v) w')) : Oper.wp P o a w K Q := by
  have hr : (execOp a.eval o).run P w = .ok (.enter f vs) w := by
    have hn' : ¬ fn.name = "runtime.NumGoroutine" := by simpa using hn
    have hb' : ¬ fn.body = none := fun e => by rw [e] at hb; cases hb
    unfold execOp
    rw [ho]
    simp [resolve, Deferred.ofValue, invoke, callFunc, hvs, hf, hn', hb', go_sem]
  unfold Oper.wp
  rw [hr]
  exact hc.mono (fun e w' ⟨v, he, h⟩ => by subst he; exact h)
end
end Go.Proofs.YthiedcebneejjaaDoorW.PrintLast
