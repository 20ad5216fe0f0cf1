/- mac.New: a code begins. -/
import Derived.Test.YtnkhhnfmijljbaaDoorMBl
set_option linter.unusedVariables false
set_option linter.unusedSimpArgs false
namespace Go.Proofs.YtnkhhnfmijljbaaDoor
open Go.RowKit Go.Proofs.YtnkhhnfmijljbaaDoorW.PrintWords Go.Proofs.YtnkhhnfmijljbaaDoorW.PrintLast Go.Proofs.YtnkhhnfmijljbaaDoorW.PrintMore
open Extern.Stop (cell)

/-- a Keyed's cells: the state's address, the outer block -/
def kyL (s : Nat) (o : List UInt8) : List Value := .pointer (some ⟨s, 0, none⟩) :: o.map cell
/-- the code at g (its inner state at s) under the secret sec has taken bs -/
structure Ky (w : World) (g s : Nat) (sec bs : List UInt8) : Prop where
  row : Row w g (kyL s (Spec.xorL 0x5c (Spec.key sec))) 85
  st : St w s (Spec.xorL 0x36 (Spec.key sec) ++ bs) (Spec.xorL 0x36 (Spec.key sec) ++ bs).length
  ne : s ≠ g
theorem Ky.ext {w w' : World} {g s : Nat} {sec bs : List UInt8} (h : Ky w g s sec bs) (hE : Ext w w') : Ky w' g s sec bs := ⟨h.row.ext hE, h.st.ext hE, h.ne⟩
/-- the first j bytes turned by x -/
def mixL (x : UInt8) (l : List UInt8) (j : Nat) : List UInt8 := Spec.xorL x (l.take j) ++ l.drop j
theorem wp_then_world {p : World → Prop} {w : World} (F : World → Prop) (h : F w) (k : ∀ w, F w → p w) : p w := k w h
theorem mixL_length (x : UInt8) (l : List UInt8) (j : Nat) : (mixL x l j).length = l.length := by simp [mixL, Spec.xorL]; omega
theorem mixL_zero (x : UInt8) (l : List UInt8) : mixL x l 0 = l := by simp [mixL, Spec.xorL]
theorem mixL_full (x : UInt8) (l : List UInt8) (j : Nat) (h : l.length ≤ j) : mixL x l j = Spec.xorL x l := by simp [mixL, List.take_of_length_le h, List.drop_of_length_le h]
theorem mixL_at (x : UInt8) (l : List UInt8) (j : Nat) (h : j < l.length) : (mixL x l j)[j]? = some (l.getD j 0) := by
  rw [mixL, List.getElem?_append_right (by simp [Spec.xorL]; omega)]
  have : (Spec.xorL x (l.take j)).length = j := by simp [Spec.xorL]; omega
  rw [this, Nat.sub_self, List.getElem?_drop, Nat.add_zero, List.getElem?_eq_getElem h, List.getD, List.getElem?_eq_getElem h]; rfl
theorem mixL_set (x : UInt8) (l : List UInt8) (j : Nat) (h : j < l.length) : (mixL x l j).set j (l.getD j 0 ^^^ x) = mixL x l (j + 1) := by
  have h1 : (Spec.xorL x (l.take j)).length = j := by simp [Spec.xorL]; omega
  have h2 : l.getD j 0 = l[j] := by rw [List.getD, List.getElem?_eq_getElem h]; rfl
  rw [mixL, mixL, List.set_append_right _ _ (by omega), h1, Nat.sub_self, List.drop_eq_getElem_cons h, List.set_cons_zero, List.take_succ_eq_append_getElem h, h2]
  simp only [Spec.xorL, List.map_append, List.map_cons, List.map_nil, List.append_assoc, List.singleton_append]
theorem mixC_at (x : UInt8) (l : List UInt8) (j : Nat) (h : j < l.length) : ((mixL x l j).map cell)[j]? = some (.int .u8 (n8 (l.getD j 0))) := by
  rw [List.getElem?_map, mixL_at x l j h]; rfl
theorem mixC_set (x : UInt8) (l : List UInt8) (j : Nat) (h : j < l.length) : ((mixL x l j).map cell).set j (.int .u8 (n8 (l.getD j 0 ^^^ x))) = (mixL x l (j + 1)).map cell := by
  rw [← mixL_set x l j h, List.map_set]; rfl
theorem x36 (x : UInt8) : bits .xor .u8 (n8 x) (54 : Int) = n8 (x ^^^ 0x36) := bits_u8_xor x 0x36
theorem x5c (x : UInt8) : bits .xor .u8 (n8 x) (92 : Int) = n8 (x ^^^ 0x5c) := bits_u8_xor x 0x5c
theorem fold_set (off : Nat) : ∀ (vs : List Value) (j : Nat) (cs : List Value), off + j + vs.length ≤ cs.length →
    (vs.zipIdx j).foldl (fun (a : Array Value) (x : Value × Nat) => a.setIfInBounds (off + x.2) x.1) cs.toArray = (cs.take (off + j) ++ vs ++ cs.drop (off + j + vs.length)).toArray
  | [], j, cs, h => by simp
  | v :: vs, j, cs, h => by
    have hl : off + j + (vs.length + 1) ≤ cs.length := by simpa using h
    have h1 := fold_set off vs (j + 1) (cs.set (off + j) v) (by rw [List.length_set]; omega)
    rw [List.zipIdx_cons, List.foldl_cons]
    show List.foldl _ (cs.toArray.setIfInBounds (off + j) v) _ = _
    rw [List.setIfInBounds_toArray, h1]
    congr 1
    have h2 := list_seg_step cs (off + j) v vs hl
    rw [show off + (j + 1) = off + j + 1 by omega, h2]
    simp [Nat.add_assoc]
def fieldsOf (d : Option TypeDesc) : List Field := match d with
  | some (.struct fs) => fs.toList
  | _ => []
theorem places85 : ((fieldsOf (Tryd.prog.underlying 85)).mapM (fun f => (Tryd.prog.info? f.type).map fun i => (f.offset, i.size))) = some [(0, 1), (1, 64)] := by kernel_rfl
theorem zero85 : (Tryd.prog.info? 85).map (·.zero) = some (some (.agg (.pointer none :: z8 64).toArray)) := by kernel_rfl
theorem built85 (s : Nat) (o : List UInt8) (ho : o.length = 64) : Tryd.prog.built 85 [(0, .pointer (some ⟨s, 0, none⟩)), (1, .agg (o.map cell).toArray)] = some (kyL s o).toArray := by
  obtain ⟨it, hit, hz⟩ := Option.map_eq_some_iff.1 zero85
  have hp := places85
  unfold Program.built
  cases hu : Tryd.prog.underlying 85 with
  | none => rw [hu] at hp; simp [fieldsOf] at hp
  | some d =>
    cases d <;> (try (rw [hu] at hp; simp [fieldsOf] at hp; done))
    rename_i fs
    rw [hu] at hp
    simp only [fieldsOf] at hp
    simp only [hit, hz, hp]
    have e1 : ((o.map cell).toArray.zipIdx.foldl (fun (a : Array Value) (x : Value × Nat) => a.setIfInBounds (1 + x.2) x.1) (Value.pointer (some ⟨s, 0, none⟩) :: z8 64).toArray) = (kyL s o).toArray := by
      have h1 := fold_set 1 (o.map cell) 0 (Value.pointer (some ⟨s, 0, none⟩) :: z8 64) (by simp [z8, ho])
      rw [← Array.foldl_toList, Array.toList_zipIdx]
      refine h1.trans ?_
      simp [kyL, z8, ho]
    simp [Instr.fill, Value.cells, z8, ho] at e1 ⊢
    exact e1
set_option maxHeartbeats 1000000 in
set_option maxRecDepth 100000 in
theorem mnew_calls (w : World) (A : Option Addr) (c : Nat) (xs : List UInt8) (hK : KTab w) (hF : FTab w) (hx : Bs w A xs.length xs) (hc : xs.length ≤ c) (hl : xs.length < 500000000000000000) :
    Calls Tryd.prog 29 #[.slice A xs.length c] w (fun e w' => ∃ G s, e = .returned (.pointer (some ⟨G, 0, none⟩)) ∧ w.heap.size ≤ G ∧ w.heap.size ≤ s ∧ Below w.heap.size w w' ∧ Ky w' G s xs []) := by
  have HK := Aside0.mk hK
  have HF := Aside0.mk hF
  have HX := Aside0.mk hx
  clear hK hF hx
  go_enter Tryd.func29, Tryd.ntmps29
  go_wp2_with fail
  refine (new_calls w HF.out).mono ?_
  rintro e w1 ⟨rfl, hB1, hS1, hSt1⟩
  obtain ⟨S, hS⟩ : ∃ S, S = w.heap.size := ⟨_, rfl⟩
  rw [← hS] at hSt1 ⊢
  have HE1 := Aside0.mk (show Ext w w1 from hB1)
  have HST1 := Aside0.mk hSt1
  have HS := Aside0.mk hS
  have HX1 := Aside0.mk (HX.out.below hB1)
  clear hB1 hS1 hSt1 hS
  go_wp2_with fail
  refine (mblock_calls w1 A c xs (HK.out.ext HE1.out) (HF.out.ext HE1.out) HX1.out hc hl).mono ?_
  rintro e w2 ⟨rfl, hE2⟩
  have HE2 := Aside0.mk (HE1.out.trans hE2)
  have HST2 := Aside0.mk (HST1.out.ext hE2)
  clear hE2
  obtain ⟨ks, hks⟩ : ∃ ks, ks = Spec.key xs := ⟨_, rfl⟩
  have hkl : ks.length = 64 := by rw [hks]; exact Spec.key_length xs
  have HKS := Aside0.mk hks
  have HKL := Aside0.mk hkl
  rw [← hks]
  clear hks hkl
  go_wp2_with (with_reducible refine gate_dst (N := 9) rfl ?_; refine Aside0.out ?_)
  refine Aside0.mk ?_
  refine wpL_val (.agg (kyL S ks).toArray) (w1 := w2) rfl (by
    have h := run_build (P := Tryd.prog) w2 85 #[(0, .pointer (some ⟨S, 0, none⟩)), (1, .agg (ks.map cell).toArray)] _ (built85 S ks HKL.out)
    simp only [execOp, Sem.run_bind, List.map_toArray, List.map_cons, List.map_nil, Act.eval, Act.put]
    exact (congrArg (fun r => Result.andThen r fun a w' => Result.ok (Next.value a) w') h)) ?_
  go_wp2_with (with_reducible refine gate_dst (N := 14) rfl ?_; refine Aside0.out ?_)
  refine Aside0.mk ?_
  obtain ⟨G, hG⟩ : ∃ G, G = w2.heap.size := ⟨_, rfl⟩
  have hSG : S < G := by have := HST2.out.choose_spec.2.lt; omega
  have hwS : w.heap.size ≤ S := by have := HS.out; omega
  have hwG : w.heap.size ≤ G := by omega
  refine wpList_world (fun w3 => Below w.heap.size w w3 ∧ Row w3 G (kyL S ks) 85 ∧ St w3 S [] 0) ⟨?_, ?_, ?_⟩ ?_
  · exact (below_ext (Ext.refl w) HE2.out).alloc HE2.out.size _
  · rw [hG]; exact Row.alloc _ _ _
  · exact HST2.out.ext ((Ext.refl _).alloc _)
  rintro w3 ⟨hB3, hR3, hS3⟩
  rw [← hG]
  have HB3 := Aside0.mk hB3
  have HR3 := Aside0.mk hR3
  have HS3 := Aside0.mk hS3
  clear hB3 hR3 hS3 hG
  have HKZ := Aside0.mk (show (ks.map cell).toArray.size = 64 by simp [HKL.out])
  refine wpL_row (by rfl) G 1 rfl (ks.map cell) _ (fun i v hv => by rw [Nat.add_comm]; exact HR3.out.cell (by simpa [kyL] using hv)) Tryd.underlying74 rfl (by rw [List.length_map, HKL.out]; kernel_rfl) ?_
  go_wp2_with (with_reducible change wpList _ _ _ (Oper.mk _ (Op.store 74 _ _) _ _ _ _ :: _) _ _; refine Aside0.out ?_)
  refine Aside0.mk ?_
  refine wpList_store_row rfl 74 _ _ rfl w3.heap.size (ks.map cell).toArray rfl (by simp [go_sem]) 74 _ (heap_alloc_new _ _) (by rw [HKZ.out]; kernel_rfl) (by rw [HKZ.out]; rfl) (oneCells _) ?_
  obtain ⟨F, hF⟩ : ∃ F, F = w3.heap.size := ⟨_, rfl⟩
  have hEr : Ext w3 ((w3.alloc (.cells (z8 64).toArray 74)).setRow w3.heap.size (ks.map cell).toArray) := below_alloc_setRow _ _ _
  have hGF : G < F := by have := HR3.out.lt; omega
  refine wpList_world (fun w4 => Below w.heap.size w w4 ∧ Row w4 G (kyL S ks) 85 ∧ St w4 S [] 0 ∧ Row w4 F (ks.map cell) 74) ⟨below_ext HB3.out hEr, HR3.out.ext hEr, HS3.out.ext hEr, by rw [hF]; exact alloc_setRow _ _ _ _⟩ ?_
  rintro w4 ⟨hB4, hR4, hS4, hF4⟩
  rw [← hF]
  have HB4 := Aside0.mk hB4
  have HR4 := Aside0.mk hR4
  have HS4 := Aside0.mk hS4
  have HF4 := Aside0.mk hF4
  clear hB4 hR4 hS4 hF4 hEr hF
  go_wp2_with fail
  go_loopw [15] (fun i wr => ∃ j : Nat, j ≤ 64 ∧ i = .int .i64 j ∧ Below w.heap.size w wr ∧ Row wr G (kyL S (mixL 0x5c ks j)) 85 ∧ Row wr F ((mixL 0x36 ks j).map cell) 74 ∧ St wr S [] 0) (fun i _ => 64 - (intOf i).toNat)
  case atStart => exact ⟨0, by omega, rfl, HB4.out, by rw [mixL_zero]; exact HR4.out, by rw [mixL_zero]; exact HF4.out, HS4.out⟩
  case round =>
    obtain ⟨j, hj, rfl, hB, hR, hF, hS⟩ := hrel
    have HB := Aside0.mk hB
    have HR := Aside0.mk hR
    have HFr := Aside0.mk hF
    have HSr := Aside0.mk hS
    by_cases hlt : j < 64
    · have hjl : j < ks.length := by rw [HKL.out]; exact hlt
      obtain ⟨x, hx⟩ : ∃ x, x = ks.getD j 0 := ⟨_, rfl⟩
      have c0 := hF.cell (mixC_at 0x36 ks j hjl)
      rw [← hx] at c0
      have cf := hF.free j
      have h36 := x36 x
      have b4 : (0 : Int) ≤ j ∧ (j : Int) < 64 := by omega
      have HX := Aside0.mk hx
      have HJL := Aside0.mk hjl
      clear hB hR hF hS hx hjl
      go_wp2_with fail
      refine wp_world (fun w5 => Below w.heap.size w w5 ∧ Row w5 G (kyL S (mixL 0x5c ks j)) 85 ∧ Row w5 F ((mixL 0x36 ks (j + 1)).map cell) 74 ∧ St w5 S [] 0) ⟨HB.out.setCell (p := ⟨F, j, none⟩) (by show w.heap.size ≤ F; omega) _, HR.out.other _ _ (by show G ≠ F; omega), ?_, ?_⟩ ?_
      · have h := HFr.out.set j (.int .u8 (n8 (x ^^^ 0x36)))
        rw [HX.out, mixC_set 0x36 ks j HJL.out] at h
        rw [HX.out]; exact h
      · obtain ⟨T, hT, hRow⟩ := HSr.out
        exact ⟨T, hT, hRow.other _ _ (by show S ≠ F; omega)⟩
      rintro w5 ⟨hB5, hR5, hF5, hS5⟩
      have HBc := Aside0.mk hB5
      have HRGc := Aside0.mk hR5
      have HFc := Aside0.mk hF5
      have HSc := Aside0.mk hS5
      have CX := Aside0.mk (show (kyL S (mixL 0x5c ks j))[1 + j]? = some (.int .u8 (n8 x)) by rw [kyL, Nat.add_comm, List.getElem?_cons_succ, HX.out]; exact mixC_at 0x5c ks j HJL.out)
      clear hB5 hR5 hF5 hS5 c0 cf h36
      refine ext_tail 11 [(0, 23), (1, 24), (2, 25), (3, 26), (4, 27), (5, 28), (6, 29), (7, 30), (8, 31), (9, 32)] [0, 1, 2, 3, 4, 5, 6, 7, 8, 9] (fun i w v => match i with | 0 => v = .pointer (some ⟨G, 0, none⟩) | 1 => v = .int .i64 j | 2 => v = .pointer (some ⟨G, 0, none⟩) | 3 => v = .pointer (some ⟨G, 1, none⟩) | 4 => v = .pointer (some ⟨G, 1 + j, none⟩) | 5 => v = .int .u8 (n8 x) | 6 => v = .int .u8 (n8 (x ^^^ 0x5c)) | 7 => v = .pointer (some ⟨G, 0, none⟩) | 8 => v = .pointer (some ⟨G, 1, none⟩) | 9 => v = .pointer (some ⟨G, 1 + j, none⟩) | _ => True) (by kernel_rfl) (by kernel_rfl) (by rfl) rfl ?mono7 ?steps7 ?fin7
      case mono7 =>
        intro i w w' v h hE
        match i with
        | 0 => exact h
        | 1 => exact h
        | 2 => exact h
        | 3 => exact h
        | 4 => exact h
        | 5 => exact h
        | 6 => exact h
        | 7 => exact h
        | 8 => exact h
        | 9 => exact h
        | _ + 10 => trivial
      case steps7 =>
        refine stepE_cons ⟨_, rfl, fun a w hE hH => ?_⟩ ?_
        ·
          have e3 : a.tmps[3]? = some (.pointer (some ⟨G, 0, none⟩)) := hH.old 3 rfl
          exact Or.inl ⟨rfl, goodE_move _ rfl (eval_of e3) rfl⟩
        refine stepE_cons ⟨_, rfl, fun a w hE hH => ?_⟩ ?_
        ·
          have e5 : a.tmps[5]? = some (.int .i64 j) := hH.old 5 rfl
          exact Or.inl ⟨rfl, goodE_move _ rfl (eval_of e5) rfl⟩
        refine stepE_cons ⟨_, rfl, fun a w hE hH => ?_⟩ ?_
        ·
          obtain ⟨v23, e23, g23⟩ := hH.dep 0 23 rfl (by kernel_rfl)
          have q23 : v23 = .pointer (some ⟨G, 0, none⟩) := g23
          subst q23
          exact Or.inl ⟨rfl, goodE_val (.pointer (some ⟨G, 0, none⟩)) (by simp [execOp, Act.eval, e23, go_sem]) rfl⟩
        refine stepE_cons ⟨_, rfl, fun a w hE hH => ?_⟩ ?_
        ·
          obtain ⟨v25, e25, g25⟩ := hH.dep 2 25 rfl (by kernel_rfl)
          have q25 : v25 = .pointer (some ⟨G, 0, none⟩) := g25
          subst q25
          exact Or.inl ⟨rfl, goodE_val (.pointer (some ⟨G, 1, none⟩)) (by simp [execOp, Act.eval, e25, go_sem]) rfl⟩
        refine stepE_cons ⟨_, rfl, fun a w hE hH => ?_⟩ ?_
        ·
          obtain ⟨v26, e26, g26⟩ := hH.dep 3 26 rfl (by kernel_rfl)
          have q26 : v26 = .pointer (some ⟨G, 1, none⟩) := g26
          subst q26
          obtain ⟨v24, e24, g24⟩ := hH.dep 1 24 rfl (by kernel_rfl)
          have q24 : v24 = .int .i64 j := g24
          subst q24
          exact Or.inl ⟨(rfl), goodE_val (.pointer (some ⟨G, 1 + j, none⟩)) (by simp [execOp, Act.eval, e26, e24, go_sem, b4]) rfl⟩
        refine stepE_cons ⟨_, rfl, fun a w hE hH => ?_⟩ ?_
        ·
          obtain ⟨v27, e27, g27⟩ := hH.dep 4 27 rfl (by kernel_rfl)
          have q27 : v27 = .pointer (some ⟨G, 1 + j, none⟩) := g27
          subst q27
          exact Or.inl ⟨(rfl), goodE_val (.int .u8 (n8 x)) (by simp [execOp, Act.eval, e27, go_sem, (HRGc.out.drew.ext hE).cell CX.out]) rfl⟩
        refine stepE_cons ⟨_, rfl, fun a w hE hH => ?_⟩ ?_
        ·
          obtain ⟨v28, e28, g28⟩ := hH.dep 5 28 rfl (by kernel_rfl)
          have q28 : v28 = .int .u8 (n8 x) := g28
          subst q28
          exact Or.inl ⟨(rfl), goodE_val (.int .u8 (n8 (x ^^^ 0x5c))) (by simp [execOp, Act.eval, e28, go_sem, x5c]) rfl⟩
        refine stepE_cons ⟨_, rfl, fun a w hE hH => ?_⟩ ?_
        ·
          obtain ⟨v23, e23, g23⟩ := hH.dep 0 23 rfl (by kernel_rfl)
          have q23 : v23 = .pointer (some ⟨G, 0, none⟩) := g23
          subst q23
          exact Or.inl ⟨rfl, goodE_val (.pointer (some ⟨G, 0, none⟩)) (by simp [execOp, Act.eval, e23, go_sem]) rfl⟩
        refine stepE_cons ⟨_, rfl, fun a w hE hH => ?_⟩ ?_
        ·
          obtain ⟨v30, e30, g30⟩ := hH.dep 7 30 rfl (by kernel_rfl)
          have q30 : v30 = .pointer (some ⟨G, 0, none⟩) := g30
          subst q30
          exact Or.inl ⟨rfl, goodE_val (.pointer (some ⟨G, 1, none⟩)) (by simp [execOp, Act.eval, e30, go_sem]) rfl⟩
        refine stepE_cons ⟨_, rfl, fun a w hE hH => ?_⟩ ?_
        ·
          obtain ⟨v31, e31, g31⟩ := hH.dep 8 31 rfl (by kernel_rfl)
          have q31 : v31 = .pointer (some ⟨G, 1, none⟩) := g31
          subst q31
          obtain ⟨v24, e24, g24⟩ := hH.dep 1 24 rfl (by kernel_rfl)
          have q24 : v24 = .int .i64 j := g24
          subst q24
          exact Or.inl ⟨(rfl), goodE_val (.pointer (some ⟨G, 1 + j, none⟩)) (by simp [execOp, Act.eval, e31, e24, go_sem, b4]) rfl⟩
        exact stepE_nil
      refine ⟨⟨none, .store 5 (.tmp 32) (.tmp 29), _, _, _, none⟩, rfl, ?_⟩
      rintro vals wz hE hV
      have k32 : vals 9 = .pointer (some ⟨G, 1 + j, none⟩) := hV 9 (by simp) rfl
      have k29 : vals 6 = .int .u8 (n8 (x ^^^ 0x5c)) := hV 6 (by simp) rfl
      refine ⟨rfl, ?_⟩
      intro KK hKK
      simp only [List.map_cons, List.map_nil, putAll, Act.put, List.setIfInBounds_toArray, List.set_cons_zero, List.set_cons_succ, k32, k29]
      have cg := (HRGc.out.drew.ext hE).cell CX.out
      have fg := (HRGc.out.drew.ext hE).free (1 + j)
      refine finE_skip (w1 := wz.setCell ⟨G, 1 + j, none⟩ (.int .u8 (n8 (x ^^^ 0x5c)))) (by simp [execOp, Act.eval, go_sem, cg, fg]) (hKK _ _ ?_)
      refine wp_then_world (fun w6 => Below w.heap.size w w6 ∧ Row w6 G (kyL S (mixL 0x5c ks (j + 1))) 85 ∧ Row w6 F ((mixL 0x36 ks (j + 1)).map cell) 74 ∧ St w6 S [] 0) ⟨?_, ?_, ?_, ?_⟩ ?_
      · exact (below_ext HBc.out ((Ext.to_drew _).trans hE)).setCell (p := ⟨G, 1 + j, none⟩) (by show w.heap.size ≤ G; omega) _
      · have h := (HRGc.out.drew.ext hE).set (1 + j) (.int .u8 (n8 (x ^^^ 0x5c)))
        have e : (kyL S (mixL 0x5c ks j)).set (1 + j) (.int .u8 (n8 (x ^^^ 0x5c))) = kyL S (mixL 0x5c ks (j + 1)) := by
          rw [kyL, kyL, Nat.add_comm 1 j, List.set_cons_succ, HX.out, mixC_set 0x5c ks j HJL.out]
        rw [e] at h; exact h
      · exact (HFc.out.drew.ext hE).other _ _ (by show F ≠ G; omega)
      · obtain ⟨T, hT, hRow⟩ := HSc.out.ext ((Ext.to_drew _).trans hE)
        exact ⟨T, hT, hRow.other _ _ (by show S ≠ G; omega)⟩
      rintro w6 ⟨hB6, hR6, hF6, hS6⟩
      have HB6 := Aside0.mk hB6
      have HR6 := Aside0.mk hR6
      have HF6 := Aside0.mk hF6
      have HS6 := Aside0.mk hS6
      clear hB6 hR6 hF6 hS6 cg fg hE hV k32 k29
      go_wp2
      go_roundw
      case rel => exact ⟨j + 1, by omega, by simp, HB6.out, HR6.out, HF6.out, HS6.out⟩
      case measure => simp [intOf]; omega
    · obtain rfl : j = 64 := by omega
      rw [mixL_full 0x5c ks 64 (by rw [HKL.out]; omega)] at hR
      rw [mixL_full 0x36 ks 64 (by rw [HKL.out]; omega)] at hF
      have HRx := Aside0.mk hR
      have HFx := Aside0.mk hF
      clear hB hR hF hS HR HFr
      go_wp2_with fail
      refine ext_tail 6 [(0, 34), (1, 35), (2, 36), (3, 37), (4, 38)] [0, 1, 2, 3, 4] (fun i w v => match i with | 0 => v = .pointer (some ⟨G, 0, none⟩) | 1 => v = .pointer (some ⟨G, 0, none⟩) | 2 => v = .pointer (some ⟨G, 0, none⟩) | 3 => v = .pointer (some ⟨S, 0, none⟩) | 4 => v = .slice (some ⟨F, 0, none⟩) 64 64 | _ => True) (by kernel_rfl) (by kernel_rfl) (by rfl) rfl ?mono9 ?steps9 ?fin9
      case mono9 =>
        intro i w w' v h hE
        match i with
        | 0 => exact h
        | 1 => exact h
        | 2 => exact h
        | 3 => exact h
        | 4 => exact h
        | _ + 5 => trivial
      case steps9 =>
        refine stepE_cons ⟨_, rfl, fun a w hE hH => ?_⟩ ?_
        ·
          have e3 : a.tmps[3]? = some (.pointer (some ⟨G, 0, none⟩)) := hH.old 3 rfl
          exact Or.inl ⟨rfl, goodE_move _ rfl (eval_of e3) rfl⟩
        refine stepE_cons ⟨_, rfl, fun a w hE hH => ?_⟩ ?_
        ·
          obtain ⟨v34, e34, g34⟩ := hH.dep 0 34 rfl (by kernel_rfl)
          have q34 : v34 = .pointer (some ⟨G, 0, none⟩) := g34
          subst q34
          exact Or.inl ⟨rfl, goodE_val (.pointer (some ⟨G, 0, none⟩)) (by simp [execOp, Act.eval, e34, go_sem]) rfl⟩
        refine stepE_cons ⟨_, rfl, fun a w hE hH => ?_⟩ ?_
        ·
          obtain ⟨v35, e35, g35⟩ := hH.dep 1 35 rfl (by kernel_rfl)
          have q35 : v35 = .pointer (some ⟨G, 0, none⟩) := g35
          subst q35
          exact Or.inl ⟨rfl, goodE_val (.pointer (some ⟨G, 0, none⟩)) (by simp [execOp, Act.eval, e35, go_sem]) rfl⟩
        refine stepE_cons ⟨_, rfl, fun a w hE hH => ?_⟩ ?_
        ·
          obtain ⟨v36, e36, g36⟩ := hH.dep 2 36 rfl (by kernel_rfl)
          have q36 : v36 = .pointer (some ⟨G, 0, none⟩) := g36
          subst q36
          exact Or.inl ⟨(rfl), goodE_val (.pointer (some ⟨S, 0, none⟩)) (by simp [execOp, Act.eval, e36, go_sem, (HRx.out.drew.ext hE).cell (show (kyL S (Spec.xorL 0x5c ks))[0]? = some (.pointer (some ⟨S, 0, none⟩)) from rfl)]) rfl⟩
        refine stepE_cons ⟨_, rfl, fun a w hE hH => ?_⟩ ?_
        ·
          have e4 : a.tmps[4]? = some (.pointer (some ⟨F, 0, none⟩)) := hH.old 4 rfl
          exact Or.inl ⟨rfl, goodE_val (.slice (some ⟨F, 0, none⟩) 64 64) (by simp [execOp, Act.eval, e4, go_sem]) rfl⟩
        exact stepE_nil
      refine ⟨⟨(some 39), .call ⟨.value (.func 20), #[(.tmp 37), (.tmp 38)], #[35, 24]⟩, _, _, _, none⟩, rfl, ?_⟩
      rintro vals wz hE hV
      have k37 : vals 3 = .pointer (some ⟨S, 0, none⟩) := hV 3 (by simp) rfl
      have k38 : vals 4 = .slice (some ⟨F, 0, none⟩) 64 64 := hV 4 (by simp) rfl
      refine ⟨rfl, ?_⟩
      intro KK hKK
      simp only [List.map_cons, List.map_nil, putAll, Act.put, List.setIfInBounds_toArray, List.set_cons_zero, List.set_cons_succ, k37, k38]
      have hxl : (Spec.xorL 0x36 ks).length = 64 := by rw [Spec.xorL_length, HKL.out]
      have hcall := write_of wz S [] F 0 64 64 (Spec.xorL 0x36 ks) 74 (HK.out.below (below_ext HB.out ((Ext.to_drew _).trans hE)) HK.out.1) (HSr.out.ext ((Ext.to_drew _).trans hE)) (HFx.out.drew.ext hE) (by omega) (by omega) (by omega) (by omega) (by simp)
      rw [List.drop_zero, List.take_of_length_le (by omega), List.nil_append] at hcall
      refine finE_call rfl #[.pointer (some ⟨S, 0, none⟩), .slice (some ⟨F, 0, none⟩) 64 64] (by simp [Act.eval]) _ Tryd.func20 (by kernel_rfl) (by kernel_rfl) (hcall.mono ?_)
      rintro e w7 ⟨rfl, hO, hS7⟩
      refine ⟨_, rfl, hKK _ _ ?_⟩
      have HB7 := Aside0.mk (below_only (below_ext HB.out ((Ext.to_drew _).trans hE)) hO hwS (by have := HB.out.size; have := hE.size; simp at this; omega))
      have HR7 := Aside0.mk (hO.row (HRx.out.drew.ext hE) (by omega : G ≠ S))
      have HS7 := Aside0.mk hS7
      clear hE hV hO hS7 hcall k37 k38 hxl hKK
      go_wp2
      go_ret
      refine ⟨G, S, rfl, hwG, hwS, HB7.out, ?_, ?_, by omega⟩
      · rw [← HKS.out]; exact HR7.out
      · rw [List.append_nil, ← HKS.out]; exact HS7.out
end Go.Proofs.YtnkhhnfmijljbaaDoor
