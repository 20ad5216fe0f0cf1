/- Parts of the proof: The document's layer 1 (printed functions): plain answers. cairnlaw01.OctetOrder: true of any three strings of bytes. cairnref01.Hex, cairnlaw01.Roomy, Whole, Turn: by hand. cairnlaw01.Roomy, Whole, Turn: bytes with marks behind them. -/
import Derived.Test.YthiedcebneejjaaDoorZAllb
import Derived.Test.YthiedcebneejjaaDoorZAlld
import Derived.Deep.CutBlock
import Derived.Deep.CutRange
import Derived.Test.YthiedcebneejjaaDoorZAlla
set_option linter.unusedVariables false
set_option linter.unusedSimpArgs false
namespace Go.Proofs.YthiedcebneejjaaDoor.Ord
open Go.RowKit Go.Proofs.YthiedcebneejjaaDoorW.PrintWords Go.Proofs.YthiedcebneejjaaDoorW.PrintLast Go.Proofs.YthiedcebneejjaaDoorW.PrintMore
open Go.Proofs.YthiedcebneejjaaDoor.Hand Go.Proofs.YthiedcebneejjaaDoor

theorem rcom_loop (a b : List Int) (ha : a.length ≤ 9223372036854775807) : ∀ (d i : Nat), i + d = a.length → Ev (fun k => R.cairnref01_Common.l0 k a b i) ((i + com (a.drop i) (b.drop i) : Nat) : Int) := by
  intro d
  induction d with
  | zero =>
    intro i hi
    refine Ev.step (f := fun _ => some (i : Int)) (fun k => ?_) ?_
    · simp only [R.cairnref01_Common.l0]
      rw [if_neg (by omega)]
    · rw [List.drop_of_length_le (by omega)]; exact Ev.now _
  | succ d ih =>
    intro i hi
    have h0 : i < a.length := by omega
    rw [drop_cons a i h0]
    have r0 := rd_nat a i h0
    by_cases h1 : i < b.length
    · rw [drop_cons b i h1]
      have r1 := rd_nat b i h1
      by_cases he : a[i] = b[i]
      · have h := ih (i + 1) (by omega)
        refine Ev.step (f := fun k => R.cairnref01_Common.l0 k a b ((i + 1 : Nat) : Int)) (fun k => ?_) ?_
        · simp only [R.cairnref01_Common.l0]
          rw [if_pos (by omega), if_pos (by omega), if_pos (by omega), r0, r1, if_pos he, wrap64_big _ (by omega) (by omega)]
          rfl
        · rw [com, if_pos he, show i + (com (a.drop (i + 1)) (b.drop (i + 1)) + 1) = i + 1 + com (a.drop (i + 1)) (b.drop (i + 1)) by omega]
          exact h
      · refine Ev.step (f := fun _ => some (i : Int)) (fun k => ?_) ?_
        · simp only [R.cairnref01_Common.l0]
          rw [if_pos (by omega), if_pos (by omega), if_pos (by omega), r0, r1, if_neg he]
        · rw [com, if_neg he]; exact Ev.now _
    · refine Ev.step (f := fun _ => some (i : Int)) (fun k => ?_) ?_
      · simp only [R.cairnref01_Common.l0]
        rw [if_pos (by omega), if_neg (by omega)]
      · rw [List.drop_of_length_le (show b.length ≤ i by omega), com]
        · exact Ev.now _
        · intro _ _ _ _ _ h; cases h
theorem rcommon_ev (a b : List Int) (ha : a.length ≤ 9223372036854775807) : Ev (fun k => R.cairnref01_Common.f k a b) (com a b : Int) := by
  have h := rcom_loop a b ha a.length 0 (by omega)
  rw [List.drop_zero, List.drop_zero, Nat.zero_add] at h
  exact Ev.congr (fun k => rfl) h
theorem rcompare_ev (a b : List Int) (ha : a.length ≤ 9223372036854775807) : Ev (fun k => R.cairnref01_Compare.f k a b) (cmp a b) := by
  refine Ev.bind (rcommon_ev a b ha) ?_
  obtain ⟨l1, l2⟩ := com_le a b
  rw [cmp_com]
  by_cases h1 : com a b = a.length
  · rw [if_pos h1]
    refine Ev.congr (f := fun k => R.cairnref01_Compare.j0 k a b (com a b : Int) ((com a b : Int) == (b.length : Int))) (fun k => by rw [if_pos (by omega)]) ?_
    by_cases h2 : com a b = b.length
    · rw [if_pos h2]
      refine Ev.step (f := fun _ => some 0) (fun k => ?_) (Ev.now _)
      simp only [R.cairnref01_Compare.j0]
      rw [if_pos (by rw [beq_iff_eq]; omega)]
    · rw [if_neg h2]
      refine Ev.step (f := fun _ => some (-1)) (fun k => ?_) (Ev.now _)
      simp only [R.cairnref01_Compare.j0]
      rw [if_neg (by rw [beq_iff_eq]; omega), if_pos (by omega)]
  · rw [if_neg h1]
    refine Ev.congr (f := fun k => R.cairnref01_Compare.j0 k a b (com a b : Int) false) (fun k => by rw [if_neg (by omega)]) ?_
    by_cases h2 : com a b = b.length
    · rw [if_pos h2]
      refine Ev.step (f := fun _ => some 1) (fun k => ?_) (Ev.now _)
      simp only [R.cairnref01_Compare.j0]
      rw [if_neg (by simp), if_neg (by omega), if_pos (by omega)]
    · rw [if_neg h2]
      have ea : rd a (com a b : Int) = a.getD (com a b) 0 := by rw [rd, Int.toNat_natCast]
      have eb : rd b (com a b : Int) = b.getD (com a b) 0 := by rw [rd, Int.toNat_natCast]
      refine Ev.step (f := fun _ => some (if a.getD (com a b) 0 < b.getD (com a b) 0 then -1 else 1)) (fun k => ?_) (Ev.now _)
      simp only [R.cairnref01_Compare.j0]
      rw [if_neg (by simp), if_neg (by omega), if_neg (by omega), if_pos (by omega), if_pos (by omega), if_pos (by omega)]
      by_cases hq : a.getD (com a b) 0 < b.getD (com a b) 0
      · rw [if_pos (by rw [ea, eb]; exact hq), if_pos hq]
      · rw [if_neg (by rw [ea, eb]; exact hq), if_neg hq]
theorem rsame_ev (a b : List Int) (ha : a.length ≤ 9223372036854775807) : Ev (fun k => R.cairnref01_Same.f k a b) (cmp a b == 0) :=
  Ev.bind (rcompare_ev a b ha) (Ev.now _)
theorem rwithin_ev (l lo hi : List Int) (o : Bool) (hl : l.length ≤ 9223372036854775807) (hlo : lo.length ≤ 9223372036854775807) : Ev (fun k => R.cairnref01_Within.f k l lo hi o) (withS l lo hi o) := by
  refine Ev.bind (rcompare_ev lo l hlo) ?_
  by_cases h1 : cmp lo l ≤ 0
  · cases o
    · refine Ev.congr (f := fun k => (R.cairnref01_Compare.f k l hi).bind fun t => some (decide (t < 0))) (fun k => by rw [if_pos h1, if_neg (by simp)]) ?_
      refine Ev.bind (rcompare_ev l hi hl) ?_
      simp only [withS, h1]
      exact Ev.now _
    · refine Ev.congr (f := fun _ => some true) (fun k => by rw [if_pos h1, if_pos rfl]) ?_
      simp only [withS, h1]
      exact Ev.now _
  · refine Ev.congr (f := fun _ => some false) (fun k => by rw [if_neg h1]) ?_
    simp only [withS, h1]
    exact Ev.now _
theorem rnib_loop (l : List Int) (hb : BL l) (hl : l.length ≤ 1073741824) : ∀ (d i : Nat) (acc : List Int), i + d = l.length → acc.length = 2 * i →
    Ev (fun k => R.cairnref01_Nibbles.l0 k l acc i) (acc ++ nibs (l.drop i)) := by
  intro d
  induction d with
  | zero =>
    intro i acc hi ha
    refine Ev.step (f := fun _ => some (acc ++ nibs (l.drop i))) (fun k => ?_) (Ev.now _)
    simp only [R.cairnref01_Nibbles.l0]
    rw [if_neg (by omega), List.drop_of_length_le (by omega), nibs_nil, List.append_nil]
  | succ d ih =>
    intro i acc hi ha
    have hlt : i < l.length := by omega
    have h1 := ih (i + 1) (acc ++ [l[i] / 16, l[i] % 16]) (by omega) (by simp; omega)
    rw [List.append_assoc] at h1
    rw [drop_cons l i hlt, nibs_cons]
    refine Ev.step (fun k => ?_) h1
    have hx := hb l[i] (List.getElem_mem _)
    have e1 : Int.tdiv l[i] 16 % 256 = l[i] / 16 := by rw [Int.tdiv_eq_ediv_of_nonneg hx.1]; omega
    have e2 : Int.tmod l[i] 16 = l[i] % 16 := Int.tmod_eq_emod_of_nonneg hx.1
    simp only [R.cairnref01_Nibbles.l0, Option.bind_some]
    rw [if_pos (by omega), if_pos (by omega), rd_nat l i hlt, e1, e2, if_pos (by simp; omega), wrap64_in _ (by omega) (by omega)]
    rfl
theorem rnib_ev (l : List Int) (hb : BL l) (hl : l.length ≤ 1073741824) : Ev (fun k => R.cairnref01_Nibbles.f k l) (nibs l) := by
  have h := rnib_loop l hb hl l.length 0 [] (by omega) rfl
  exact Ev.congr (fun k => rfl) h
theorem pairs_cons2 (x y : Int) (l : List Int) : pairs (x :: y :: l) = (16 * x + y) :: pairs l := rfl
theorem rbytes_loop (l : List Int) (hb : BL l) (he : l.length % 2 = 0) (hl : l.length ≤ 1073741824) : ∀ (d j : Nat) (acc : List Int), 2 * j + 2 * d = l.length → acc.length = j →
    Ev (fun k => R.cairnref01_Bytes.l0 k l acc ((2 * j : Nat) : Int)) (if ∀ x ∈ l.drop (2 * j), x ≤ 15 then (acc ++ pairs (l.drop (2 * j)), 0) else ([], 2)) := by
  intro d
  induction d with
  | zero =>
    intro j acc hj ha
    refine Ev.step (f := fun _ => some (acc, 0)) (fun k => ?_) ?_
    · simp only [R.cairnref01_Bytes.l0]
      rw [if_neg (by omega)]
    · rw [List.drop_of_length_le (by omega), if_pos (fun x hx => by cases hx)]
      simp only [pairs, List.append_nil]
      exact Ev.now _
  | succ d ih =>
    intro j acc hj ha
    have h0 : 2 * j < l.length := by omega
    have h1 : 2 * j + 1 < l.length := by omega
    rw [drop_cons l (2 * j) h0, drop_cons l (2 * j + 1) h1]
    have r0 := rd_nat l (2 * j) h0
    have r1 := rd_nat l (2 * j + 1) h1
    have b0 := hb l[2 * j] (List.getElem_mem _)
    have b1 := hb l[2 * j + 1] (List.getElem_mem _)
    have hodd : (((l.length : Int) % 2) == 1) = false := by rw [beq_eq_false_iff_ne]; omega
    by_cases hx : l[2 * j] ≤ 15
    · refine Ev.step (f := fun k => R.cairnref01_Bytes.j1 k l acc ((2 * j : Nat) : Int) false) (fun k => ?_) ?_
      · simp only [R.cairnref01_Bytes.l0]
        rw [if_pos (by omega), if_pos (by omega), r0, if_neg (by omega), hodd]
      refine Ev.step (f := fun k => R.cairnref01_Bytes.l0 k l acc ((2 * j + 1 : Nat) : Int)) (fun k => ?_) ?_
      · simp only [R.cairnref01_Bytes.j1]
        rw [if_neg (by simp), if_neg (by rw [Int.tmod_eq_emod_of_nonneg (by omega)]; omega), wrap64_in _ (by omega) (by omega)]
        rfl
      by_cases hy : l[2 * j + 1] ≤ 15
      · refine Ev.step (f := fun k => R.cairnref01_Bytes.j1 k l acc ((2 * j + 1 : Nat) : Int) false) (fun k => ?_) ?_
        · simp only [R.cairnref01_Bytes.l0]
          rw [if_pos (by omega), if_pos (by omega), r1, if_neg (by omega), hodd]
        have hn := ih (j + 1) (acc ++ [16 * l[2 * j] + l[2 * j + 1]]) (by omega) (by simp [ha])
        have e : (∀ x ∈ l[2 * j] :: l[2 * j + 1] :: l.drop (2 * j + 1 + 1), x ≤ 15) ↔ ∀ x ∈ l.drop (2 * (j + 1)), x ≤ 15 := by
          rw [show 2 * (j + 1) = 2 * j + 1 + 1 by omega]
          constructor
          · intro h x hm; exact h x (List.mem_cons_of_mem _ (List.mem_cons_of_mem _ hm))
          · intro h x hm
            rcases List.mem_cons.1 hm with rfl | hm
            · exact hx
            rcases List.mem_cons.1 hm with rfl | hm
            · exact hy
            exact h x hm
        simp only [e]
        rw [pairs_cons2, show acc ++ (16 * l[2 * j] + l[2 * j + 1]) :: pairs (l.drop (2 * j + 1 + 1)) = acc ++ [16 * l[2 * j] + l[2 * j + 1]] ++ pairs (l.drop (2 * j + 1 + 1)) by simp]
        rw [show 2 * j + 1 + 1 = 2 * (j + 1) by omega]
        refine Ev.step (fun k => ?_) hn
        simp only [R.cairnref01_Bytes.j1]
        have w1 : wrap64 (((2 * j + 1 : Nat) : Int) - 1) = ((2 * j : Nat) : Int) := by rw [wrap64_in _ (by omega) (by omega)]; omega
        rw [if_neg (by simp), if_pos (by rw [Int.tmod_eq_emod_of_nonneg (by omega)]; omega), w1, if_pos (by omega), if_pos (by omega), if_pos (by omega), if_pos (by omega), if_pos (by omega), r0, r1, wrap64_in _ (by omega) (by omega)]
        rw [show (16 * l[2 * j] % 256 + l[2 * j + 1]) % 256 = 16 * l[2 * j] + l[2 * j + 1] by omega]
        rfl
      · rw [if_neg (fun h => hy (h _ (List.mem_cons_of_mem _ List.mem_cons_self)))]
        refine Ev.step (f := fun k => R.cairnref01_Bytes.j1 k l acc ((2 * j + 1 : Nat) : Int) true) (fun k => ?_) ?_
        · simp only [R.cairnref01_Bytes.l0]
          rw [if_pos (by omega), if_pos (by omega), r1, if_pos (by omega)]
        refine Ev.step (f := fun _ => some ([], 2)) (fun k => ?_) (Ev.now _)
        simp only [R.cairnref01_Bytes.j1]
        exact if_pos trivial
    · rw [if_neg (fun h => hx (h _ List.mem_cons_self))]
      refine Ev.step (f := fun k => R.cairnref01_Bytes.j1 k l acc ((2 * j : Nat) : Int) true) (fun k => ?_) ?_
      · simp only [R.cairnref01_Bytes.l0]
        rw [if_pos (by omega), if_pos (by omega), r0, if_pos (by omega)]
      refine Ev.step (f := fun _ => some ([], 2)) (fun k => ?_) (Ev.now _)
      simp only [R.cairnref01_Bytes.j1]
      exact if_pos trivial
theorem rbytes_ev (l : List Int) (hb : BL l) (hl : l.length ≤ 1073741824) : Ev (fun k => R.cairnref01_Bytes.f k l) (bytesSpec l) := by
  by_cases he : l.length % 2 = 0
  · have h := rbytes_loop l hb he hl (l.length / 2) 0 [] (by omega) rfl
    refine Ev.congr (fun k => rfl) ?_
    unfold bytesSpec
    rw [Nat.mul_zero, List.drop_zero, List.nil_append] at h
    have e : (l.length % 2 = 0 ∧ ∀ x ∈ l, x ≤ 15) ↔ ∀ x ∈ l, x ≤ 15 := ⟨fun h => h.2, fun h => ⟨he, h⟩⟩
    simp only [e]
    exact h
  · unfold bytesSpec
    rw [if_neg (fun h => he h.1)]
    have h0 : 0 < l.length := by omega
    have hodd : (((l.length : Int) % 2) == 1) = true := by rw [beq_iff_eq]; omega
    refine Ev.step (f := fun k => R.cairnref01_Bytes.j1 k l [] 0 true) (fun k => ?_) ?_
    · show R.cairnref01_Bytes.l0 (k + 1) l [] 0 = _
      simp only [R.cairnref01_Bytes.l0]
      rw [if_pos (by omega), if_pos (by omega), hodd]
      split <;> rfl
    refine Ev.step (f := fun _ => some ([], 2)) (fun k => ?_) (Ev.now _)
    simp only [R.cairnref01_Bytes.j1]
    exact if_pos trivial
def rdig (c : Int) : Int := if 0 ≤ hexd c then hexd c else 16
theorem rdig_k : ∀ c : Fin 256, R.cairnref01_digit.f 20 ((c.val : Nat) : Int) = some (rdig ((c.val : Nat) : Int)) := by decide +kernel
theorem rdig_ev (c : Int) (h0 : 0 ≤ c) (h1 : c ≤ 255) : Ev (fun k => R.cairnref01_digit.f k c) (rdig c) := by
  have h := rdig_k ⟨c.toNat, by omega⟩
  rw [show (((⟨c.toNat, by omega⟩ : Fin 256).val : Nat) : Int) = c by show ((c.toNat : Nat) : Int) = c; omega] at h
  exact Ev.of (fun k => R.cairnref01_digit.mono c k) h
end Go.Proofs.YthiedcebneejjaaDoor.Ord
set_option linter.unusedVariables false
set_option linter.unusedSimpArgs false
namespace Go.Proofs.YthiedcebneejjaaDoor.Ord
open Go.RowKit Go.Proofs.YthiedcebneejjaaDoorW.PrintWords Go.Proofs.YthiedcebneejjaaDoorW.PrintLast Go.Proofs.YthiedcebneejjaaDoorW.PrintMore
open Go.Proofs.YthiedcebneejjaaDoor.A Go.Proofs.YthiedcebneejjaaDoor.Hand Go.Proofs.YthiedcebneejjaaDoor.B

theorem i5 : ∃ i : TypeInfo, Tryd.prog.info? 5 = some i := by
  have h : (Tryd.prog.info? 5).map (·.size) = some 1 := by kernel_rfl
  cases hi : Tryd.prog.info? 5 with
  | none => rw [hi] at h; cases h
  | some i => exact ⟨i, rfl⟩
theorem Rs.cell {w : World} {A : Option Addr} {c : Nat} {l : List Int} (h : Rs w A c l) (i : Nat) (hi : i < l.length) : ∃ ad, A = some ad ∧ w.cell? (ad.add i) = some (.int .u8 (l.getD i 0)) := by
  have hR : ReadsOf (Value.int .u8) (0 : Int) w A l.length l := Kd.reads_of_C (h1 := fun _ => rfl) h.rd
  obtain ⟨ad, e, hc⟩ := hR.2.2 (by omega)
  exact ⟨ad, e, hc i hi⟩
theorem Rs.str {w : World} {A : Option Addr} {c : Nat} {l : List Int} (h : Rs w A c l) (k : Nat) (hk : k ≤ l.length) : (convert 22 9 (.slice A k c)).run Tryd.prog w = .ok (.string (strOfNums (l.take k))) w := by
  have h1 := Kd.C_take (m := k) h.rd hk
  rw [show (l.take k).length = k by simp; omega] at h1
  exact Kd.C_string Tryd.underlying22 Tryd.underlying5 Tryd.underlying9 h1
theorem exec_conv {w : World} {ρ : Operand → Value} {o : Oper} {x : Operand} {t u : TypeId} (ho : o.op = .convert t u x) {v : Value} {w1 : World} (h : (convert t u (ρ x)).run Tryd.prog w = .ok v w1) : (execOp ρ o).run Tryd.prog w = .ok (.value v) w1 := by
  unfold execOp; rw [ho]; simp [h]
theorem elem22 : Tryd.prog.underlying 22 = some (.slice (Tryd.prog.elem 22)) := by kernel_rfl
theorem exec_slice {w : World} {ρ : Operand → Value} {o : Oper} {x : Operand} {lo hi mx : Option Operand} (ho : o.op = .slice 22 x lo hi mx) {v : Value} {w1 : World}
    (h : (Instr.slice 22 (ρ x) (lo.map ρ) (hi.map ρ) (mx.map ρ)).run Tryd.prog w = .ok v w1) : (execOp ρ o).run Tryd.prog w = .ok (.value v) w1 := by
  unfold execOp
  rw [ho]
  simp only [Sem.run_bind, Sem.run_pure, Result.andThen_ok, run_sliceAt_slice _ _ _ _ _ _ elem22, h]
theorem cell_ext {w w' : World} (hE : Ext w w') {p : Addr} {v : Value} (h : w.cell? p = some v) : w'.cell? p = some v := (hE.cell (p := p) (Go.World.block_lt_of_cell? _ _ h)).trans h
set_option maxHeartbeats 20000000 in
set_option maxRecDepth 100000 in
theorem order_calls (w : World) (A0 A1 A2 : Option Addr) (c0 c1 c2 : Nat) (la lb lc : List Int) (hG : Glob w) (ha : Rs w A0 c0 la) (hb : Rs w A1 c1 lb) (hc : Rs w A2 c2 lc) (ba : BL la) (bb : BL lb) :
    Calls Tryd.prog 6 #[.slice A0 la.length c0, .slice A1 lb.length c1, .slice A2 lc.length c2] w (fun e w' => e = .returned (.bool true) ∧ Ext w w') := by
  have hma := ha.max
  have hmb := hb.max
  have HG := Aside0.mk hG
  have HA := Aside0.mk ha
  have HB := Aside0.mk hb
  have HC := Aside0.mk hc
  have HSB := Aside0.mk (str_inj la lb ba bb)
  have HBA := Aside0.mk (And.intro ba bb)
  clear hG ha hb hc ba bb
  obtain ⟨X, hX⟩ : ∃ X, X = cmp la lb := ⟨_, rfl⟩
  obtain ⟨Y, hY⟩ : ∃ Y, Y = cmp lb lc := ⟨_, rfl⟩
  obtain ⟨Z, hZ⟩ : ∃ Z, Z = cmp la lc := ⟨_, rfl⟩
  have HX := Aside0.mk hX
  have HY := Aside0.mk hY
  have HZ := Aside0.mk hZ
  have HN := Aside0.mk (show cmp lb la = -X by rw [hX]; exact cmp_neg la lb)
  have HT := Aside0.mk (show X ≤ 0 → Y ≤ 0 → Z ≤ 0 by rw [hX, hY, hZ]; exact cmp_trans la lb lc)
  have hXr : -1 ≤ X ∧ X ≤ 1 := by rw [hX, cmp_com]; repeat' split; all_goals omega
  clear hX hY hZ
  go_enter Tryd.func6, Tryd.ntmps6
  go_upto_region 1 with fail
  go_cut [7, 8, 9] from 14 to 22 (fun (s7 s8 s9 : Value) wx => Ext w wx ∧ s7 = .int .i64 X ∧ s8 = .int .i64 Y ∧ s9 = .int .i64 Z)
  case first =>
    go_wp2_with fail
    refine (compare_calls w A0 A1 c0 c1 la lb HA.out HB.out).mono ?_
    rintro e w1 ⟨rfl, hE1⟩
    rw [← HX.out]
    have HE1 := Aside0.mk hE1
    clear hE1
    go_wp2_with fail
    refine (compare_calls w1 A1 A2 c1 c2 lb lc (HB.out.ext HE1.out) (HC.out.ext HE1.out)).mono ?_
    rintro e w2 ⟨rfl, hE2⟩
    rw [← HY.out]
    have HE2 := Aside0.mk (HE1.out.trans hE2)
    clear hE2
    go_wp2_with fail
    refine (compare_calls w2 A0 A2 c0 c2 la lc (HA.out.ext HE2.out) (HC.out.ext HE2.out)).mono ?_
    rintro e w3 ⟨rfl, hE3⟩
    rw [← HZ.out]
    have HE3 := Aside0.mk (HE2.out.trans hE3)
    clear hE3
    go_wp2_with fail
    go_meet
    case rel => exact ⟨HE3.out, rfl, rfl, rfl⟩
  case rest =>
  obtain ⟨hE, rfl, rfl, rfl⟩ := hcut
  have HE1 := Aside0.mk hE
  clear hE
  obtain ⟨w1, hw1⟩ : ∃ w1, w1 = wc := ⟨_, rfl⟩
  subst hw1
  go_upto_region 2 with fail
  go_cut [60] from 23 to 60 (fun (s60 : Value) wx => Ext w wx ∧ s60 = .bool false)
  case first =>
    go_wp2_with fail
    refine (compare_calls w1 A1 A0 c1 c0 lb la (HB.out.ext HE1.out) (HA.out.ext HE1.out)).mono ?_
    rintro e w2 ⟨rfl, hE2⟩
    rw [HN.out]
    have HE2 := Aside0.mk (HE1.out.trans hE2)
    clear hE2
    go_wp2_with fail
    refine (compare_calls w2 A0 A0 c0 c0 la la (HA.out.ext HE2.out) (HA.out.ext HE2.out)).mono ?_
    rintro e w3 ⟨rfl, hE3⟩
    rw [cmp_self]
    have HE3 := Aside0.mk (HE2.out.trans hE3)
    clear hE3
    have hca := Kd.C_string (P := Tryd.prog) (A := A0) (c := c0) Tryd.underlying22 Tryd.underlying5 Tryd.underlying9 (HA.out.ext HE3.out).rd
    have hcb := Kd.C_string (P := Tryd.prog) (A := A1) (c := c1) Tryd.underlying22 Tryd.underlying5 Tryd.underlying9 (HB.out.ext HE3.out).rd
    have hst : ((strOfNums la).toList == (strOfNums lb).toList) = (X == 0) := by
      rw [Bool.eq_iff_iff, beq_iff_eq, beq_iff_eq, toList_data, toList_data, HX.out, cmp_eq]
      refine Iff.trans ⟨fun h => ?_, fun h => by rw [h]⟩ HSB.out
      cases hsa : strOfNums la; cases hsb : strOfNums lb
      rw [hsa, hsb] at h
      simpa using h
    have hways : (X ≤ 0 ∧ Y ≤ 0 ∧ Z ≤ 0) ∨ (X ≤ 0 ∧ ¬ Y ≤ 0) ∨ ¬ X ≤ 0 := by
      have := HT.out
      omega
    rcases hways with ⟨hx, hy, hz⟩ | ⟨hx, hy⟩ | hx
    · have hz' : ¬ (0 < Z) := by omega
      go_wp2_with fail
      refine (fixed_calls w3 (Glob.ext HG.out HE3.out)).mono ?_
      rintro e w4 ⟨rfl, hE4⟩
      have HE4 := Aside0.mk (HE3.out.trans hE4)
      clear hE4
      go_wp2_with fail
      go_meet
      case rel => exact ⟨HE4.out, by simp [hz']⟩
    · go_wp2_with fail
      refine (fixed_calls w3 (Glob.ext HG.out HE3.out)).mono ?_
      rintro e w4 ⟨rfl, hE4⟩
      have HE4 := Aside0.mk (HE3.out.trans hE4)
      clear hE4
      go_wp2_with fail
      go_meet
      case rel => exact ⟨HE4.out, rfl⟩
    · go_wp2_with fail
      refine (fixed_calls w3 (Glob.ext HG.out HE3.out)).mono ?_
      rintro e w4 ⟨rfl, hE4⟩
      have HE4 := Aside0.mk (HE3.out.trans hE4)
      clear hE4
      go_wp2_with fail
      go_meet
      case rel => exact ⟨HE4.out, rfl⟩
  case rest =>
  obtain ⟨hE, rfl⟩ := hcut
  have HE2 := Aside0.mk hE
  clear hE HE1
  obtain ⟨w2, hw2⟩ : ∃ w2, w2 = wc := ⟨_, rfl⟩
  subst hw2
  go_wp2_with fail
  refine (common_calls w2 A0 A1 c0 c1 la lb (HA.out.ext HE2.out) (HB.out.ext HE2.out)).mono ?_
  rintro e w3 ⟨rfl, hE3⟩
  obtain ⟨k, hk⟩ : ∃ k, k = com la lb := ⟨_, rfl⟩
  rw [← hk]
  have hkl := com_le la lb
  rw [← hk] at hkl
  have HK := Aside0.mk hk
  have HE3 := Aside0.mk (HE2.out.trans hE3)
  have HT := Aside0.mk (show la.take k = lb.take k by rw [hk]; exact com_take la lb)
  have HD := Aside0.mk (show k < la.length → k < lb.length → la.getD k 0 ≠ lb.getD k 0 by rw [hk]; exact com_eq la lb)
  have HCC := Aside0.mk (show X = if k = la.length then (if k = lb.length then 0 else -1) else if k = lb.length then 1 else if la.getD k 0 < lb.getD k 0 then -1 else 1 by rw [HX.out, hk]; exact cmp_com la lb)
  clear hE3 hk HE2
  have HCA := Aside0.mk (cut_to (P := Tryd.prog) 22 5 .i64 Tryd.underlying22 i5.choose_spec A0 la.length c0 (k : Int) (by omega) (by omega) HA.out.cap)
  have HCB := Aside0.mk (cut_to (P := Tryd.prog) 22 5 .i64 Tryd.underlying22 i5.choose_spec A1 lb.length c1 (k : Int) (by omega) (by omega) HB.out.cap)
  rw [Int.toNat_natCast] at HCA HCB
  have HSA := Aside0.mk (show ∀ w', Ext w3 w' → (convert 22 9 (.slice A0 k c0)).run Tryd.prog w' = .ok (.string (strOfNums (la.take k))) w' from fun w' hE' => (HA.out.ext (HE3.out.trans hE')).str k hkl.1)
  have HSBB := Aside0.mk (show ∀ w', Ext w3 w' → (convert 22 9 (.slice A1 k c1)).run Tryd.prog w' = .ok (.string (strOfNums (la.take k))) w' from fun w' hE' => by rw [HT.out]; exact (HB.out.ext (HE3.out.trans hE')).str k hkl.2)
  go_upto_region 5 with fail
  go_cut [111] from 64 to 111 (fun (s111 : Value) wx => Ext w wx ∧ s111 = .bool false)
  case first =>
    have hcase : (k < la.length ∧ k < lb.length) ∨ (k < la.length ∧ k = lb.length) ∨ k = la.length := by omega
    rcases hcase with ⟨h1, h2⟩ | ⟨h1, h2⟩ | h1
    · obtain ⟨ad, rfl, hca⟩ := (HA.out.ext HE3.out).cell k h1
      obtain ⟨bd, rfl, hcb⟩ := (HB.out.ext HE3.out).cell k h2
      obtain ⟨u, hu⟩ : ∃ u, u = la.getD k 0 := ⟨_, rfl⟩
      obtain ⟨vq, hvq⟩ : ∃ vq, vq = lb.getD k 0 := ⟨_, rfl⟩
      rw [← hu] at hca
      rw [← hvq] at hcb
      have HCA0 := Aside0.mk hca
      have HCB0 := Aside0.mk hcb
      have b7 : (0 : Int) ≤ k ∧ (k : Int) < la.length ∧ (k : Int) < lb.length := by omega
      have HNE := Aside0.mk (show u ≠ vq by rw [hu, hvq]; exact HD.out h1 h2)
      clear hca hcb hu hvq
      go_wp2_with fail
      refine ext_region 48 [(0, 64), (1, 65), (2, 66), (3, 67), (4, 68), (5, 69), (6, 70), (7, 71), (8, 72), (9, 73), (10, 74), (11, 75), (12, 76), (13, 77), (14, 78), (15, 79), (16, 80), (17, 81), (18, 82), (19, 83), (20, 84), (21, 85), (22, 86), (23, 87), (24, 88), (25, 89), (26, 90), (27, 91), (28, 92), (29, 93), (30, 94), (31, 95), (32, 96), (33, 97), (34, 98), (35, 99), (36, 100), (37, 101), (38, 102), (39, 103), (40, 104), (41, 105), (42, 106), (43, 107), (44, 108), (45, 109), (46, 110), (47, 111)] [0, 1, 2, 3, 4, 5, 6, 7, 8, 9, 10, 11, 12, 13, 14, 15, 16, 17, 18, 19, 20, 21, 22, 23, 24, 25, 26, 27, 28, 29, 30, 31, 32, 33, 34, 35, 36, 37, 38, 39, 40, 41, 42, 43, 44, 45, 46, 47] (fun i w v => match i with | 0 => v = .int .i64 k | 1 => v = .bool false | 2 => v = .bool false | 3 => v = .int .i64 k | 4 => v = .slice (some ad) la.length c0 | 5 => v = .int .i64 la.length | 6 => v = .bool false | 7 => v = .bool false | 8 => v = .bool false | 9 => v = .int .i64 k | 10 => v = .slice (some bd) lb.length c1 | 11 => v = .int .i64 lb.length | 12 => v = .bool false | 13 => v = .bool false | 14 => v = .bool false | 15 => v = .slice (some ad) la.length c0 | 16 => v = .int .i64 k | 17 => v = .slice (some ad) k c0 | 18 => v = .string (strOfNums (la.take k)) | 19 => v = .slice (some bd) lb.length c1 | 20 => v = .int .i64 k | 21 => v = .slice (some bd) k c1 | 22 => v = .string (strOfNums (la.take k)) | 23 => v = .bool false | 24 => v = .bool false | 25 => v = .bool false | 26 => v = .int .i64 k | 27 => v = .slice (some ad) la.length c0 | 28 => v = .int .i64 la.length | 29 => v = .bool true | 30 => v = .bool true | 31 => v = .int .i64 k | 32 => v = .slice (some bd) lb.length c1 | 33 => v = .int .i64 lb.length | 34 => v = .bool true | 35 => v = .bool true | 36 => v = .bool true | 37 => v = .slice (some ad) la.length c0 | 38 => v = .int .i64 k | 39 => v = .pointer (some (ad.add k)) | 40 => v = .int .u8 u | 41 => v = .slice (some bd) lb.length c1 | 42 => v = .int .i64 k | 43 => v = .pointer (some (bd.add k)) | 44 => v = .int .u8 vq | 45 => v = .bool false | 46 => v = .bool false | 47 => v = .bool false | _ => True) (by kernel_rfl) (by kernel_rfl) (by rfl) rfl ?mono5a ?steps5a ?fin5a
      case mono5a =>
        intro i w w' v h hE
        match i with
        | 0 => exact h
        | 1 => exact h
        | 2 => exact h
        | 3 => exact h
        | 4 => exact h
        | 5 => exact h
        | 6 => exact h
        | 7 => exact h
        | 8 => exact h
        | 9 => exact h
        | 10 => exact h
        | 11 => exact h
        | 12 => exact h
        | 13 => exact h
        | 14 => exact h
        | 15 => exact h
        | 16 => exact h
        | 17 => exact h
        | 18 => exact h
        | 19 => exact h
        | 20 => exact h
        | 21 => exact h
        | 22 => exact h
        | 23 => exact h
        | 24 => exact h
        | 25 => exact h
        | 26 => exact h
        | 27 => exact h
        | 28 => exact h
        | 29 => exact h
        | 30 => exact h
        | 31 => exact h
        | 32 => exact h
        | 33 => exact h
        | 34 => exact h
        | 35 => exact h
        | 36 => exact h
        | 37 => exact h
        | 38 => exact h
        | 39 => exact h
        | 40 => exact h
        | 41 => exact h
        | 42 => exact h
        | 43 => exact h
        | 44 => exact h
        | 45 => exact h
        | 46 => exact h
        | 47 => exact h
        | _ + 48 => trivial
      case steps5a =>
        refine stepE_cons ⟨_, rfl, fun a w hE hH => ?_⟩ ?_
        ·
          have e10 : a.tmps[10]? = some (.int .i64 k) := hH.old 10 rfl
          exact Or.inl ⟨rfl, goodE_move _ rfl (eval_of e10) rfl⟩
        refine stepE_cons ⟨_, rfl, fun a w hE hH => ?_⟩ ?_
        ·
          obtain ⟨v64, e64, g64⟩ := hH.dep 0 64 rfl (by kernel_rfl)
          have q64 : v64 = .int .i64 k := g64
          subst q64
          exact Or.inl ⟨(rfl), goodE_val (.bool false) (by simp [execOp, Act.eval, e64, go_sem]) rfl⟩
        refine stepE_cons ⟨_, rfl, fun a w hE hH => ?_⟩ ?_
        ·
          obtain ⟨v65, e65, g65⟩ := hH.dep 1 65 rfl (by kernel_rfl)
          exact Or.inl ⟨rfl, goodE_move v65 rfl (eval_of e65) g65⟩
        refine stepE_cons ⟨_, rfl, fun a w hE hH => ?_⟩ ?_
        ·
          have e10 : a.tmps[10]? = some (.int .i64 k) := hH.old 10 rfl
          obtain ⟨v66, e66, g66⟩ := hH.dep 2 66 rfl (by kernel_rfl)
          have q66 : v66 = .bool false := g66
          subst q66
          exact Or.inl ⟨wanted_on rfl rfl rfl e66, goodE_move _ rfl (eval_of e10) rfl⟩
        refine stepE_cons ⟨_, rfl, fun a w hE hH => ?_⟩ ?_
        ·
          have e0 : a.tmps[0]? = some (.slice (some ad) la.length c0) := hH.old 0 rfl
          obtain ⟨v66, e66, g66⟩ := hH.dep 2 66 rfl (by kernel_rfl)
          have q66 : v66 = .bool false := g66
          subst q66
          exact Or.inl ⟨wanted_on rfl rfl rfl e66, goodE_move _ rfl (eval_of e0) rfl⟩
        refine stepE_cons ⟨_, rfl, fun a w hE hH => ?_⟩ ?_
        ·
          obtain ⟨v68, e68, g68⟩ := hH.dep 4 68 rfl (by kernel_rfl)
          have q68 : v68 = .slice (some ad) la.length c0 := g68
          subst q68
          obtain ⟨v66, e66, g66⟩ := hH.dep 2 66 rfl (by kernel_rfl)
          have q66 : v66 = .bool false := g66
          subst q66
          exact Or.inl ⟨wanted_on rfl rfl rfl e66, goodE_val (.int .i64 la.length) (by simp [execOp, Act.eval, e66, e68, go_sem]) rfl⟩
        refine stepE_cons ⟨_, rfl, fun a w hE hH => ?_⟩ ?_
        ·
          obtain ⟨v67, e67, g67⟩ := hH.dep 3 67 rfl (by kernel_rfl)
          have q67 : v67 = .int .i64 k := g67
          subst q67
          obtain ⟨v69, e69, g69⟩ := hH.dep 5 69 rfl (by kernel_rfl)
          have q69 : v69 = .int .i64 la.length := g69
          subst q69
          obtain ⟨v66, e66, g66⟩ := hH.dep 2 66 rfl (by kernel_rfl)
          have q66 : v66 = .bool false := g66
          subst q66
          exact Or.inl ⟨(wanted_on rfl rfl rfl e66), goodE_val (.bool false) (by simp [execOp, Act.eval, e67, e69, go_sem]; omega) rfl⟩
        refine stepE_cons ⟨_, rfl, fun a w hE hH => ?_⟩ ?_
        ·
          obtain ⟨v66, e66, g66⟩ := hH.dep 2 66 rfl (by kernel_rfl)
          have q66 : v66 = .bool false := g66
          subst q66
          obtain ⟨v70, e70, g70⟩ := hH.dep 6 70 rfl (by kernel_rfl)
          have q70 : v70 = .bool false := g70
          subst q70
          exact Or.inl ⟨rfl, goodE_pick _ (.bool false) rfl (eval_of e66) (by simp [Act.eval, e66, e70]) rfl⟩
        refine stepE_cons ⟨_, rfl, fun a w hE hH => ?_⟩ ?_
        ·
          obtain ⟨v71, e71, g71⟩ := hH.dep 7 71 rfl (by kernel_rfl)
          exact Or.inl ⟨rfl, goodE_move v71 rfl (eval_of e71) g71⟩
        refine stepE_cons ⟨_, rfl, fun a w hE hH => ?_⟩ ?_
        ·
          have e10 : a.tmps[10]? = some (.int .i64 k) := hH.old 10 rfl
          obtain ⟨v72, e72, g72⟩ := hH.dep 8 72 rfl (by kernel_rfl)
          have q72 : v72 = .bool false := g72
          subst q72
          exact Or.inl ⟨wanted_on rfl rfl rfl e72, goodE_move _ rfl (eval_of e10) rfl⟩
        refine stepE_cons ⟨_, rfl, fun a w hE hH => ?_⟩ ?_
        ·
          have e1 : a.tmps[1]? = some (.slice (some bd) lb.length c1) := hH.old 1 rfl
          obtain ⟨v72, e72, g72⟩ := hH.dep 8 72 rfl (by kernel_rfl)
          have q72 : v72 = .bool false := g72
          subst q72
          exact Or.inl ⟨wanted_on rfl rfl rfl e72, goodE_move _ rfl (eval_of e1) rfl⟩
        refine stepE_cons ⟨_, rfl, fun a w hE hH => ?_⟩ ?_
        ·
          obtain ⟨v74, e74, g74⟩ := hH.dep 10 74 rfl (by kernel_rfl)
          have q74 : v74 = .slice (some bd) lb.length c1 := g74
          subst q74
          obtain ⟨v72, e72, g72⟩ := hH.dep 8 72 rfl (by kernel_rfl)
          have q72 : v72 = .bool false := g72
          subst q72
          exact Or.inl ⟨wanted_on rfl rfl rfl e72, goodE_val (.int .i64 lb.length) (by simp [execOp, Act.eval, e72, e74, go_sem]) rfl⟩
        refine stepE_cons ⟨_, rfl, fun a w hE hH => ?_⟩ ?_
        ·
          obtain ⟨v73, e73, g73⟩ := hH.dep 9 73 rfl (by kernel_rfl)
          have q73 : v73 = .int .i64 k := g73
          subst q73
          obtain ⟨v75, e75, g75⟩ := hH.dep 11 75 rfl (by kernel_rfl)
          have q75 : v75 = .int .i64 lb.length := g75
          subst q75
          obtain ⟨v72, e72, g72⟩ := hH.dep 8 72 rfl (by kernel_rfl)
          have q72 : v72 = .bool false := g72
          subst q72
          exact Or.inl ⟨(wanted_on rfl rfl rfl e72), goodE_val (.bool false) (by simp [execOp, Act.eval, e73, e75, go_sem]; omega) rfl⟩
        refine stepE_cons ⟨_, rfl, fun a w hE hH => ?_⟩ ?_
        ·
          obtain ⟨v72, e72, g72⟩ := hH.dep 8 72 rfl (by kernel_rfl)
          have q72 : v72 = .bool false := g72
          subst q72
          obtain ⟨v76, e76, g76⟩ := hH.dep 12 76 rfl (by kernel_rfl)
          have q76 : v76 = .bool false := g76
          subst q76
          exact Or.inl ⟨rfl, goodE_pick _ (.bool false) rfl (eval_of e72) (by simp [Act.eval, e72, e76]) rfl⟩
        refine stepE_cons ⟨_, rfl, fun a w hE hH => ?_⟩ ?_
        ·
          obtain ⟨v77, e77, g77⟩ := hH.dep 13 77 rfl (by kernel_rfl)
          exact Or.inl ⟨rfl, goodE_move v77 rfl (eval_of e77) g77⟩
        refine stepE_cons ⟨_, rfl, fun a w hE hH => ?_⟩ ?_
        ·
          have e0 : a.tmps[0]? = some (.slice (some ad) la.length c0) := hH.old 0 rfl
          obtain ⟨v78, e78, g78⟩ := hH.dep 14 78 rfl (by kernel_rfl)
          have q78 : v78 = .bool false := g78
          subst q78
          exact Or.inl ⟨wanted_on rfl rfl rfl e78, goodE_move _ rfl (eval_of e0) rfl⟩
        refine stepE_cons ⟨_, rfl, fun a w hE hH => ?_⟩ ?_
        ·
          have e10 : a.tmps[10]? = some (.int .i64 k) := hH.old 10 rfl
          obtain ⟨v78, e78, g78⟩ := hH.dep 14 78 rfl (by kernel_rfl)
          have q78 : v78 = .bool false := g78
          subst q78
          exact Or.inl ⟨wanted_on rfl rfl rfl e78, goodE_move _ rfl (eval_of e10) rfl⟩
        refine stepE_cons ⟨_, rfl, fun a w hE hH => ?_⟩ ?_
        ·
          obtain ⟨v79, e79, g79⟩ := hH.dep 15 79 rfl (by kernel_rfl)
          have q79 : v79 = .slice (some ad) la.length c0 := g79
          subst q79
          obtain ⟨v80, e80, g80⟩ := hH.dep 16 80 rfl (by kernel_rfl)
          have q80 : v80 = .int .i64 k := g80
          subst q80
          obtain ⟨v78, e78, g78⟩ := hH.dep 14 78 rfl (by kernel_rfl)
          have q78 : v78 = .bool false := g78
          subst q78
          exact Or.inl ⟨(wanted_on rfl rfl rfl e78), goodE_val (.slice (some ad) k c0) (exec_slice rfl (by simp only [Option.map_some, Option.map_none, eval_of e79, eval_of e80]; exact HCA.out w)) rfl⟩
        refine stepE_cons ⟨_, rfl, fun a w hE hH => ?_⟩ ?_
        ·
          obtain ⟨v81, e81, g81⟩ := hH.dep 17 81 rfl (by kernel_rfl)
          have q81 : v81 = .slice (some ad) k c0 := g81
          subst q81
          obtain ⟨v78, e78, g78⟩ := hH.dep 14 78 rfl (by kernel_rfl)
          have q78 : v78 = .bool false := g78
          subst q78
          exact Or.inl ⟨(wanted_on rfl rfl rfl e78), goodE_val (.string (strOfNums (la.take k))) (exec_conv (x := .tmp 81) rfl (by rw [eval_of e81]; exact HSA.out w ((Ext.to_drew _).trans hE))) rfl⟩
        refine stepE_cons ⟨_, rfl, fun a w hE hH => ?_⟩ ?_
        ·
          have e1 : a.tmps[1]? = some (.slice (some bd) lb.length c1) := hH.old 1 rfl
          obtain ⟨v78, e78, g78⟩ := hH.dep 14 78 rfl (by kernel_rfl)
          have q78 : v78 = .bool false := g78
          subst q78
          exact Or.inl ⟨wanted_on rfl rfl rfl e78, goodE_move _ rfl (eval_of e1) rfl⟩
        refine stepE_cons ⟨_, rfl, fun a w hE hH => ?_⟩ ?_
        ·
          have e10 : a.tmps[10]? = some (.int .i64 k) := hH.old 10 rfl
          obtain ⟨v78, e78, g78⟩ := hH.dep 14 78 rfl (by kernel_rfl)
          have q78 : v78 = .bool false := g78
          subst q78
          exact Or.inl ⟨wanted_on rfl rfl rfl e78, goodE_move _ rfl (eval_of e10) rfl⟩
        refine stepE_cons ⟨_, rfl, fun a w hE hH => ?_⟩ ?_
        ·
          obtain ⟨v83, e83, g83⟩ := hH.dep 19 83 rfl (by kernel_rfl)
          have q83 : v83 = .slice (some bd) lb.length c1 := g83
          subst q83
          obtain ⟨v84, e84, g84⟩ := hH.dep 20 84 rfl (by kernel_rfl)
          have q84 : v84 = .int .i64 k := g84
          subst q84
          obtain ⟨v78, e78, g78⟩ := hH.dep 14 78 rfl (by kernel_rfl)
          have q78 : v78 = .bool false := g78
          subst q78
          exact Or.inl ⟨(wanted_on rfl rfl rfl e78), goodE_val (.slice (some bd) k c1) (exec_slice rfl (by simp only [Option.map_some, Option.map_none, eval_of e83, eval_of e84]; exact HCB.out w)) rfl⟩
        refine stepE_cons ⟨_, rfl, fun a w hE hH => ?_⟩ ?_
        ·
          obtain ⟨v85, e85, g85⟩ := hH.dep 21 85 rfl (by kernel_rfl)
          have q85 : v85 = .slice (some bd) k c1 := g85
          subst q85
          obtain ⟨v78, e78, g78⟩ := hH.dep 14 78 rfl (by kernel_rfl)
          have q78 : v78 = .bool false := g78
          subst q78
          exact Or.inl ⟨(wanted_on rfl rfl rfl e78), goodE_val (.string (strOfNums (la.take k))) (exec_conv (x := .tmp 85) rfl (by rw [eval_of e85]; exact HSBB.out w ((Ext.to_drew _).trans hE))) rfl⟩
        refine stepE_cons ⟨_, rfl, fun a w hE hH => ?_⟩ ?_
        ·
          obtain ⟨v82, e82, g82⟩ := hH.dep 18 82 rfl (by kernel_rfl)
          have q82 : v82 = .string (strOfNums (la.take k)) := g82
          subst q82
          obtain ⟨v86, e86, g86⟩ := hH.dep 22 86 rfl (by kernel_rfl)
          have q86 : v86 = .string (strOfNums (la.take k)) := g86
          subst q86
          obtain ⟨v78, e78, g78⟩ := hH.dep 14 78 rfl (by kernel_rfl)
          have q78 : v78 = .bool false := g78
          subst q78
          exact Or.inl ⟨(wanted_on rfl rfl rfl e78), goodE_val (.bool false) (by simp [execOp, Act.eval, e82, e86, go_sem]) rfl⟩
        refine stepE_cons ⟨_, rfl, fun a w hE hH => ?_⟩ ?_
        ·
          obtain ⟨v78, e78, g78⟩ := hH.dep 14 78 rfl (by kernel_rfl)
          have q78 : v78 = .bool false := g78
          subst q78
          obtain ⟨v87, e87, g87⟩ := hH.dep 23 87 rfl (by kernel_rfl)
          have q87 : v87 = .bool false := g87
          subst q87
          exact Or.inl ⟨rfl, goodE_pick _ (.bool false) rfl (eval_of e78) (by simp [Act.eval, e78, e87]) rfl⟩
        refine stepE_cons ⟨_, rfl, fun a w hE hH => ?_⟩ ?_
        ·
          obtain ⟨v88, e88, g88⟩ := hH.dep 24 88 rfl (by kernel_rfl)
          exact Or.inl ⟨rfl, goodE_move v88 rfl (eval_of e88) g88⟩
        refine stepE_cons ⟨_, rfl, fun a w hE hH => ?_⟩ ?_
        ·
          have e10 : a.tmps[10]? = some (.int .i64 k) := hH.old 10 rfl
          obtain ⟨v89, e89, g89⟩ := hH.dep 25 89 rfl (by kernel_rfl)
          have q89 : v89 = .bool false := g89
          subst q89
          exact Or.inl ⟨wanted_on rfl rfl rfl e89, goodE_move _ rfl (eval_of e10) rfl⟩
        refine stepE_cons ⟨_, rfl, fun a w hE hH => ?_⟩ ?_
        ·
          have e0 : a.tmps[0]? = some (.slice (some ad) la.length c0) := hH.old 0 rfl
          obtain ⟨v89, e89, g89⟩ := hH.dep 25 89 rfl (by kernel_rfl)
          have q89 : v89 = .bool false := g89
          subst q89
          exact Or.inl ⟨wanted_on rfl rfl rfl e89, goodE_move _ rfl (eval_of e0) rfl⟩
        refine stepE_cons ⟨_, rfl, fun a w hE hH => ?_⟩ ?_
        ·
          obtain ⟨v91, e91, g91⟩ := hH.dep 27 91 rfl (by kernel_rfl)
          have q91 : v91 = .slice (some ad) la.length c0 := g91
          subst q91
          obtain ⟨v89, e89, g89⟩ := hH.dep 25 89 rfl (by kernel_rfl)
          have q89 : v89 = .bool false := g89
          subst q89
          exact Or.inl ⟨wanted_on rfl rfl rfl e89, goodE_val (.int .i64 la.length) (by simp [execOp, Act.eval, e89, e91, go_sem]) rfl⟩
        refine stepE_cons ⟨_, rfl, fun a w hE hH => ?_⟩ ?_
        ·
          obtain ⟨v90, e90, g90⟩ := hH.dep 26 90 rfl (by kernel_rfl)
          have q90 : v90 = .int .i64 k := g90
          subst q90
          obtain ⟨v92, e92, g92⟩ := hH.dep 28 92 rfl (by kernel_rfl)
          have q92 : v92 = .int .i64 la.length := g92
          subst q92
          obtain ⟨v89, e89, g89⟩ := hH.dep 25 89 rfl (by kernel_rfl)
          have q89 : v89 = .bool false := g89
          subst q89
          exact Or.inl ⟨(wanted_on rfl rfl rfl e89), goodE_val (.bool true) (by simp [execOp, Act.eval, e90, e92, go_sem]; omega) rfl⟩
        refine stepE_cons ⟨_, rfl, fun a w hE hH => ?_⟩ ?_
        ·
          obtain ⟨v93, e93, g93⟩ := hH.dep 29 93 rfl (by kernel_rfl)
          obtain ⟨v89, e89, g89⟩ := hH.dep 25 89 rfl (by kernel_rfl)
          have q89 : v89 = .bool false := g89
          subst q89
          exact Or.inl ⟨wanted_on rfl rfl rfl e89, goodE_move v93 rfl (eval_of e93) g93⟩
        refine stepE_cons ⟨_, rfl, fun a w hE hH => ?_⟩ ?_
        ·
          have e10 : a.tmps[10]? = some (.int .i64 k) := hH.old 10 rfl
          obtain ⟨v94, e94, g94⟩ := hH.dep 30 94 rfl (by kernel_rfl)
          have q94 : v94 = .bool true := g94
          subst q94
          exact Or.inl ⟨wanted_on rfl rfl rfl e94, goodE_move _ rfl (eval_of e10) rfl⟩
        refine stepE_cons ⟨_, rfl, fun a w hE hH => ?_⟩ ?_
        ·
          have e1 : a.tmps[1]? = some (.slice (some bd) lb.length c1) := hH.old 1 rfl
          obtain ⟨v94, e94, g94⟩ := hH.dep 30 94 rfl (by kernel_rfl)
          have q94 : v94 = .bool true := g94
          subst q94
          exact Or.inl ⟨wanted_on rfl rfl rfl e94, goodE_move _ rfl (eval_of e1) rfl⟩
        refine stepE_cons ⟨_, rfl, fun a w hE hH => ?_⟩ ?_
        ·
          obtain ⟨v96, e96, g96⟩ := hH.dep 32 96 rfl (by kernel_rfl)
          have q96 : v96 = .slice (some bd) lb.length c1 := g96
          subst q96
          obtain ⟨v94, e94, g94⟩ := hH.dep 30 94 rfl (by kernel_rfl)
          have q94 : v94 = .bool true := g94
          subst q94
          exact Or.inl ⟨wanted_on rfl rfl rfl e94, goodE_val (.int .i64 lb.length) (by simp [execOp, Act.eval, e96, e94, go_sem]) rfl⟩
        refine stepE_cons ⟨_, rfl, fun a w hE hH => ?_⟩ ?_
        ·
          obtain ⟨v95, e95, g95⟩ := hH.dep 31 95 rfl (by kernel_rfl)
          have q95 : v95 = .int .i64 k := g95
          subst q95
          obtain ⟨v97, e97, g97⟩ := hH.dep 33 97 rfl (by kernel_rfl)
          have q97 : v97 = .int .i64 lb.length := g97
          subst q97
          obtain ⟨v94, e94, g94⟩ := hH.dep 30 94 rfl (by kernel_rfl)
          have q94 : v94 = .bool true := g94
          subst q94
          exact Or.inl ⟨(wanted_on rfl rfl rfl e94), goodE_val (.bool true) (by simp [execOp, Act.eval, e95, e97, go_sem]; omega) rfl⟩
        refine stepE_cons ⟨_, rfl, fun a w hE hH => ?_⟩ ?_
        ·
          obtain ⟨v94, e94, g94⟩ := hH.dep 30 94 rfl (by kernel_rfl)
          have q94 : v94 = .bool true := g94
          subst q94
          obtain ⟨v98, e98, g98⟩ := hH.dep 34 98 rfl (by kernel_rfl)
          have q98 : v98 = .bool true := g98
          subst q98
          obtain ⟨v89, e89, g89⟩ := hH.dep 25 89 rfl (by kernel_rfl)
          have q89 : v89 = .bool false := g89
          subst q89
          exact Or.inl ⟨wanted_on rfl rfl rfl e89, goodE_pick _ (.bool true) rfl (eval_of e94) (by simp [Act.eval, e89, e98, e94]) rfl⟩
        refine stepE_cons ⟨_, rfl, fun a w hE hH => ?_⟩ ?_
        ·
          obtain ⟨v99, e99, g99⟩ := hH.dep 35 99 rfl (by kernel_rfl)
          obtain ⟨v89, e89, g89⟩ := hH.dep 25 89 rfl (by kernel_rfl)
          have q89 : v89 = .bool false := g89
          subst q89
          exact Or.inl ⟨wanted_on rfl rfl rfl e89, goodE_move v99 rfl (eval_of e99) g99⟩
        refine stepE_cons ⟨_, rfl, fun a w hE hH => ?_⟩ ?_
        ·
          have e0 : a.tmps[0]? = some (.slice (some ad) la.length c0) := hH.old 0 rfl
          obtain ⟨v100, e100, g100⟩ := hH.dep 36 100 rfl (by kernel_rfl)
          have q100 : v100 = .bool true := g100
          subst q100
          exact Or.inl ⟨wanted_on rfl rfl rfl e100, goodE_move _ rfl (eval_of e0) rfl⟩
        refine stepE_cons ⟨_, rfl, fun a w hE hH => ?_⟩ ?_
        ·
          have e10 : a.tmps[10]? = some (.int .i64 k) := hH.old 10 rfl
          obtain ⟨v100, e100, g100⟩ := hH.dep 36 100 rfl (by kernel_rfl)
          have q100 : v100 = .bool true := g100
          subst q100
          exact Or.inl ⟨wanted_on rfl rfl rfl e100, goodE_move _ rfl (eval_of e10) rfl⟩
        refine stepE_cons ⟨_, rfl, fun a w hE hH => ?_⟩ ?_
        ·
          obtain ⟨v101, e101, g101⟩ := hH.dep 37 101 rfl (by kernel_rfl)
          have q101 : v101 = .slice (some ad) la.length c0 := g101
          subst q101
          obtain ⟨v102, e102, g102⟩ := hH.dep 38 102 rfl (by kernel_rfl)
          have q102 : v102 = .int .i64 k := g102
          subst q102
          obtain ⟨v100, e100, g100⟩ := hH.dep 36 100 rfl (by kernel_rfl)
          have q100 : v100 = .bool true := g100
          subst q100
          exact Or.inl ⟨(wanted_on rfl rfl rfl e100), goodE_val (.pointer (some (ad.add k))) (by simp [execOp, Act.eval, e101, e102, go_sem, b7]) rfl⟩
        refine stepE_cons ⟨_, rfl, fun a w hE hH => ?_⟩ ?_
        ·
          obtain ⟨v103, e103, g103⟩ := hH.dep 39 103 rfl (by kernel_rfl)
          have q103 : v103 = .pointer (some (ad.add k)) := g103
          subst q103
          obtain ⟨v100, e100, g100⟩ := hH.dep 36 100 rfl (by kernel_rfl)
          have q100 : v100 = .bool true := g100
          subst q100
          exact Or.inl ⟨(wanted_on rfl rfl rfl e100), goodE_val (.int .u8 u) (by simp [execOp, Act.eval, e103, go_sem, cell_ext ((Ext.to_drew _).trans hE) HCA0.out]) rfl⟩
        refine stepE_cons ⟨_, rfl, fun a w hE hH => ?_⟩ ?_
        ·
          have e1 : a.tmps[1]? = some (.slice (some bd) lb.length c1) := hH.old 1 rfl
          obtain ⟨v100, e100, g100⟩ := hH.dep 36 100 rfl (by kernel_rfl)
          have q100 : v100 = .bool true := g100
          subst q100
          exact Or.inl ⟨wanted_on rfl rfl rfl e100, goodE_move _ rfl (eval_of e1) rfl⟩
        refine stepE_cons ⟨_, rfl, fun a w hE hH => ?_⟩ ?_
        ·
          have e10 : a.tmps[10]? = some (.int .i64 k) := hH.old 10 rfl
          obtain ⟨v100, e100, g100⟩ := hH.dep 36 100 rfl (by kernel_rfl)
          have q100 : v100 = .bool true := g100
          subst q100
          exact Or.inl ⟨wanted_on rfl rfl rfl e100, goodE_move _ rfl (eval_of e10) rfl⟩
        refine stepE_cons ⟨_, rfl, fun a w hE hH => ?_⟩ ?_
        ·
          obtain ⟨v105, e105, g105⟩ := hH.dep 41 105 rfl (by kernel_rfl)
          have q105 : v105 = .slice (some bd) lb.length c1 := g105
          subst q105
          obtain ⟨v106, e106, g106⟩ := hH.dep 42 106 rfl (by kernel_rfl)
          have q106 : v106 = .int .i64 k := g106
          subst q106
          obtain ⟨v100, e100, g100⟩ := hH.dep 36 100 rfl (by kernel_rfl)
          have q100 : v100 = .bool true := g100
          subst q100
          exact Or.inl ⟨(wanted_on rfl rfl rfl e100), goodE_val (.pointer (some (bd.add k))) (by simp [execOp, Act.eval, e105, e106, go_sem, b7]) rfl⟩
        refine stepE_cons ⟨_, rfl, fun a w hE hH => ?_⟩ ?_
        ·
          obtain ⟨v107, e107, g107⟩ := hH.dep 43 107 rfl (by kernel_rfl)
          have q107 : v107 = .pointer (some (bd.add k)) := g107
          subst q107
          obtain ⟨v100, e100, g100⟩ := hH.dep 36 100 rfl (by kernel_rfl)
          have q100 : v100 = .bool true := g100
          subst q100
          exact Or.inl ⟨(wanted_on rfl rfl rfl e100), goodE_val (.int .u8 vq) (by simp [execOp, Act.eval, e107, go_sem, cell_ext ((Ext.to_drew _).trans hE) HCB0.out]) rfl⟩
        refine stepE_cons ⟨_, rfl, fun a w hE hH => ?_⟩ ?_
        ·
          obtain ⟨v104, e104, g104⟩ := hH.dep 40 104 rfl (by kernel_rfl)
          have q104 : v104 = .int .u8 u := g104
          subst q104
          obtain ⟨v108, e108, g108⟩ := hH.dep 44 108 rfl (by kernel_rfl)
          have q108 : v108 = .int .u8 vq := g108
          subst q108
          obtain ⟨v100, e100, g100⟩ := hH.dep 36 100 rfl (by kernel_rfl)
          have q100 : v100 = .bool true := g100
          subst q100
          exact Or.inl ⟨(wanted_on rfl rfl rfl e100), goodE_val (.bool false) (by simp [execOp, Act.eval, e104, e108, go_sem]; exact HNE.out) rfl⟩
        refine stepE_cons ⟨_, rfl, fun a w hE hH => ?_⟩ ?_
        ·
          obtain ⟨v100, e100, g100⟩ := hH.dep 36 100 rfl (by kernel_rfl)
          have q100 : v100 = .bool true := g100
          subst q100
          obtain ⟨v109, e109, g109⟩ := hH.dep 45 109 rfl (by kernel_rfl)
          have q109 : v109 = .bool false := g109
          subst q109
          obtain ⟨v89, e89, g89⟩ := hH.dep 25 89 rfl (by kernel_rfl)
          have q89 : v89 = .bool false := g89
          subst q89
          exact Or.inl ⟨wanted_on rfl rfl rfl e89, goodE_pick _ (.bool false) rfl (eval_of e100) (by simp [Act.eval, e89, e100, e109]) rfl⟩
        refine stepE_cons ⟨_, rfl, fun a w hE hH => ?_⟩ ?_
        ·
          obtain ⟨v89, e89, g89⟩ := hH.dep 25 89 rfl (by kernel_rfl)
          have q89 : v89 = .bool false := g89
          subst q89
          obtain ⟨v110, e110, g110⟩ := hH.dep 46 110 rfl (by kernel_rfl)
          have q110 : v110 = .bool false := g110
          subst q110
          exact Or.inl ⟨rfl, goodE_pick _ (.bool false) rfl (eval_of e89) (by simp [Act.eval, e89, e110]) rfl⟩
        exact stepE_nil
      rintro vals wz hE hV
      have k111 : vals 47 = .bool false := hV 47 (by simp) rfl
      simp only [List.map_cons, List.map_nil, putAll, Act.put, List.setIfInBounds_toArray, List.set_cons_zero, List.set_cons_succ, k111]
      have HE4 := Aside0.mk (HE3.out.trans ((Ext.to_drew _).trans hE))
      clear hE hV k111
      go_wp2_with fail
      go_meet
      case rel => exact ⟨HE4.out, rfl⟩
    · obtain ⟨ad, rfl, hca⟩ := (HA.out.ext HE3.out).cell k h1
      clear hca
      go_wp2_with fail
      refine ext_region 48 [(0, 64), (1, 65), (2, 66), (3, 67), (4, 68), (5, 69), (6, 70), (7, 71), (8, 72), (9, 73), (10, 74), (11, 75), (12, 76), (13, 77), (14, 78), (15, 79), (16, 80), (17, 81), (18, 82), (19, 83), (20, 84), (21, 85), (22, 86), (23, 87), (24, 88), (25, 89), (26, 90), (27, 91), (28, 92), (29, 93), (30, 94), (31, 95), (32, 96), (33, 97), (34, 98), (35, 99), (36, 100), (37, 101), (38, 102), (39, 103), (40, 104), (41, 105), (42, 106), (43, 107), (44, 108), (45, 109), (46, 110), (47, 111)] [0, 1, 2, 3, 4, 5, 6, 7, 8, 9, 10, 11, 12, 13, 14, 15, 16, 17, 18, 19, 20, 21, 22, 23, 24, 25, 26, 27, 28, 29, 30, 31, 32, 33, 34, 35, 36, 37, 38, 39, 40, 41, 42, 43, 44, 45, 46, 47] (fun i w v => match i with | 0 => v = .int .i64 k | 1 => v = .bool false | 2 => v = .bool false | 3 => v = .int .i64 k | 4 => v = .slice (some ad) la.length c0 | 5 => v = .int .i64 la.length | 6 => v = .bool false | 7 => v = .bool false | 8 => v = .bool false | 9 => v = .int .i64 k | 10 => v = .slice A1 lb.length c1 | 11 => v = .int .i64 lb.length | 12 => v = .bool false | 13 => v = .bool false | 14 => v = .bool false | 15 => v = .slice (some ad) la.length c0 | 16 => v = .int .i64 k | 17 => v = .slice (some ad) k c0 | 18 => v = .string (strOfNums (la.take k)) | 19 => v = .slice A1 lb.length c1 | 20 => v = .int .i64 k | 21 => v = .slice A1 k c1 | 22 => v = .string (strOfNums (la.take k)) | 23 => v = .bool false | 24 => v = .bool false | 25 => v = .bool false | 26 => v = .int .i64 k | 27 => v = .slice (some ad) la.length c0 | 28 => v = .int .i64 la.length | 29 => v = .bool true | 30 => v = .bool true | 31 => v = .int .i64 k | 32 => v = .slice A1 lb.length c1 | 33 => v = .int .i64 lb.length | 34 => v = .bool false | 35 => v = .bool false | 36 => v = .bool false | 37 => v = undef | 38 => v = undef | 39 => v = undef | 40 => v = undef | 41 => v = undef | 42 => v = undef | 43 => v = undef | 44 => v = undef | 45 => v = undef | 46 => v = .bool false | 47 => v = .bool false | _ => True) (by kernel_rfl) (by kernel_rfl) (by rfl) rfl ?mono5b ?steps5b ?fin5b
      case mono5b =>
        intro i w w' v h hE
        match i with
        | 0 => exact h
        | 1 => exact h
        | 2 => exact h
        | 3 => exact h
        | 4 => exact h
        | 5 => exact h
        | 6 => exact h
        | 7 => exact h
        | 8 => exact h
        | 9 => exact h
        | 10 => exact h
        | 11 => exact h
        | 12 => exact h
        | 13 => exact h
        | 14 => exact h
        | 15 => exact h
        | 16 => exact h
        | 17 => exact h
        | 18 => exact h
        | 19 => exact h
        | 20 => exact h
        | 21 => exact h
        | 22 => exact h
        | 23 => exact h
        | 24 => exact h
        | 25 => exact h
        | 26 => exact h
        | 27 => exact h
        | 28 => exact h
        | 29 => exact h
        | 30 => exact h
        | 31 => exact h
        | 32 => exact h
        | 33 => exact h
        | 34 => exact h
        | 35 => exact h
        | 36 => exact h
        | 37 => exact h
        | 38 => exact h
        | 39 => exact h
        | 40 => exact h
        | 41 => exact h
        | 42 => exact h
        | 43 => exact h
        | 44 => exact h
        | 45 => exact h
        | 46 => exact h
        | 47 => exact h
        | _ + 48 => trivial
      case steps5b =>
        refine stepE_cons ⟨_, rfl, fun a w hE hH => ?_⟩ ?_
        ·
          have e10 : a.tmps[10]? = some (.int .i64 k) := hH.old 10 rfl
          exact Or.inl ⟨rfl, goodE_move _ rfl (eval_of e10) rfl⟩
        refine stepE_cons ⟨_, rfl, fun a w hE hH => ?_⟩ ?_
        ·
          obtain ⟨v64, e64, g64⟩ := hH.dep 0 64 rfl (by kernel_rfl)
          have q64 : v64 = .int .i64 k := g64
          subst q64
          exact Or.inl ⟨(rfl), goodE_val (.bool false) (by simp [execOp, Act.eval, e64, go_sem]) rfl⟩
        refine stepE_cons ⟨_, rfl, fun a w hE hH => ?_⟩ ?_
        ·
          obtain ⟨v65, e65, g65⟩ := hH.dep 1 65 rfl (by kernel_rfl)
          exact Or.inl ⟨rfl, goodE_move v65 rfl (eval_of e65) g65⟩
        refine stepE_cons ⟨_, rfl, fun a w hE hH => ?_⟩ ?_
        ·
          have e10 : a.tmps[10]? = some (.int .i64 k) := hH.old 10 rfl
          obtain ⟨v66, e66, g66⟩ := hH.dep 2 66 rfl (by kernel_rfl)
          have q66 : v66 = .bool false := g66
          subst q66
          exact Or.inl ⟨wanted_on rfl rfl rfl e66, goodE_move _ rfl (eval_of e10) rfl⟩
        refine stepE_cons ⟨_, rfl, fun a w hE hH => ?_⟩ ?_
        ·
          have e0 : a.tmps[0]? = some (.slice (some ad) la.length c0) := hH.old 0 rfl
          obtain ⟨v66, e66, g66⟩ := hH.dep 2 66 rfl (by kernel_rfl)
          have q66 : v66 = .bool false := g66
          subst q66
          exact Or.inl ⟨wanted_on rfl rfl rfl e66, goodE_move _ rfl (eval_of e0) rfl⟩
        refine stepE_cons ⟨_, rfl, fun a w hE hH => ?_⟩ ?_
        ·
          obtain ⟨v68, e68, g68⟩ := hH.dep 4 68 rfl (by kernel_rfl)
          have q68 : v68 = .slice (some ad) la.length c0 := g68
          subst q68
          obtain ⟨v66, e66, g66⟩ := hH.dep 2 66 rfl (by kernel_rfl)
          have q66 : v66 = .bool false := g66
          subst q66
          exact Or.inl ⟨wanted_on rfl rfl rfl e66, goodE_val (.int .i64 la.length) (by simp [execOp, Act.eval, e66, e68, go_sem]) rfl⟩
        refine stepE_cons ⟨_, rfl, fun a w hE hH => ?_⟩ ?_
        ·
          obtain ⟨v67, e67, g67⟩ := hH.dep 3 67 rfl (by kernel_rfl)
          have q67 : v67 = .int .i64 k := g67
          subst q67
          obtain ⟨v69, e69, g69⟩ := hH.dep 5 69 rfl (by kernel_rfl)
          have q69 : v69 = .int .i64 la.length := g69
          subst q69
          obtain ⟨v66, e66, g66⟩ := hH.dep 2 66 rfl (by kernel_rfl)
          have q66 : v66 = .bool false := g66
          subst q66
          exact Or.inl ⟨(wanted_on rfl rfl rfl e66), goodE_val (.bool false) (by simp [execOp, Act.eval, e67, e69, go_sem]; omega) rfl⟩
        refine stepE_cons ⟨_, rfl, fun a w hE hH => ?_⟩ ?_
        ·
          obtain ⟨v66, e66, g66⟩ := hH.dep 2 66 rfl (by kernel_rfl)
          have q66 : v66 = .bool false := g66
          subst q66
          obtain ⟨v70, e70, g70⟩ := hH.dep 6 70 rfl (by kernel_rfl)
          have q70 : v70 = .bool false := g70
          subst q70
          exact Or.inl ⟨rfl, goodE_pick _ (.bool false) rfl (eval_of e66) (by simp [Act.eval, e66, e70]) rfl⟩
        refine stepE_cons ⟨_, rfl, fun a w hE hH => ?_⟩ ?_
        ·
          obtain ⟨v71, e71, g71⟩ := hH.dep 7 71 rfl (by kernel_rfl)
          exact Or.inl ⟨rfl, goodE_move v71 rfl (eval_of e71) g71⟩
        refine stepE_cons ⟨_, rfl, fun a w hE hH => ?_⟩ ?_
        ·
          have e10 : a.tmps[10]? = some (.int .i64 k) := hH.old 10 rfl
          obtain ⟨v72, e72, g72⟩ := hH.dep 8 72 rfl (by kernel_rfl)
          have q72 : v72 = .bool false := g72
          subst q72
          exact Or.inl ⟨wanted_on rfl rfl rfl e72, goodE_move _ rfl (eval_of e10) rfl⟩
        refine stepE_cons ⟨_, rfl, fun a w hE hH => ?_⟩ ?_
        ·
          have e1 : a.tmps[1]? = some (.slice A1 lb.length c1) := hH.old 1 rfl
          obtain ⟨v72, e72, g72⟩ := hH.dep 8 72 rfl (by kernel_rfl)
          have q72 : v72 = .bool false := g72
          subst q72
          exact Or.inl ⟨wanted_on rfl rfl rfl e72, goodE_move _ rfl (eval_of e1) rfl⟩
        refine stepE_cons ⟨_, rfl, fun a w hE hH => ?_⟩ ?_
        ·
          obtain ⟨v74, e74, g74⟩ := hH.dep 10 74 rfl (by kernel_rfl)
          have q74 : v74 = .slice A1 lb.length c1 := g74
          subst q74
          obtain ⟨v72, e72, g72⟩ := hH.dep 8 72 rfl (by kernel_rfl)
          have q72 : v72 = .bool false := g72
          subst q72
          exact Or.inl ⟨wanted_on rfl rfl rfl e72, goodE_val (.int .i64 lb.length) (by simp [execOp, Act.eval, e72, e74, go_sem]) rfl⟩
        refine stepE_cons ⟨_, rfl, fun a w hE hH => ?_⟩ ?_
        ·
          obtain ⟨v73, e73, g73⟩ := hH.dep 9 73 rfl (by kernel_rfl)
          have q73 : v73 = .int .i64 k := g73
          subst q73
          obtain ⟨v75, e75, g75⟩ := hH.dep 11 75 rfl (by kernel_rfl)
          have q75 : v75 = .int .i64 lb.length := g75
          subst q75
          obtain ⟨v72, e72, g72⟩ := hH.dep 8 72 rfl (by kernel_rfl)
          have q72 : v72 = .bool false := g72
          subst q72
          exact Or.inl ⟨(wanted_on rfl rfl rfl e72), goodE_val (.bool false) (by simp [execOp, Act.eval, e73, e75, go_sem]; omega) rfl⟩
        refine stepE_cons ⟨_, rfl, fun a w hE hH => ?_⟩ ?_
        ·
          obtain ⟨v72, e72, g72⟩ := hH.dep 8 72 rfl (by kernel_rfl)
          have q72 : v72 = .bool false := g72
          subst q72
          obtain ⟨v76, e76, g76⟩ := hH.dep 12 76 rfl (by kernel_rfl)
          have q76 : v76 = .bool false := g76
          subst q76
          exact Or.inl ⟨rfl, goodE_pick _ (.bool false) rfl (eval_of e72) (by simp [Act.eval, e72, e76]) rfl⟩
        refine stepE_cons ⟨_, rfl, fun a w hE hH => ?_⟩ ?_
        ·
          obtain ⟨v77, e77, g77⟩ := hH.dep 13 77 rfl (by kernel_rfl)
          exact Or.inl ⟨rfl, goodE_move v77 rfl (eval_of e77) g77⟩
        refine stepE_cons ⟨_, rfl, fun a w hE hH => ?_⟩ ?_
        ·
          have e0 : a.tmps[0]? = some (.slice (some ad) la.length c0) := hH.old 0 rfl
          obtain ⟨v78, e78, g78⟩ := hH.dep 14 78 rfl (by kernel_rfl)
          have q78 : v78 = .bool false := g78
          subst q78
          exact Or.inl ⟨wanted_on rfl rfl rfl e78, goodE_move _ rfl (eval_of e0) rfl⟩
        refine stepE_cons ⟨_, rfl, fun a w hE hH => ?_⟩ ?_
        ·
          have e10 : a.tmps[10]? = some (.int .i64 k) := hH.old 10 rfl
          obtain ⟨v78, e78, g78⟩ := hH.dep 14 78 rfl (by kernel_rfl)
          have q78 : v78 = .bool false := g78
          subst q78
          exact Or.inl ⟨wanted_on rfl rfl rfl e78, goodE_move _ rfl (eval_of e10) rfl⟩
        refine stepE_cons ⟨_, rfl, fun a w hE hH => ?_⟩ ?_
        ·
          obtain ⟨v79, e79, g79⟩ := hH.dep 15 79 rfl (by kernel_rfl)
          have q79 : v79 = .slice (some ad) la.length c0 := g79
          subst q79
          obtain ⟨v80, e80, g80⟩ := hH.dep 16 80 rfl (by kernel_rfl)
          have q80 : v80 = .int .i64 k := g80
          subst q80
          obtain ⟨v78, e78, g78⟩ := hH.dep 14 78 rfl (by kernel_rfl)
          have q78 : v78 = .bool false := g78
          subst q78
          exact Or.inl ⟨(wanted_on rfl rfl rfl e78), goodE_val (.slice (some ad) k c0) (exec_slice rfl (by simp only [Option.map_some, Option.map_none, eval_of e79, eval_of e80]; exact HCA.out w)) rfl⟩
        refine stepE_cons ⟨_, rfl, fun a w hE hH => ?_⟩ ?_
        ·
          obtain ⟨v81, e81, g81⟩ := hH.dep 17 81 rfl (by kernel_rfl)
          have q81 : v81 = .slice (some ad) k c0 := g81
          subst q81
          obtain ⟨v78, e78, g78⟩ := hH.dep 14 78 rfl (by kernel_rfl)
          have q78 : v78 = .bool false := g78
          subst q78
          exact Or.inl ⟨(wanted_on rfl rfl rfl e78), goodE_val (.string (strOfNums (la.take k))) (exec_conv (x := .tmp 81) rfl (by rw [eval_of e81]; exact HSA.out w ((Ext.to_drew _).trans hE))) rfl⟩
        refine stepE_cons ⟨_, rfl, fun a w hE hH => ?_⟩ ?_
        ·
          have e1 : a.tmps[1]? = some (.slice A1 lb.length c1) := hH.old 1 rfl
          obtain ⟨v78, e78, g78⟩ := hH.dep 14 78 rfl (by kernel_rfl)
          have q78 : v78 = .bool false := g78
          subst q78
          exact Or.inl ⟨wanted_on rfl rfl rfl e78, goodE_move _ rfl (eval_of e1) rfl⟩
        refine stepE_cons ⟨_, rfl, fun a w hE hH => ?_⟩ ?_
        ·
          have e10 : a.tmps[10]? = some (.int .i64 k) := hH.old 10 rfl
          obtain ⟨v78, e78, g78⟩ := hH.dep 14 78 rfl (by kernel_rfl)
          have q78 : v78 = .bool false := g78
          subst q78
          exact Or.inl ⟨wanted_on rfl rfl rfl e78, goodE_move _ rfl (eval_of e10) rfl⟩
        refine stepE_cons ⟨_, rfl, fun a w hE hH => ?_⟩ ?_
        ·
          obtain ⟨v83, e83, g83⟩ := hH.dep 19 83 rfl (by kernel_rfl)
          have q83 : v83 = .slice A1 lb.length c1 := g83
          subst q83
          obtain ⟨v84, e84, g84⟩ := hH.dep 20 84 rfl (by kernel_rfl)
          have q84 : v84 = .int .i64 k := g84
          subst q84
          obtain ⟨v78, e78, g78⟩ := hH.dep 14 78 rfl (by kernel_rfl)
          have q78 : v78 = .bool false := g78
          subst q78
          exact Or.inl ⟨(wanted_on rfl rfl rfl e78), goodE_val (.slice A1 k c1) (exec_slice rfl (by simp only [Option.map_some, Option.map_none, eval_of e83, eval_of e84]; exact HCB.out w)) rfl⟩
        refine stepE_cons ⟨_, rfl, fun a w hE hH => ?_⟩ ?_
        ·
          obtain ⟨v85, e85, g85⟩ := hH.dep 21 85 rfl (by kernel_rfl)
          have q85 : v85 = .slice A1 k c1 := g85
          subst q85
          obtain ⟨v78, e78, g78⟩ := hH.dep 14 78 rfl (by kernel_rfl)
          have q78 : v78 = .bool false := g78
          subst q78
          exact Or.inl ⟨(wanted_on rfl rfl rfl e78), goodE_val (.string (strOfNums (la.take k))) (exec_conv (x := .tmp 85) rfl (by rw [eval_of e85]; exact HSBB.out w ((Ext.to_drew _).trans hE))) rfl⟩
        refine stepE_cons ⟨_, rfl, fun a w hE hH => ?_⟩ ?_
        ·
          obtain ⟨v82, e82, g82⟩ := hH.dep 18 82 rfl (by kernel_rfl)
          have q82 : v82 = .string (strOfNums (la.take k)) := g82
          subst q82
          obtain ⟨v86, e86, g86⟩ := hH.dep 22 86 rfl (by kernel_rfl)
          have q86 : v86 = .string (strOfNums (la.take k)) := g86
          subst q86
          obtain ⟨v78, e78, g78⟩ := hH.dep 14 78 rfl (by kernel_rfl)
          have q78 : v78 = .bool false := g78
          subst q78
          exact Or.inl ⟨(wanted_on rfl rfl rfl e78), goodE_val (.bool false) (by simp [execOp, Act.eval, e82, e86, go_sem]) rfl⟩
        refine stepE_cons ⟨_, rfl, fun a w hE hH => ?_⟩ ?_
        ·
          obtain ⟨v78, e78, g78⟩ := hH.dep 14 78 rfl (by kernel_rfl)
          have q78 : v78 = .bool false := g78
          subst q78
          obtain ⟨v87, e87, g87⟩ := hH.dep 23 87 rfl (by kernel_rfl)
          have q87 : v87 = .bool false := g87
          subst q87
          exact Or.inl ⟨rfl, goodE_pick _ (.bool false) rfl (eval_of e78) (by simp [Act.eval, e78, e87]) rfl⟩
        refine stepE_cons ⟨_, rfl, fun a w hE hH => ?_⟩ ?_
        ·
          obtain ⟨v88, e88, g88⟩ := hH.dep 24 88 rfl (by kernel_rfl)
          exact Or.inl ⟨rfl, goodE_move v88 rfl (eval_of e88) g88⟩
        refine stepE_cons ⟨_, rfl, fun a w hE hH => ?_⟩ ?_
        ·
          have e10 : a.tmps[10]? = some (.int .i64 k) := hH.old 10 rfl
          obtain ⟨v89, e89, g89⟩ := hH.dep 25 89 rfl (by kernel_rfl)
          have q89 : v89 = .bool false := g89
          subst q89
          exact Or.inl ⟨wanted_on rfl rfl rfl e89, goodE_move _ rfl (eval_of e10) rfl⟩
        refine stepE_cons ⟨_, rfl, fun a w hE hH => ?_⟩ ?_
        ·
          have e0 : a.tmps[0]? = some (.slice (some ad) la.length c0) := hH.old 0 rfl
          obtain ⟨v89, e89, g89⟩ := hH.dep 25 89 rfl (by kernel_rfl)
          have q89 : v89 = .bool false := g89
          subst q89
          exact Or.inl ⟨wanted_on rfl rfl rfl e89, goodE_move _ rfl (eval_of e0) rfl⟩
        refine stepE_cons ⟨_, rfl, fun a w hE hH => ?_⟩ ?_
        ·
          obtain ⟨v91, e91, g91⟩ := hH.dep 27 91 rfl (by kernel_rfl)
          have q91 : v91 = .slice (some ad) la.length c0 := g91
          subst q91
          obtain ⟨v89, e89, g89⟩ := hH.dep 25 89 rfl (by kernel_rfl)
          have q89 : v89 = .bool false := g89
          subst q89
          exact Or.inl ⟨wanted_on rfl rfl rfl e89, goodE_val (.int .i64 la.length) (by simp [execOp, Act.eval, e89, e91, go_sem]) rfl⟩
        refine stepE_cons ⟨_, rfl, fun a w hE hH => ?_⟩ ?_
        ·
          obtain ⟨v90, e90, g90⟩ := hH.dep 26 90 rfl (by kernel_rfl)
          have q90 : v90 = .int .i64 k := g90
          subst q90
          obtain ⟨v92, e92, g92⟩ := hH.dep 28 92 rfl (by kernel_rfl)
          have q92 : v92 = .int .i64 la.length := g92
          subst q92
          obtain ⟨v89, e89, g89⟩ := hH.dep 25 89 rfl (by kernel_rfl)
          have q89 : v89 = .bool false := g89
          subst q89
          exact Or.inl ⟨(wanted_on rfl rfl rfl e89), goodE_val (.bool true) (by simp [execOp, Act.eval, e90, e92, go_sem]; omega) rfl⟩
        refine stepE_cons ⟨_, rfl, fun a w hE hH => ?_⟩ ?_
        ·
          obtain ⟨v93, e93, g93⟩ := hH.dep 29 93 rfl (by kernel_rfl)
          obtain ⟨v89, e89, g89⟩ := hH.dep 25 89 rfl (by kernel_rfl)
          have q89 : v89 = .bool false := g89
          subst q89
          exact Or.inl ⟨wanted_on rfl rfl rfl e89, goodE_move v93 rfl (eval_of e93) g93⟩
        refine stepE_cons ⟨_, rfl, fun a w hE hH => ?_⟩ ?_
        ·
          have e10 : a.tmps[10]? = some (.int .i64 k) := hH.old 10 rfl
          obtain ⟨v94, e94, g94⟩ := hH.dep 30 94 rfl (by kernel_rfl)
          have q94 : v94 = .bool true := g94
          subst q94
          exact Or.inl ⟨wanted_on rfl rfl rfl e94, goodE_move _ rfl (eval_of e10) rfl⟩
        refine stepE_cons ⟨_, rfl, fun a w hE hH => ?_⟩ ?_
        ·
          have e1 : a.tmps[1]? = some (.slice A1 lb.length c1) := hH.old 1 rfl
          obtain ⟨v94, e94, g94⟩ := hH.dep 30 94 rfl (by kernel_rfl)
          have q94 : v94 = .bool true := g94
          subst q94
          exact Or.inl ⟨wanted_on rfl rfl rfl e94, goodE_move _ rfl (eval_of e1) rfl⟩
        refine stepE_cons ⟨_, rfl, fun a w hE hH => ?_⟩ ?_
        ·
          obtain ⟨v96, e96, g96⟩ := hH.dep 32 96 rfl (by kernel_rfl)
          have q96 : v96 = .slice A1 lb.length c1 := g96
          subst q96
          obtain ⟨v94, e94, g94⟩ := hH.dep 30 94 rfl (by kernel_rfl)
          have q94 : v94 = .bool true := g94
          subst q94
          exact Or.inl ⟨wanted_on rfl rfl rfl e94, goodE_val (.int .i64 lb.length) (by simp [execOp, Act.eval, e96, e94, go_sem]) rfl⟩
        refine stepE_cons ⟨_, rfl, fun a w hE hH => ?_⟩ ?_
        ·
          obtain ⟨v95, e95, g95⟩ := hH.dep 31 95 rfl (by kernel_rfl)
          have q95 : v95 = .int .i64 k := g95
          subst q95
          obtain ⟨v97, e97, g97⟩ := hH.dep 33 97 rfl (by kernel_rfl)
          have q97 : v97 = .int .i64 lb.length := g97
          subst q97
          obtain ⟨v94, e94, g94⟩ := hH.dep 30 94 rfl (by kernel_rfl)
          have q94 : v94 = .bool true := g94
          subst q94
          exact Or.inl ⟨(wanted_on rfl rfl rfl e94), goodE_val (.bool false) (by simp [execOp, Act.eval, e95, e97, go_sem]; omega) rfl⟩
        refine stepE_cons ⟨_, rfl, fun a w hE hH => ?_⟩ ?_
        ·
          obtain ⟨v94, e94, g94⟩ := hH.dep 30 94 rfl (by kernel_rfl)
          have q94 : v94 = .bool true := g94
          subst q94
          obtain ⟨v98, e98, g98⟩ := hH.dep 34 98 rfl (by kernel_rfl)
          have q98 : v98 = .bool false := g98
          subst q98
          obtain ⟨v89, e89, g89⟩ := hH.dep 25 89 rfl (by kernel_rfl)
          have q89 : v89 = .bool false := g89
          subst q89
          exact Or.inl ⟨wanted_on rfl rfl rfl e89, goodE_pick _ (.bool false) rfl (eval_of e94) (by simp [Act.eval, e89, e98, e94]) rfl⟩
        refine stepE_cons ⟨_, rfl, fun a w hE hH => ?_⟩ ?_
        ·
          obtain ⟨v99, e99, g99⟩ := hH.dep 35 99 rfl (by kernel_rfl)
          obtain ⟨v89, e89, g89⟩ := hH.dep 25 89 rfl (by kernel_rfl)
          have q89 : v89 = .bool false := g89
          subst q89
          exact Or.inl ⟨wanted_on rfl rfl rfl e89, goodE_move v99 rfl (eval_of e99) g99⟩
        refine stepE_cons ⟨_, rfl, fun a w hE hH => ?_⟩ ?_
        ·
          obtain ⟨v100, e100, g100⟩ := hH.dep 36 100 rfl (by kernel_rfl)
          have q100 : v100 = .bool false := g100
          subst q100
          exact Or.inr ⟨wanted_off rfl rfl rfl e100, rfl⟩
        refine stepE_cons ⟨_, rfl, fun a w hE hH => ?_⟩ ?_
        ·
          obtain ⟨v100, e100, g100⟩ := hH.dep 36 100 rfl (by kernel_rfl)
          have q100 : v100 = .bool false := g100
          subst q100
          exact Or.inr ⟨wanted_off rfl rfl rfl e100, rfl⟩
        refine stepE_cons ⟨_, rfl, fun a w hE hH => ?_⟩ ?_
        ·
          obtain ⟨v100, e100, g100⟩ := hH.dep 36 100 rfl (by kernel_rfl)
          have q100 : v100 = .bool false := g100
          subst q100
          exact Or.inr ⟨wanted_off rfl rfl rfl e100, rfl⟩
        refine stepE_cons ⟨_, rfl, fun a w hE hH => ?_⟩ ?_
        ·
          obtain ⟨v100, e100, g100⟩ := hH.dep 36 100 rfl (by kernel_rfl)
          have q100 : v100 = .bool false := g100
          subst q100
          exact Or.inr ⟨wanted_off rfl rfl rfl e100, rfl⟩
        refine stepE_cons ⟨_, rfl, fun a w hE hH => ?_⟩ ?_
        ·
          obtain ⟨v100, e100, g100⟩ := hH.dep 36 100 rfl (by kernel_rfl)
          have q100 : v100 = .bool false := g100
          subst q100
          exact Or.inr ⟨wanted_off rfl rfl rfl e100, rfl⟩
        refine stepE_cons ⟨_, rfl, fun a w hE hH => ?_⟩ ?_
        ·
          obtain ⟨v100, e100, g100⟩ := hH.dep 36 100 rfl (by kernel_rfl)
          have q100 : v100 = .bool false := g100
          subst q100
          exact Or.inr ⟨wanted_off rfl rfl rfl e100, rfl⟩
        refine stepE_cons ⟨_, rfl, fun a w hE hH => ?_⟩ ?_
        ·
          obtain ⟨v100, e100, g100⟩ := hH.dep 36 100 rfl (by kernel_rfl)
          have q100 : v100 = .bool false := g100
          subst q100
          exact Or.inr ⟨wanted_off rfl rfl rfl e100, rfl⟩
        refine stepE_cons ⟨_, rfl, fun a w hE hH => ?_⟩ ?_
        ·
          obtain ⟨v100, e100, g100⟩ := hH.dep 36 100 rfl (by kernel_rfl)
          have q100 : v100 = .bool false := g100
          subst q100
          exact Or.inr ⟨wanted_off rfl rfl rfl e100, rfl⟩
        refine stepE_cons ⟨_, rfl, fun a w hE hH => ?_⟩ ?_
        ·
          obtain ⟨v100, e100, g100⟩ := hH.dep 36 100 rfl (by kernel_rfl)
          have q100 : v100 = .bool false := g100
          subst q100
          exact Or.inr ⟨wanted_off rfl rfl rfl e100, rfl⟩
        refine stepE_cons ⟨_, rfl, fun a w hE hH => ?_⟩ ?_
        ·
          obtain ⟨v100, e100, g100⟩ := hH.dep 36 100 rfl (by kernel_rfl)
          have q100 : v100 = .bool false := g100
          subst q100
          obtain ⟨v109, e109, g109⟩ := hH.dep 45 109 rfl (by kernel_rfl)
          have q109 : v109 = undef := g109
          subst q109
          obtain ⟨v89, e89, g89⟩ := hH.dep 25 89 rfl (by kernel_rfl)
          have q89 : v89 = .bool false := g89
          subst q89
          exact Or.inl ⟨wanted_on rfl rfl rfl e89, goodE_pick _ (.bool false) rfl (eval_of e100) (by simp [Act.eval, e89, e100, e109]) rfl⟩
        refine stepE_cons ⟨_, rfl, fun a w hE hH => ?_⟩ ?_
        ·
          obtain ⟨v89, e89, g89⟩ := hH.dep 25 89 rfl (by kernel_rfl)
          have q89 : v89 = .bool false := g89
          subst q89
          obtain ⟨v110, e110, g110⟩ := hH.dep 46 110 rfl (by kernel_rfl)
          have q110 : v110 = .bool false := g110
          subst q110
          exact Or.inl ⟨rfl, goodE_pick _ (.bool false) rfl (eval_of e89) (by simp [Act.eval, e89, e110]) rfl⟩
        exact stepE_nil
      rintro vals wz hE hV
      have k111 : vals 47 = .bool false := hV 47 (by simp) rfl
      simp only [List.map_cons, List.map_nil, putAll, Act.put, List.setIfInBounds_toArray, List.set_cons_zero, List.set_cons_succ, k111]
      have HE4 := Aside0.mk (HE3.out.trans ((Ext.to_drew _).trans hE))
      clear hE hV k111
      go_wp2_with fail
      go_meet
      case rel => exact ⟨HE4.out, rfl⟩
    · go_wp2_with fail
      refine ext_region 48 [(0, 64), (1, 65), (2, 66), (3, 67), (4, 68), (5, 69), (6, 70), (7, 71), (8, 72), (9, 73), (10, 74), (11, 75), (12, 76), (13, 77), (14, 78), (15, 79), (16, 80), (17, 81), (18, 82), (19, 83), (20, 84), (21, 85), (22, 86), (23, 87), (24, 88), (25, 89), (26, 90), (27, 91), (28, 92), (29, 93), (30, 94), (31, 95), (32, 96), (33, 97), (34, 98), (35, 99), (36, 100), (37, 101), (38, 102), (39, 103), (40, 104), (41, 105), (42, 106), (43, 107), (44, 108), (45, 109), (46, 110), (47, 111)] [0, 1, 2, 3, 4, 5, 6, 7, 8, 9, 10, 11, 12, 13, 14, 15, 16, 17, 18, 19, 20, 21, 22, 23, 24, 25, 26, 27, 28, 29, 30, 31, 32, 33, 34, 35, 36, 37, 38, 39, 40, 41, 42, 43, 44, 45, 46, 47] (fun i w v => match i with | 0 => v = .int .i64 k | 1 => v = .bool false | 2 => v = .bool false | 3 => v = .int .i64 k | 4 => v = .slice A0 la.length c0 | 5 => v = .int .i64 la.length | 6 => v = .bool false | 7 => v = .bool false | 8 => v = .bool false | 9 => v = .int .i64 k | 10 => v = .slice A1 lb.length c1 | 11 => v = .int .i64 lb.length | 12 => v = .bool false | 13 => v = .bool false | 14 => v = .bool false | 15 => v = .slice A0 la.length c0 | 16 => v = .int .i64 k | 17 => v = .slice A0 k c0 | 18 => v = .string (strOfNums (la.take k)) | 19 => v = .slice A1 lb.length c1 | 20 => v = .int .i64 k | 21 => v = .slice A1 k c1 | 22 => v = .string (strOfNums (la.take k)) | 23 => v = .bool false | 24 => v = .bool false | 25 => v = .bool false | 26 => v = .int .i64 k | 27 => v = .slice A0 la.length c0 | 28 => v = .int .i64 la.length | 29 => v = .bool false | 30 => v = .bool false | 31 => v = undef | 32 => v = undef | 33 => v = undef | 34 => v = undef | 35 => v = .bool false | 36 => v = .bool false | 37 => v = undef | 38 => v = undef | 39 => v = undef | 40 => v = undef | 41 => v = undef | 42 => v = undef | 43 => v = undef | 44 => v = undef | 45 => v = undef | 46 => v = .bool false | 47 => v = .bool false | _ => True) (by kernel_rfl) (by kernel_rfl) (by rfl) rfl ?mono5c ?steps5c ?fin5c
      case mono5c =>
        intro i w w' v h hE
        match i with
        | 0 => exact h
        | 1 => exact h
        | 2 => exact h
        | 3 => exact h
        | 4 => exact h
        | 5 => exact h
        | 6 => exact h
        | 7 => exact h
        | 8 => exact h
        | 9 => exact h
        | 10 => exact h
        | 11 => exact h
        | 12 => exact h
        | 13 => exact h
        | 14 => exact h
        | 15 => exact h
        | 16 => exact h
        | 17 => exact h
        | 18 => exact h
        | 19 => exact h
        | 20 => exact h
        | 21 => exact h
        | 22 => exact h
        | 23 => exact h
        | 24 => exact h
        | 25 => exact h
        | 26 => exact h
        | 27 => exact h
        | 28 => exact h
        | 29 => exact h
        | 30 => exact h
        | 31 => exact h
        | 32 => exact h
        | 33 => exact h
        | 34 => exact h
        | 35 => exact h
        | 36 => exact h
        | 37 => exact h
        | 38 => exact h
        | 39 => exact h
        | 40 => exact h
        | 41 => exact h
        | 42 => exact h
        | 43 => exact h
        | 44 => exact h
        | 45 => exact h
        | 46 => exact h
        | 47 => exact h
        | _ + 48 => trivial
      case steps5c =>
        refine stepE_cons ⟨_, rfl, fun a w hE hH => ?_⟩ ?_
        ·
          have e10 : a.tmps[10]? = some (.int .i64 k) := hH.old 10 rfl
          exact Or.inl ⟨rfl, goodE_move _ rfl (eval_of e10) rfl⟩
        refine stepE_cons ⟨_, rfl, fun a w hE hH => ?_⟩ ?_
        ·
          obtain ⟨v64, e64, g64⟩ := hH.dep 0 64 rfl (by kernel_rfl)
          have q64 : v64 = .int .i64 k := g64
          subst q64
          exact Or.inl ⟨(rfl), goodE_val (.bool false) (by simp [execOp, Act.eval, e64, go_sem]) rfl⟩
        refine stepE_cons ⟨_, rfl, fun a w hE hH => ?_⟩ ?_
        ·
          obtain ⟨v65, e65, g65⟩ := hH.dep 1 65 rfl (by kernel_rfl)
          exact Or.inl ⟨rfl, goodE_move v65 rfl (eval_of e65) g65⟩
        refine stepE_cons ⟨_, rfl, fun a w hE hH => ?_⟩ ?_
        ·
          have e10 : a.tmps[10]? = some (.int .i64 k) := hH.old 10 rfl
          obtain ⟨v66, e66, g66⟩ := hH.dep 2 66 rfl (by kernel_rfl)
          have q66 : v66 = .bool false := g66
          subst q66
          exact Or.inl ⟨wanted_on rfl rfl rfl e66, goodE_move _ rfl (eval_of e10) rfl⟩
        refine stepE_cons ⟨_, rfl, fun a w hE hH => ?_⟩ ?_
        ·
          have e0 : a.tmps[0]? = some (.slice A0 la.length c0) := hH.old 0 rfl
          obtain ⟨v66, e66, g66⟩ := hH.dep 2 66 rfl (by kernel_rfl)
          have q66 : v66 = .bool false := g66
          subst q66
          exact Or.inl ⟨wanted_on rfl rfl rfl e66, goodE_move _ rfl (eval_of e0) rfl⟩
        refine stepE_cons ⟨_, rfl, fun a w hE hH => ?_⟩ ?_
        ·
          obtain ⟨v68, e68, g68⟩ := hH.dep 4 68 rfl (by kernel_rfl)
          have q68 : v68 = .slice A0 la.length c0 := g68
          subst q68
          obtain ⟨v66, e66, g66⟩ := hH.dep 2 66 rfl (by kernel_rfl)
          have q66 : v66 = .bool false := g66
          subst q66
          exact Or.inl ⟨wanted_on rfl rfl rfl e66, goodE_val (.int .i64 la.length) (by simp [execOp, Act.eval, e66, e68, go_sem]) rfl⟩
        refine stepE_cons ⟨_, rfl, fun a w hE hH => ?_⟩ ?_
        ·
          obtain ⟨v67, e67, g67⟩ := hH.dep 3 67 rfl (by kernel_rfl)
          have q67 : v67 = .int .i64 k := g67
          subst q67
          obtain ⟨v69, e69, g69⟩ := hH.dep 5 69 rfl (by kernel_rfl)
          have q69 : v69 = .int .i64 la.length := g69
          subst q69
          obtain ⟨v66, e66, g66⟩ := hH.dep 2 66 rfl (by kernel_rfl)
          have q66 : v66 = .bool false := g66
          subst q66
          exact Or.inl ⟨(wanted_on rfl rfl rfl e66), goodE_val (.bool false) (by simp [execOp, Act.eval, e67, e69, go_sem]; omega) rfl⟩
        refine stepE_cons ⟨_, rfl, fun a w hE hH => ?_⟩ ?_
        ·
          obtain ⟨v66, e66, g66⟩ := hH.dep 2 66 rfl (by kernel_rfl)
          have q66 : v66 = .bool false := g66
          subst q66
          obtain ⟨v70, e70, g70⟩ := hH.dep 6 70 rfl (by kernel_rfl)
          have q70 : v70 = .bool false := g70
          subst q70
          exact Or.inl ⟨rfl, goodE_pick _ (.bool false) rfl (eval_of e66) (by simp [Act.eval, e66, e70]) rfl⟩
        refine stepE_cons ⟨_, rfl, fun a w hE hH => ?_⟩ ?_
        ·
          obtain ⟨v71, e71, g71⟩ := hH.dep 7 71 rfl (by kernel_rfl)
          exact Or.inl ⟨rfl, goodE_move v71 rfl (eval_of e71) g71⟩
        refine stepE_cons ⟨_, rfl, fun a w hE hH => ?_⟩ ?_
        ·
          have e10 : a.tmps[10]? = some (.int .i64 k) := hH.old 10 rfl
          obtain ⟨v72, e72, g72⟩ := hH.dep 8 72 rfl (by kernel_rfl)
          have q72 : v72 = .bool false := g72
          subst q72
          exact Or.inl ⟨wanted_on rfl rfl rfl e72, goodE_move _ rfl (eval_of e10) rfl⟩
        refine stepE_cons ⟨_, rfl, fun a w hE hH => ?_⟩ ?_
        ·
          have e1 : a.tmps[1]? = some (.slice A1 lb.length c1) := hH.old 1 rfl
          obtain ⟨v72, e72, g72⟩ := hH.dep 8 72 rfl (by kernel_rfl)
          have q72 : v72 = .bool false := g72
          subst q72
          exact Or.inl ⟨wanted_on rfl rfl rfl e72, goodE_move _ rfl (eval_of e1) rfl⟩
        refine stepE_cons ⟨_, rfl, fun a w hE hH => ?_⟩ ?_
        ·
          obtain ⟨v74, e74, g74⟩ := hH.dep 10 74 rfl (by kernel_rfl)
          have q74 : v74 = .slice A1 lb.length c1 := g74
          subst q74
          obtain ⟨v72, e72, g72⟩ := hH.dep 8 72 rfl (by kernel_rfl)
          have q72 : v72 = .bool false := g72
          subst q72
          exact Or.inl ⟨wanted_on rfl rfl rfl e72, goodE_val (.int .i64 lb.length) (by simp [execOp, Act.eval, e72, e74, go_sem]) rfl⟩
        refine stepE_cons ⟨_, rfl, fun a w hE hH => ?_⟩ ?_
        ·
          obtain ⟨v73, e73, g73⟩ := hH.dep 9 73 rfl (by kernel_rfl)
          have q73 : v73 = .int .i64 k := g73
          subst q73
          obtain ⟨v75, e75, g75⟩ := hH.dep 11 75 rfl (by kernel_rfl)
          have q75 : v75 = .int .i64 lb.length := g75
          subst q75
          obtain ⟨v72, e72, g72⟩ := hH.dep 8 72 rfl (by kernel_rfl)
          have q72 : v72 = .bool false := g72
          subst q72
          exact Or.inl ⟨(wanted_on rfl rfl rfl e72), goodE_val (.bool false) (by simp [execOp, Act.eval, e73, e75, go_sem]; omega) rfl⟩
        refine stepE_cons ⟨_, rfl, fun a w hE hH => ?_⟩ ?_
        ·
          obtain ⟨v72, e72, g72⟩ := hH.dep 8 72 rfl (by kernel_rfl)
          have q72 : v72 = .bool false := g72
          subst q72
          obtain ⟨v76, e76, g76⟩ := hH.dep 12 76 rfl (by kernel_rfl)
          have q76 : v76 = .bool false := g76
          subst q76
          exact Or.inl ⟨rfl, goodE_pick _ (.bool false) rfl (eval_of e72) (by simp [Act.eval, e72, e76]) rfl⟩
        refine stepE_cons ⟨_, rfl, fun a w hE hH => ?_⟩ ?_
        ·
          obtain ⟨v77, e77, g77⟩ := hH.dep 13 77 rfl (by kernel_rfl)
          exact Or.inl ⟨rfl, goodE_move v77 rfl (eval_of e77) g77⟩
        refine stepE_cons ⟨_, rfl, fun a w hE hH => ?_⟩ ?_
        ·
          have e0 : a.tmps[0]? = some (.slice A0 la.length c0) := hH.old 0 rfl
          obtain ⟨v78, e78, g78⟩ := hH.dep 14 78 rfl (by kernel_rfl)
          have q78 : v78 = .bool false := g78
          subst q78
          exact Or.inl ⟨wanted_on rfl rfl rfl e78, goodE_move _ rfl (eval_of e0) rfl⟩
        refine stepE_cons ⟨_, rfl, fun a w hE hH => ?_⟩ ?_
        ·
          have e10 : a.tmps[10]? = some (.int .i64 k) := hH.old 10 rfl
          obtain ⟨v78, e78, g78⟩ := hH.dep 14 78 rfl (by kernel_rfl)
          have q78 : v78 = .bool false := g78
          subst q78
          exact Or.inl ⟨wanted_on rfl rfl rfl e78, goodE_move _ rfl (eval_of e10) rfl⟩
        refine stepE_cons ⟨_, rfl, fun a w hE hH => ?_⟩ ?_
        ·
          obtain ⟨v79, e79, g79⟩ := hH.dep 15 79 rfl (by kernel_rfl)
          have q79 : v79 = .slice A0 la.length c0 := g79
          subst q79
          obtain ⟨v80, e80, g80⟩ := hH.dep 16 80 rfl (by kernel_rfl)
          have q80 : v80 = .int .i64 k := g80
          subst q80
          obtain ⟨v78, e78, g78⟩ := hH.dep 14 78 rfl (by kernel_rfl)
          have q78 : v78 = .bool false := g78
          subst q78
          exact Or.inl ⟨(wanted_on rfl rfl rfl e78), goodE_val (.slice A0 k c0) (exec_slice rfl (by simp only [Option.map_some, Option.map_none, eval_of e79, eval_of e80]; exact HCA.out w)) rfl⟩
        refine stepE_cons ⟨_, rfl, fun a w hE hH => ?_⟩ ?_
        ·
          obtain ⟨v81, e81, g81⟩ := hH.dep 17 81 rfl (by kernel_rfl)
          have q81 : v81 = .slice A0 k c0 := g81
          subst q81
          obtain ⟨v78, e78, g78⟩ := hH.dep 14 78 rfl (by kernel_rfl)
          have q78 : v78 = .bool false := g78
          subst q78
          exact Or.inl ⟨(wanted_on rfl rfl rfl e78), goodE_val (.string (strOfNums (la.take k))) (exec_conv (x := .tmp 81) rfl (by rw [eval_of e81]; exact HSA.out w ((Ext.to_drew _).trans hE))) rfl⟩
        refine stepE_cons ⟨_, rfl, fun a w hE hH => ?_⟩ ?_
        ·
          have e1 : a.tmps[1]? = some (.slice A1 lb.length c1) := hH.old 1 rfl
          obtain ⟨v78, e78, g78⟩ := hH.dep 14 78 rfl (by kernel_rfl)
          have q78 : v78 = .bool false := g78
          subst q78
          exact Or.inl ⟨wanted_on rfl rfl rfl e78, goodE_move _ rfl (eval_of e1) rfl⟩
        refine stepE_cons ⟨_, rfl, fun a w hE hH => ?_⟩ ?_
        ·
          have e10 : a.tmps[10]? = some (.int .i64 k) := hH.old 10 rfl
          obtain ⟨v78, e78, g78⟩ := hH.dep 14 78 rfl (by kernel_rfl)
          have q78 : v78 = .bool false := g78
          subst q78
          exact Or.inl ⟨wanted_on rfl rfl rfl e78, goodE_move _ rfl (eval_of e10) rfl⟩
        refine stepE_cons ⟨_, rfl, fun a w hE hH => ?_⟩ ?_
        ·
          obtain ⟨v83, e83, g83⟩ := hH.dep 19 83 rfl (by kernel_rfl)
          have q83 : v83 = .slice A1 lb.length c1 := g83
          subst q83
          obtain ⟨v84, e84, g84⟩ := hH.dep 20 84 rfl (by kernel_rfl)
          have q84 : v84 = .int .i64 k := g84
          subst q84
          obtain ⟨v78, e78, g78⟩ := hH.dep 14 78 rfl (by kernel_rfl)
          have q78 : v78 = .bool false := g78
          subst q78
          exact Or.inl ⟨(wanted_on rfl rfl rfl e78), goodE_val (.slice A1 k c1) (exec_slice rfl (by simp only [Option.map_some, Option.map_none, eval_of e83, eval_of e84]; exact HCB.out w)) rfl⟩
        refine stepE_cons ⟨_, rfl, fun a w hE hH => ?_⟩ ?_
        ·
          obtain ⟨v85, e85, g85⟩ := hH.dep 21 85 rfl (by kernel_rfl)
          have q85 : v85 = .slice A1 k c1 := g85
          subst q85
          obtain ⟨v78, e78, g78⟩ := hH.dep 14 78 rfl (by kernel_rfl)
          have q78 : v78 = .bool false := g78
          subst q78
          exact Or.inl ⟨(wanted_on rfl rfl rfl e78), goodE_val (.string (strOfNums (la.take k))) (exec_conv (x := .tmp 85) rfl (by rw [eval_of e85]; exact HSBB.out w ((Ext.to_drew _).trans hE))) rfl⟩
        refine stepE_cons ⟨_, rfl, fun a w hE hH => ?_⟩ ?_
        ·
          obtain ⟨v82, e82, g82⟩ := hH.dep 18 82 rfl (by kernel_rfl)
          have q82 : v82 = .string (strOfNums (la.take k)) := g82
          subst q82
          obtain ⟨v86, e86, g86⟩ := hH.dep 22 86 rfl (by kernel_rfl)
          have q86 : v86 = .string (strOfNums (la.take k)) := g86
          subst q86
          obtain ⟨v78, e78, g78⟩ := hH.dep 14 78 rfl (by kernel_rfl)
          have q78 : v78 = .bool false := g78
          subst q78
          exact Or.inl ⟨(wanted_on rfl rfl rfl e78), goodE_val (.bool false) (by simp [execOp, Act.eval, e82, e86, go_sem]) rfl⟩
        refine stepE_cons ⟨_, rfl, fun a w hE hH => ?_⟩ ?_
        ·
          obtain ⟨v78, e78, g78⟩ := hH.dep 14 78 rfl (by kernel_rfl)
          have q78 : v78 = .bool false := g78
          subst q78
          obtain ⟨v87, e87, g87⟩ := hH.dep 23 87 rfl (by kernel_rfl)
          have q87 : v87 = .bool false := g87
          subst q87
          exact Or.inl ⟨rfl, goodE_pick _ (.bool false) rfl (eval_of e78) (by simp [Act.eval, e78, e87]) rfl⟩
        refine stepE_cons ⟨_, rfl, fun a w hE hH => ?_⟩ ?_
        ·
          obtain ⟨v88, e88, g88⟩ := hH.dep 24 88 rfl (by kernel_rfl)
          exact Or.inl ⟨rfl, goodE_move v88 rfl (eval_of e88) g88⟩
        refine stepE_cons ⟨_, rfl, fun a w hE hH => ?_⟩ ?_
        ·
          have e10 : a.tmps[10]? = some (.int .i64 k) := hH.old 10 rfl
          obtain ⟨v89, e89, g89⟩ := hH.dep 25 89 rfl (by kernel_rfl)
          have q89 : v89 = .bool false := g89
          subst q89
          exact Or.inl ⟨wanted_on rfl rfl rfl e89, goodE_move _ rfl (eval_of e10) rfl⟩
        refine stepE_cons ⟨_, rfl, fun a w hE hH => ?_⟩ ?_
        ·
          have e0 : a.tmps[0]? = some (.slice A0 la.length c0) := hH.old 0 rfl
          obtain ⟨v89, e89, g89⟩ := hH.dep 25 89 rfl (by kernel_rfl)
          have q89 : v89 = .bool false := g89
          subst q89
          exact Or.inl ⟨wanted_on rfl rfl rfl e89, goodE_move _ rfl (eval_of e0) rfl⟩
        refine stepE_cons ⟨_, rfl, fun a w hE hH => ?_⟩ ?_
        ·
          obtain ⟨v91, e91, g91⟩ := hH.dep 27 91 rfl (by kernel_rfl)
          have q91 : v91 = .slice A0 la.length c0 := g91
          subst q91
          obtain ⟨v89, e89, g89⟩ := hH.dep 25 89 rfl (by kernel_rfl)
          have q89 : v89 = .bool false := g89
          subst q89
          exact Or.inl ⟨wanted_on rfl rfl rfl e89, goodE_val (.int .i64 la.length) (by simp [execOp, Act.eval, e89, e91, go_sem]) rfl⟩
        refine stepE_cons ⟨_, rfl, fun a w hE hH => ?_⟩ ?_
        ·
          obtain ⟨v90, e90, g90⟩ := hH.dep 26 90 rfl (by kernel_rfl)
          have q90 : v90 = .int .i64 k := g90
          subst q90
          obtain ⟨v92, e92, g92⟩ := hH.dep 28 92 rfl (by kernel_rfl)
          have q92 : v92 = .int .i64 la.length := g92
          subst q92
          obtain ⟨v89, e89, g89⟩ := hH.dep 25 89 rfl (by kernel_rfl)
          have q89 : v89 = .bool false := g89
          subst q89
          exact Or.inl ⟨(wanted_on rfl rfl rfl e89), goodE_val (.bool false) (by simp [execOp, Act.eval, e90, e92, go_sem]; omega) rfl⟩
        refine stepE_cons ⟨_, rfl, fun a w hE hH => ?_⟩ ?_
        ·
          obtain ⟨v93, e93, g93⟩ := hH.dep 29 93 rfl (by kernel_rfl)
          obtain ⟨v89, e89, g89⟩ := hH.dep 25 89 rfl (by kernel_rfl)
          have q89 : v89 = .bool false := g89
          subst q89
          exact Or.inl ⟨wanted_on rfl rfl rfl e89, goodE_move v93 rfl (eval_of e93) g93⟩
        refine stepE_cons ⟨_, rfl, fun a w hE hH => ?_⟩ ?_
        ·
          obtain ⟨v94, e94, g94⟩ := hH.dep 30 94 rfl (by kernel_rfl)
          have q94 : v94 = .bool false := g94
          subst q94
          exact Or.inr ⟨wanted_off rfl rfl rfl e94, rfl⟩
        refine stepE_cons ⟨_, rfl, fun a w hE hH => ?_⟩ ?_
        ·
          obtain ⟨v94, e94, g94⟩ := hH.dep 30 94 rfl (by kernel_rfl)
          have q94 : v94 = .bool false := g94
          subst q94
          exact Or.inr ⟨wanted_off rfl rfl rfl e94, rfl⟩
        refine stepE_cons ⟨_, rfl, fun a w hE hH => ?_⟩ ?_
        ·
          obtain ⟨v94, e94, g94⟩ := hH.dep 30 94 rfl (by kernel_rfl)
          have q94 : v94 = .bool false := g94
          subst q94
          exact Or.inr ⟨wanted_off rfl rfl rfl e94, rfl⟩
        refine stepE_cons ⟨_, rfl, fun a w hE hH => ?_⟩ ?_
        ·
          obtain ⟨v94, e94, g94⟩ := hH.dep 30 94 rfl (by kernel_rfl)
          have q94 : v94 = .bool false := g94
          subst q94
          exact Or.inr ⟨wanted_off rfl rfl rfl e94, rfl⟩
        refine stepE_cons ⟨_, rfl, fun a w hE hH => ?_⟩ ?_
        ·
          obtain ⟨v94, e94, g94⟩ := hH.dep 30 94 rfl (by kernel_rfl)
          have q94 : v94 = .bool false := g94
          subst q94
          obtain ⟨v98, e98, g98⟩ := hH.dep 34 98 rfl (by kernel_rfl)
          have q98 : v98 = undef := g98
          subst q98
          obtain ⟨v89, e89, g89⟩ := hH.dep 25 89 rfl (by kernel_rfl)
          have q89 : v89 = .bool false := g89
          subst q89
          exact Or.inl ⟨wanted_on rfl rfl rfl e89, goodE_pick _ (.bool false) rfl (eval_of e94) (by simp [Act.eval, e89, e98, e94]) rfl⟩
        refine stepE_cons ⟨_, rfl, fun a w hE hH => ?_⟩ ?_
        ·
          obtain ⟨v99, e99, g99⟩ := hH.dep 35 99 rfl (by kernel_rfl)
          obtain ⟨v89, e89, g89⟩ := hH.dep 25 89 rfl (by kernel_rfl)
          have q89 : v89 = .bool false := g89
          subst q89
          exact Or.inl ⟨wanted_on rfl rfl rfl e89, goodE_move v99 rfl (eval_of e99) g99⟩
        refine stepE_cons ⟨_, rfl, fun a w hE hH => ?_⟩ ?_
        ·
          obtain ⟨v100, e100, g100⟩ := hH.dep 36 100 rfl (by kernel_rfl)
          have q100 : v100 = .bool false := g100
          subst q100
          exact Or.inr ⟨wanted_off rfl rfl rfl e100, rfl⟩
        refine stepE_cons ⟨_, rfl, fun a w hE hH => ?_⟩ ?_
        ·
          obtain ⟨v100, e100, g100⟩ := hH.dep 36 100 rfl (by kernel_rfl)
          have q100 : v100 = .bool false := g100
          subst q100
          exact Or.inr ⟨wanted_off rfl rfl rfl e100, rfl⟩
        refine stepE_cons ⟨_, rfl, fun a w hE hH => ?_⟩ ?_
        ·
          obtain ⟨v100, e100, g100⟩ := hH.dep 36 100 rfl (by kernel_rfl)
          have q100 : v100 = .bool false := g100
          subst q100
          exact Or.inr ⟨wanted_off rfl rfl rfl e100, rfl⟩
        refine stepE_cons ⟨_, rfl, fun a w hE hH => ?_⟩ ?_
        ·
          obtain ⟨v100, e100, g100⟩ := hH.dep 36 100 rfl (by kernel_rfl)
          have q100 : v100 = .bool false := g100
          subst q100
          exact Or.inr ⟨wanted_off rfl rfl rfl e100, rfl⟩
        refine stepE_cons ⟨_, rfl, fun a w hE hH => ?_⟩ ?_
        ·
          obtain ⟨v100, e100, g100⟩ := hH.dep 36 100 rfl (by kernel_rfl)
          have q100 : v100 = .bool false := g100
          subst q100
          exact Or.inr ⟨wanted_off rfl rfl rfl e100, rfl⟩
        refine stepE_cons ⟨_, rfl, fun a w hE hH => ?_⟩ ?_
        ·
          obtain ⟨v100, e100, g100⟩ := hH.dep 36 100 rfl (by kernel_rfl)
          have q100 : v100 = .bool false := g100
          subst q100
          exact Or.inr ⟨wanted_off rfl rfl rfl e100, rfl⟩
        refine stepE_cons ⟨_, rfl, fun a w hE hH => ?_⟩ ?_
        ·
          obtain ⟨v100, e100, g100⟩ := hH.dep 36 100 rfl (by kernel_rfl)
          have q100 : v100 = .bool false := g100
          subst q100
          exact Or.inr ⟨wanted_off rfl rfl rfl e100, rfl⟩
        refine stepE_cons ⟨_, rfl, fun a w hE hH => ?_⟩ ?_
        ·
          obtain ⟨v100, e100, g100⟩ := hH.dep 36 100 rfl (by kernel_rfl)
          have q100 : v100 = .bool false := g100
          subst q100
          exact Or.inr ⟨wanted_off rfl rfl rfl e100, rfl⟩
        refine stepE_cons ⟨_, rfl, fun a w hE hH => ?_⟩ ?_
        ·
          obtain ⟨v100, e100, g100⟩ := hH.dep 36 100 rfl (by kernel_rfl)
          have q100 : v100 = .bool false := g100
          subst q100
          exact Or.inr ⟨wanted_off rfl rfl rfl e100, rfl⟩
        refine stepE_cons ⟨_, rfl, fun a w hE hH => ?_⟩ ?_
        ·
          obtain ⟨v100, e100, g100⟩ := hH.dep 36 100 rfl (by kernel_rfl)
          have q100 : v100 = .bool false := g100
          subst q100
          obtain ⟨v109, e109, g109⟩ := hH.dep 45 109 rfl (by kernel_rfl)
          have q109 : v109 = undef := g109
          subst q109
          obtain ⟨v89, e89, g89⟩ := hH.dep 25 89 rfl (by kernel_rfl)
          have q89 : v89 = .bool false := g89
          subst q89
          exact Or.inl ⟨wanted_on rfl rfl rfl e89, goodE_pick _ (.bool false) rfl (eval_of e100) (by simp [Act.eval, e89, e100, e109]) rfl⟩
        refine stepE_cons ⟨_, rfl, fun a w hE hH => ?_⟩ ?_
        ·
          obtain ⟨v89, e89, g89⟩ := hH.dep 25 89 rfl (by kernel_rfl)
          have q89 : v89 = .bool false := g89
          subst q89
          obtain ⟨v110, e110, g110⟩ := hH.dep 46 110 rfl (by kernel_rfl)
          have q110 : v110 = .bool false := g110
          subst q110
          exact Or.inl ⟨rfl, goodE_pick _ (.bool false) rfl (eval_of e89) (by simp [Act.eval, e89, e110]) rfl⟩
        exact stepE_nil
      rintro vals wz hE hV
      have k111 : vals 47 = .bool false := hV 47 (by simp) rfl
      simp only [List.map_cons, List.map_nil, putAll, Act.put, List.setIfInBounds_toArray, List.set_cons_zero, List.set_cons_succ, k111]
      have HE4 := Aside0.mk (HE3.out.trans ((Ext.to_drew _).trans hE))
      clear hE hV k111
      go_wp2_with fail
      go_meet
      case rel => exact ⟨HE4.out, rfl⟩
  case rest =>
  obtain ⟨hE, rfl⟩ := hcut
  have HE4 := Aside0.mk hE
  clear hE HE3 HSA HSBB
  go_upto_region 7 with fail
  go_cut [125] from 112 to 125 (fun (s125 : Value) wx => Ext w wx ∧ s125 = .bool false)
  case first =>
    have hcase : (k = la.length ∧ k < lb.length ∧ X = -1) ∨ (k = la.length ∧ k = lb.length) ∨ k < la.length := by
      have hX := HCC.out
      by_cases h1 : k = la.length
      · rw [if_pos h1] at hX
        by_cases h2 : k = lb.length
        · omega
        · rw [if_neg h2] at hX; omega
      · omega
    rcases hcase with ⟨h1, h2, h3⟩ | ⟨h1, h2⟩ | h1
    · have e1 : ((k : Int) == (la.length : Int)) = true := by rw [beq_iff_eq]; omega
      have e2 : (k : Int) < lb.length := by omega
      have e3 : (X != -1) = false := by rw [h3]; rfl
      clear h1 h3
      go_wp2_with fail
      go_meet
      case rel => exact ⟨HE4.out, rfl⟩
    · have e1 : ((k : Int) == (la.length : Int)) = true := by rw [beq_iff_eq]; omega
      have e2 : ¬ ((k : Int) < lb.length) := by omega
      clear h1 h2
      go_wp2_with fail
      go_meet
      case rel => exact ⟨HE4.out, rfl⟩
    · have e1 : ((k : Int) == (la.length : Int)) = false := by rw [beq_eq_false_iff_ne]; omega
      clear h1
      go_wp2_with fail
      go_meet
      case rel => exact ⟨HE4.out, rfl⟩
  case rest =>
  obtain ⟨hE, rfl⟩ := hcut
  have HE5 := Aside0.mk hE
  clear hE HE4
  obtain ⟨w5, hw5⟩ : ∃ w5, w5 = wc := ⟨_, rfl⟩
  subst hw5
  go_upto_region 9 with fail
  go_cut [149] from 126 to 149 (fun (s149 : Value) wx => Ext w wx ∧ s149 = .bool false)
  case first =>
    have hcase : (k < la.length ∧ k < lb.length) ∨ (k < la.length ∧ k = lb.length) ∨ k = la.length := by omega
    rcases hcase with ⟨h1, h2⟩ | ⟨h1, h2⟩ | h1
    · obtain ⟨ad, rfl, hca⟩ := (HA.out.ext HE5.out).cell k h1
      obtain ⟨bd, rfl, hcb⟩ := (HB.out.ext HE5.out).cell k h2
      have hX := HCC.out
      rw [if_neg (by omega), if_neg (by omega)] at hX
      obtain ⟨u, hu⟩ : ∃ u, u = la.getD k 0 := ⟨_, rfl⟩
      obtain ⟨vq, hvq⟩ : ∃ vq, vq = lb.getD k 0 := ⟨_, rfl⟩
      rw [← hu] at hca
      rw [← hvq] at hcb
      rw [← hu, ← hvq] at hX
      have HXU := Aside0.mk (show (decide (X < 0)) = decide (u < vq) by
        by_cases h : u < vq
        · rw [if_pos h] at hX; simp [h, hX]
        · rw [if_neg h] at hX; simp [h, hX])
      have HCA0 := Aside0.mk hca
      have HCB0 := Aside0.mk hcb
      have b7 : (0 : Int) ≤ k ∧ (k : Int) < la.length ∧ (k : Int) < lb.length := by omega
      clear hca hcb hu hvq hX
      go_wp2_with fail
      refine ext_region 24 [(0, 126), (1, 127), (2, 128), (3, 129), (4, 130), (5, 131), (6, 132), (7, 133), (8, 134), (9, 135), (10, 136), (11, 137), (12, 138), (13, 139), (14, 140), (15, 141), (16, 142), (17, 143), (18, 144), (19, 145), (20, 146), (21, 147), (22, 148), (23, 149)] [0, 1, 2, 3, 4, 5, 6, 7, 8, 9, 10, 11, 12, 13, 14, 15, 16, 17, 18, 19, 20, 21, 22, 23] (fun i w v => match i with | 0 => v = .int .i64 k | 1 => v = .slice (some ad) la.length c0 | 2 => v = .int .i64 la.length | 3 => v = .bool true | 4 => v = .bool true | 5 => v = .int .i64 k | 6 => v = .slice (some bd) lb.length c1 | 7 => v = .int .i64 lb.length | 8 => v = .bool true | 9 => v = .bool true | 10 => v = .bool true | 11 => v = .int .i64 X | 12 => v = .bool (decide (X < 0)) | 13 => v = .slice (some ad) la.length c0 | 14 => v = .int .i64 k | 15 => v = .pointer (some (ad.add k)) | 16 => v = .int .u8 u | 17 => v = .slice (some bd) lb.length c1 | 18 => v = .int .i64 k | 19 => v = .pointer (some (bd.add k)) | 20 => v = .int .u8 vq | 21 => v = .bool (decide (u < vq)) | 22 => v = .bool false | 23 => v = .bool false | _ => True) (by kernel_rfl) (by kernel_rfl) (by rfl) rfl ?mono9a ?steps9a ?fin9a
      case mono9a =>
        intro i w w' v h hE
        match i with
        | 0 => exact h
        | 1 => exact h
        | 2 => exact h
        | 3 => exact h
        | 4 => exact h
        | 5 => exact h
        | 6 => exact h
        | 7 => exact h
        | 8 => exact h
        | 9 => exact h
        | 10 => exact h
        | 11 => exact h
        | 12 => exact h
        | 13 => exact h
        | 14 => exact h
        | 15 => exact h
        | 16 => exact h
        | 17 => exact h
        | 18 => exact h
        | 19 => exact h
        | 20 => exact h
        | 21 => exact h
        | 22 => exact h
        | 23 => exact h
        | _ + 24 => trivial
      case steps9a =>
        refine stepE_cons ⟨_, rfl, fun a w hE hH => ?_⟩ ?_
        ·
          have e10 : a.tmps[10]? = some (.int .i64 k) := hH.old 10 rfl
          exact Or.inl ⟨rfl, goodE_move _ rfl (eval_of e10) rfl⟩
        refine stepE_cons ⟨_, rfl, fun a w hE hH => ?_⟩ ?_
        ·
          have e0 : a.tmps[0]? = some (.slice (some ad) la.length c0) := hH.old 0 rfl
          exact Or.inl ⟨rfl, goodE_move _ rfl (eval_of e0) rfl⟩
        refine stepE_cons ⟨_, rfl, fun a w hE hH => ?_⟩ ?_
        ·
          obtain ⟨v127, e127, g127⟩ := hH.dep 1 127 rfl (by kernel_rfl)
          have q127 : v127 = .slice (some ad) la.length c0 := g127
          subst q127
          exact Or.inl ⟨rfl, goodE_val (.int .i64 la.length) (by simp [execOp, Act.eval, e127, go_sem]) rfl⟩
        refine stepE_cons ⟨_, rfl, fun a w hE hH => ?_⟩ ?_
        ·
          obtain ⟨v126, e126, g126⟩ := hH.dep 0 126 rfl (by kernel_rfl)
          have q126 : v126 = .int .i64 k := g126
          subst q126
          obtain ⟨v128, e128, g128⟩ := hH.dep 2 128 rfl (by kernel_rfl)
          have q128 : v128 = .int .i64 la.length := g128
          subst q128
          exact Or.inl ⟨(rfl), goodE_val (.bool true) (by simp [execOp, Act.eval, e126, e128, go_sem]; omega) rfl⟩
        refine stepE_cons ⟨_, rfl, fun a w hE hH => ?_⟩ ?_
        ·
          obtain ⟨v129, e129, g129⟩ := hH.dep 3 129 rfl (by kernel_rfl)
          exact Or.inl ⟨rfl, goodE_move v129 rfl (eval_of e129) g129⟩
        refine stepE_cons ⟨_, rfl, fun a w hE hH => ?_⟩ ?_
        ·
          have e10 : a.tmps[10]? = some (.int .i64 k) := hH.old 10 rfl
          obtain ⟨v130, e130, g130⟩ := hH.dep 4 130 rfl (by kernel_rfl)
          have q130 : v130 = .bool true := g130
          subst q130
          exact Or.inl ⟨wanted_on rfl rfl rfl e130, goodE_move _ rfl (eval_of e10) rfl⟩
        refine stepE_cons ⟨_, rfl, fun a w hE hH => ?_⟩ ?_
        ·
          have e1 : a.tmps[1]? = some (.slice (some bd) lb.length c1) := hH.old 1 rfl
          obtain ⟨v130, e130, g130⟩ := hH.dep 4 130 rfl (by kernel_rfl)
          have q130 : v130 = .bool true := g130
          subst q130
          exact Or.inl ⟨wanted_on rfl rfl rfl e130, goodE_move _ rfl (eval_of e1) rfl⟩
        refine stepE_cons ⟨_, rfl, fun a w hE hH => ?_⟩ ?_
        ·
          obtain ⟨v132, e132, g132⟩ := hH.dep 6 132 rfl (by kernel_rfl)
          have q132 : v132 = .slice (some bd) lb.length c1 := g132
          subst q132
          obtain ⟨v130, e130, g130⟩ := hH.dep 4 130 rfl (by kernel_rfl)
          have q130 : v130 = .bool true := g130
          subst q130
          exact Or.inl ⟨wanted_on rfl rfl rfl e130, goodE_val (.int .i64 lb.length) (by simp [execOp, Act.eval, e130, e132, go_sem]) rfl⟩
        refine stepE_cons ⟨_, rfl, fun a w hE hH => ?_⟩ ?_
        ·
          obtain ⟨v131, e131, g131⟩ := hH.dep 5 131 rfl (by kernel_rfl)
          have q131 : v131 = .int .i64 k := g131
          subst q131
          obtain ⟨v133, e133, g133⟩ := hH.dep 7 133 rfl (by kernel_rfl)
          have q133 : v133 = .int .i64 lb.length := g133
          subst q133
          obtain ⟨v130, e130, g130⟩ := hH.dep 4 130 rfl (by kernel_rfl)
          have q130 : v130 = .bool true := g130
          subst q130
          exact Or.inl ⟨(wanted_on rfl rfl rfl e130), goodE_val (.bool true) (by simp [execOp, Act.eval, e131, e133, go_sem]; omega) rfl⟩
        refine stepE_cons ⟨_, rfl, fun a w hE hH => ?_⟩ ?_
        ·
          obtain ⟨v130, e130, g130⟩ := hH.dep 4 130 rfl (by kernel_rfl)
          have q130 : v130 = .bool true := g130
          subst q130
          obtain ⟨v134, e134, g134⟩ := hH.dep 8 134 rfl (by kernel_rfl)
          have q134 : v134 = .bool true := g134
          subst q134
          exact Or.inl ⟨rfl, goodE_pick _ (.bool true) rfl (eval_of e130) (by simp [Act.eval, e130, e134]) rfl⟩
        refine stepE_cons ⟨_, rfl, fun a w hE hH => ?_⟩ ?_
        ·
          obtain ⟨v135, e135, g135⟩ := hH.dep 9 135 rfl (by kernel_rfl)
          exact Or.inl ⟨rfl, goodE_move v135 rfl (eval_of e135) g135⟩
        refine stepE_cons ⟨_, rfl, fun a w hE hH => ?_⟩ ?_
        ·
          have e7 : a.tmps[7]? = some (.int .i64 X) := hH.old 7 rfl
          obtain ⟨v136, e136, g136⟩ := hH.dep 10 136 rfl (by kernel_rfl)
          have q136 : v136 = .bool true := g136
          subst q136
          exact Or.inl ⟨wanted_on rfl rfl rfl e136, goodE_move _ rfl (eval_of e7) rfl⟩
        refine stepE_cons ⟨_, rfl, fun a w hE hH => ?_⟩ ?_
        ·
          obtain ⟨v137, e137, g137⟩ := hH.dep 11 137 rfl (by kernel_rfl)
          have q137 : v137 = .int .i64 X := g137
          subst q137
          obtain ⟨v136, e136, g136⟩ := hH.dep 10 136 rfl (by kernel_rfl)
          have q136 : v136 = .bool true := g136
          subst q136
          exact Or.inl ⟨wanted_on rfl rfl rfl e136, goodE_val (.bool (decide (X < 0))) (by simp [execOp, Act.eval, e136, e137, go_sem]) rfl⟩
        refine stepE_cons ⟨_, rfl, fun a w hE hH => ?_⟩ ?_
        ·
          have e0 : a.tmps[0]? = some (.slice (some ad) la.length c0) := hH.old 0 rfl
          obtain ⟨v136, e136, g136⟩ := hH.dep 10 136 rfl (by kernel_rfl)
          have q136 : v136 = .bool true := g136
          subst q136
          exact Or.inl ⟨wanted_on rfl rfl rfl e136, goodE_move _ rfl (eval_of e0) rfl⟩
        refine stepE_cons ⟨_, rfl, fun a w hE hH => ?_⟩ ?_
        ·
          have e10 : a.tmps[10]? = some (.int .i64 k) := hH.old 10 rfl
          obtain ⟨v136, e136, g136⟩ := hH.dep 10 136 rfl (by kernel_rfl)
          have q136 : v136 = .bool true := g136
          subst q136
          exact Or.inl ⟨wanted_on rfl rfl rfl e136, goodE_move _ rfl (eval_of e10) rfl⟩
        refine stepE_cons ⟨_, rfl, fun a w hE hH => ?_⟩ ?_
        ·
          obtain ⟨v139, e139, g139⟩ := hH.dep 13 139 rfl (by kernel_rfl)
          have q139 : v139 = .slice (some ad) la.length c0 := g139
          subst q139
          obtain ⟨v140, e140, g140⟩ := hH.dep 14 140 rfl (by kernel_rfl)
          have q140 : v140 = .int .i64 k := g140
          subst q140
          obtain ⟨v136, e136, g136⟩ := hH.dep 10 136 rfl (by kernel_rfl)
          have q136 : v136 = .bool true := g136
          subst q136
          exact Or.inl ⟨(wanted_on rfl rfl rfl e136), goodE_val (.pointer (some (ad.add k))) (by simp [execOp, Act.eval, e139, e140, go_sem, b7]) rfl⟩
        refine stepE_cons ⟨_, rfl, fun a w hE hH => ?_⟩ ?_
        ·
          obtain ⟨v141, e141, g141⟩ := hH.dep 15 141 rfl (by kernel_rfl)
          have q141 : v141 = .pointer (some (ad.add k)) := g141
          subst q141
          obtain ⟨v136, e136, g136⟩ := hH.dep 10 136 rfl (by kernel_rfl)
          have q136 : v136 = .bool true := g136
          subst q136
          exact Or.inl ⟨(wanted_on rfl rfl rfl e136), goodE_val (.int .u8 u) (by simp [execOp, Act.eval, e141, go_sem, cell_ext ((Ext.to_drew _).trans hE) HCA0.out]) rfl⟩
        refine stepE_cons ⟨_, rfl, fun a w hE hH => ?_⟩ ?_
        ·
          have e1 : a.tmps[1]? = some (.slice (some bd) lb.length c1) := hH.old 1 rfl
          obtain ⟨v136, e136, g136⟩ := hH.dep 10 136 rfl (by kernel_rfl)
          have q136 : v136 = .bool true := g136
          subst q136
          exact Or.inl ⟨wanted_on rfl rfl rfl e136, goodE_move _ rfl (eval_of e1) rfl⟩
        refine stepE_cons ⟨_, rfl, fun a w hE hH => ?_⟩ ?_
        ·
          have e10 : a.tmps[10]? = some (.int .i64 k) := hH.old 10 rfl
          obtain ⟨v136, e136, g136⟩ := hH.dep 10 136 rfl (by kernel_rfl)
          have q136 : v136 = .bool true := g136
          subst q136
          exact Or.inl ⟨wanted_on rfl rfl rfl e136, goodE_move _ rfl (eval_of e10) rfl⟩
        refine stepE_cons ⟨_, rfl, fun a w hE hH => ?_⟩ ?_
        ·
          obtain ⟨v143, e143, g143⟩ := hH.dep 17 143 rfl (by kernel_rfl)
          have q143 : v143 = .slice (some bd) lb.length c1 := g143
          subst q143
          obtain ⟨v144, e144, g144⟩ := hH.dep 18 144 rfl (by kernel_rfl)
          have q144 : v144 = .int .i64 k := g144
          subst q144
          obtain ⟨v136, e136, g136⟩ := hH.dep 10 136 rfl (by kernel_rfl)
          have q136 : v136 = .bool true := g136
          subst q136
          exact Or.inl ⟨(wanted_on rfl rfl rfl e136), goodE_val (.pointer (some (bd.add k))) (by simp [execOp, Act.eval, e143, e144, go_sem, b7]) rfl⟩
        refine stepE_cons ⟨_, rfl, fun a w hE hH => ?_⟩ ?_
        ·
          obtain ⟨v145, e145, g145⟩ := hH.dep 19 145 rfl (by kernel_rfl)
          have q145 : v145 = .pointer (some (bd.add k)) := g145
          subst q145
          obtain ⟨v136, e136, g136⟩ := hH.dep 10 136 rfl (by kernel_rfl)
          have q136 : v136 = .bool true := g136
          subst q136
          exact Or.inl ⟨(wanted_on rfl rfl rfl e136), goodE_val (.int .u8 vq) (by simp [execOp, Act.eval, e145, go_sem, cell_ext ((Ext.to_drew _).trans hE) HCB0.out]) rfl⟩
        refine stepE_cons ⟨_, rfl, fun a w hE hH => ?_⟩ ?_
        ·
          obtain ⟨v142, e142, g142⟩ := hH.dep 16 142 rfl (by kernel_rfl)
          have q142 : v142 = .int .u8 u := g142
          subst q142
          obtain ⟨v146, e146, g146⟩ := hH.dep 20 146 rfl (by kernel_rfl)
          have q146 : v146 = .int .u8 vq := g146
          subst q146
          obtain ⟨v136, e136, g136⟩ := hH.dep 10 136 rfl (by kernel_rfl)
          have q136 : v136 = .bool true := g136
          subst q136
          exact Or.inl ⟨wanted_on rfl rfl rfl e136, goodE_val (.bool (decide (u < vq))) (by simp [execOp, Act.eval, e136, e146, e142, go_sem]) rfl⟩
        refine stepE_cons ⟨_, rfl, fun a w hE hH => ?_⟩ ?_
        ·
          obtain ⟨v138, e138, g138⟩ := hH.dep 12 138 rfl (by kernel_rfl)
          have q138 : v138 = .bool (decide (X < 0)) := g138
          subst q138
          obtain ⟨v147, e147, g147⟩ := hH.dep 21 147 rfl (by kernel_rfl)
          have q147 : v147 = .bool (decide (u < vq)) := g147
          subst q147
          obtain ⟨v136, e136, g136⟩ := hH.dep 10 136 rfl (by kernel_rfl)
          have q136 : v136 = .bool true := g136
          subst q136
          exact Or.inl ⟨(wanted_on rfl rfl rfl e136), goodE_val (.bool false) (by simp [execOp, Act.eval, e138, e147, go_sem, HXU.out]) rfl⟩
        refine stepE_cons ⟨_, rfl, fun a w hE hH => ?_⟩ ?_
        ·
          obtain ⟨v136, e136, g136⟩ := hH.dep 10 136 rfl (by kernel_rfl)
          have q136 : v136 = .bool true := g136
          subst q136
          obtain ⟨v148, e148, g148⟩ := hH.dep 22 148 rfl (by kernel_rfl)
          have q148 : v148 = .bool false := g148
          subst q148
          exact Or.inl ⟨rfl, goodE_pick _ (.bool false) rfl (eval_of e136) (by simp [Act.eval, e136, e148]) rfl⟩
        exact stepE_nil
      rintro vals wz hE hV
      have k149 : vals 23 = .bool false := hV 23 (by simp) rfl
      simp only [List.map_cons, List.map_nil, putAll, Act.put, List.setIfInBounds_toArray, List.set_cons_zero, List.set_cons_succ, k149]
      have HE6 := Aside0.mk (HE5.out.trans ((Ext.to_drew _).trans hE))
      clear hE hV k149
      go_wp2_with fail
      go_meet
      case rel => exact ⟨HE6.out, rfl⟩
    · obtain ⟨ad, rfl, hca⟩ := (HA.out.ext HE5.out).cell k h1
      clear hca
      go_wp2_with fail
      refine ext_region 24 [(0, 126), (1, 127), (2, 128), (3, 129), (4, 130), (5, 131), (6, 132), (7, 133), (8, 134), (9, 135), (10, 136), (11, 137), (12, 138), (13, 139), (14, 140), (15, 141), (16, 142), (17, 143), (18, 144), (19, 145), (20, 146), (21, 147), (22, 148), (23, 149)] [0, 1, 2, 3, 4, 5, 6, 7, 8, 9, 10, 11, 12, 13, 14, 15, 16, 17, 18, 19, 20, 21, 22, 23] (fun i w v => match i with | 0 => v = .int .i64 k | 1 => v = .slice (some ad) la.length c0 | 2 => v = .int .i64 la.length | 3 => v = .bool true | 4 => v = .bool true | 5 => v = .int .i64 k | 6 => v = .slice A1 lb.length c1 | 7 => v = .int .i64 lb.length | 8 => v = .bool false | 9 => v = .bool false | 10 => v = .bool false | 11 => v = undef | 12 => v = undef | 13 => v = undef | 14 => v = undef | 15 => v = undef | 16 => v = undef | 17 => v = undef | 18 => v = undef | 19 => v = undef | 20 => v = undef | 21 => v = undef | 22 => v = undef | 23 => v = .bool false | _ => True) (by kernel_rfl) (by kernel_rfl) (by rfl) rfl ?mono9b ?steps9b ?fin9b
      case mono9b =>
        intro i w w' v h hE
        match i with
        | 0 => exact h
        | 1 => exact h
        | 2 => exact h
        | 3 => exact h
        | 4 => exact h
        | 5 => exact h
        | 6 => exact h
        | 7 => exact h
        | 8 => exact h
        | 9 => exact h
        | 10 => exact h
        | 11 => exact h
        | 12 => exact h
        | 13 => exact h
        | 14 => exact h
        | 15 => exact h
        | 16 => exact h
        | 17 => exact h
        | 18 => exact h
        | 19 => exact h
        | 20 => exact h
        | 21 => exact h
        | 22 => exact h
        | 23 => exact h
        | _ + 24 => trivial
      case steps9b =>
        refine stepE_cons ⟨_, rfl, fun a w hE hH => ?_⟩ ?_
        ·
          have e10 : a.tmps[10]? = some (.int .i64 k) := hH.old 10 rfl
          exact Or.inl ⟨rfl, goodE_move _ rfl (eval_of e10) rfl⟩
        refine stepE_cons ⟨_, rfl, fun a w hE hH => ?_⟩ ?_
        ·
          have e0 : a.tmps[0]? = some (.slice (some ad) la.length c0) := hH.old 0 rfl
          exact Or.inl ⟨rfl, goodE_move _ rfl (eval_of e0) rfl⟩
        refine stepE_cons ⟨_, rfl, fun a w hE hH => ?_⟩ ?_
        ·
          obtain ⟨v127, e127, g127⟩ := hH.dep 1 127 rfl (by kernel_rfl)
          have q127 : v127 = .slice (some ad) la.length c0 := g127
          subst q127
          exact Or.inl ⟨rfl, goodE_val (.int .i64 la.length) (by simp [execOp, Act.eval, e127, go_sem]) rfl⟩
        refine stepE_cons ⟨_, rfl, fun a w hE hH => ?_⟩ ?_
        ·
          obtain ⟨v126, e126, g126⟩ := hH.dep 0 126 rfl (by kernel_rfl)
          have q126 : v126 = .int .i64 k := g126
          subst q126
          obtain ⟨v128, e128, g128⟩ := hH.dep 2 128 rfl (by kernel_rfl)
          have q128 : v128 = .int .i64 la.length := g128
          subst q128
          exact Or.inl ⟨(rfl), goodE_val (.bool true) (by simp [execOp, Act.eval, e126, e128, go_sem]; omega) rfl⟩
        refine stepE_cons ⟨_, rfl, fun a w hE hH => ?_⟩ ?_
        ·
          obtain ⟨v129, e129, g129⟩ := hH.dep 3 129 rfl (by kernel_rfl)
          exact Or.inl ⟨rfl, goodE_move v129 rfl (eval_of e129) g129⟩
        refine stepE_cons ⟨_, rfl, fun a w hE hH => ?_⟩ ?_
        ·
          have e10 : a.tmps[10]? = some (.int .i64 k) := hH.old 10 rfl
          obtain ⟨v130, e130, g130⟩ := hH.dep 4 130 rfl (by kernel_rfl)
          have q130 : v130 = .bool true := g130
          subst q130
          exact Or.inl ⟨wanted_on rfl rfl rfl e130, goodE_move _ rfl (eval_of e10) rfl⟩
        refine stepE_cons ⟨_, rfl, fun a w hE hH => ?_⟩ ?_
        ·
          have e1 : a.tmps[1]? = some (.slice A1 lb.length c1) := hH.old 1 rfl
          obtain ⟨v130, e130, g130⟩ := hH.dep 4 130 rfl (by kernel_rfl)
          have q130 : v130 = .bool true := g130
          subst q130
          exact Or.inl ⟨wanted_on rfl rfl rfl e130, goodE_move _ rfl (eval_of e1) rfl⟩
        refine stepE_cons ⟨_, rfl, fun a w hE hH => ?_⟩ ?_
        ·
          obtain ⟨v132, e132, g132⟩ := hH.dep 6 132 rfl (by kernel_rfl)
          have q132 : v132 = .slice A1 lb.length c1 := g132
          subst q132
          obtain ⟨v130, e130, g130⟩ := hH.dep 4 130 rfl (by kernel_rfl)
          have q130 : v130 = .bool true := g130
          subst q130
          exact Or.inl ⟨wanted_on rfl rfl rfl e130, goodE_val (.int .i64 lb.length) (by simp [execOp, Act.eval, e130, e132, go_sem]) rfl⟩
        refine stepE_cons ⟨_, rfl, fun a w hE hH => ?_⟩ ?_
        ·
          obtain ⟨v131, e131, g131⟩ := hH.dep 5 131 rfl (by kernel_rfl)
          have q131 : v131 = .int .i64 k := g131
          subst q131
          obtain ⟨v133, e133, g133⟩ := hH.dep 7 133 rfl (by kernel_rfl)
          have q133 : v133 = .int .i64 lb.length := g133
          subst q133
          obtain ⟨v130, e130, g130⟩ := hH.dep 4 130 rfl (by kernel_rfl)
          have q130 : v130 = .bool true := g130
          subst q130
          exact Or.inl ⟨(wanted_on rfl rfl rfl e130), goodE_val (.bool false) (by simp [execOp, Act.eval, e131, e133, go_sem]; omega) rfl⟩
        refine stepE_cons ⟨_, rfl, fun a w hE hH => ?_⟩ ?_
        ·
          obtain ⟨v130, e130, g130⟩ := hH.dep 4 130 rfl (by kernel_rfl)
          have q130 : v130 = .bool true := g130
          subst q130
          obtain ⟨v134, e134, g134⟩ := hH.dep 8 134 rfl (by kernel_rfl)
          have q134 : v134 = .bool false := g134
          subst q134
          exact Or.inl ⟨rfl, goodE_pick _ (.bool false) rfl (eval_of e130) (by simp [Act.eval, e130, e134]) rfl⟩
        refine stepE_cons ⟨_, rfl, fun a w hE hH => ?_⟩ ?_
        ·
          obtain ⟨v135, e135, g135⟩ := hH.dep 9 135 rfl (by kernel_rfl)
          exact Or.inl ⟨rfl, goodE_move v135 rfl (eval_of e135) g135⟩
        refine stepE_cons ⟨_, rfl, fun a w hE hH => ?_⟩ ?_
        ·
          obtain ⟨v136, e136, g136⟩ := hH.dep 10 136 rfl (by kernel_rfl)
          have q136 : v136 = .bool false := g136
          subst q136
          exact Or.inr ⟨wanted_off rfl rfl rfl e136, rfl⟩
        refine stepE_cons ⟨_, rfl, fun a w hE hH => ?_⟩ ?_
        ·
          obtain ⟨v136, e136, g136⟩ := hH.dep 10 136 rfl (by kernel_rfl)
          have q136 : v136 = .bool false := g136
          subst q136
          exact Or.inr ⟨wanted_off rfl rfl rfl e136, rfl⟩
        refine stepE_cons ⟨_, rfl, fun a w hE hH => ?_⟩ ?_
        ·
          obtain ⟨v136, e136, g136⟩ := hH.dep 10 136 rfl (by kernel_rfl)
          have q136 : v136 = .bool false := g136
          subst q136
          exact Or.inr ⟨wanted_off rfl rfl rfl e136, rfl⟩
        refine stepE_cons ⟨_, rfl, fun a w hE hH => ?_⟩ ?_
        ·
          obtain ⟨v136, e136, g136⟩ := hH.dep 10 136 rfl (by kernel_rfl)
          have q136 : v136 = .bool false := g136
          subst q136
          exact Or.inr ⟨wanted_off rfl rfl rfl e136, rfl⟩
        refine stepE_cons ⟨_, rfl, fun a w hE hH => ?_⟩ ?_
        ·
          obtain ⟨v136, e136, g136⟩ := hH.dep 10 136 rfl (by kernel_rfl)
          have q136 : v136 = .bool false := g136
          subst q136
          exact Or.inr ⟨wanted_off rfl rfl rfl e136, rfl⟩
        refine stepE_cons ⟨_, rfl, fun a w hE hH => ?_⟩ ?_
        ·
          obtain ⟨v136, e136, g136⟩ := hH.dep 10 136 rfl (by kernel_rfl)
          have q136 : v136 = .bool false := g136
          subst q136
          exact Or.inr ⟨wanted_off rfl rfl rfl e136, rfl⟩
        refine stepE_cons ⟨_, rfl, fun a w hE hH => ?_⟩ ?_
        ·
          obtain ⟨v136, e136, g136⟩ := hH.dep 10 136 rfl (by kernel_rfl)
          have q136 : v136 = .bool false := g136
          subst q136
          exact Or.inr ⟨wanted_off rfl rfl rfl e136, rfl⟩
        refine stepE_cons ⟨_, rfl, fun a w hE hH => ?_⟩ ?_
        ·
          obtain ⟨v136, e136, g136⟩ := hH.dep 10 136 rfl (by kernel_rfl)
          have q136 : v136 = .bool false := g136
          subst q136
          exact Or.inr ⟨wanted_off rfl rfl rfl e136, rfl⟩
        refine stepE_cons ⟨_, rfl, fun a w hE hH => ?_⟩ ?_
        ·
          obtain ⟨v136, e136, g136⟩ := hH.dep 10 136 rfl (by kernel_rfl)
          have q136 : v136 = .bool false := g136
          subst q136
          exact Or.inr ⟨wanted_off rfl rfl rfl e136, rfl⟩
        refine stepE_cons ⟨_, rfl, fun a w hE hH => ?_⟩ ?_
        ·
          obtain ⟨v136, e136, g136⟩ := hH.dep 10 136 rfl (by kernel_rfl)
          have q136 : v136 = .bool false := g136
          subst q136
          exact Or.inr ⟨wanted_off rfl rfl rfl e136, rfl⟩
        refine stepE_cons ⟨_, rfl, fun a w hE hH => ?_⟩ ?_
        ·
          obtain ⟨v136, e136, g136⟩ := hH.dep 10 136 rfl (by kernel_rfl)
          have q136 : v136 = .bool false := g136
          subst q136
          exact Or.inr ⟨wanted_off rfl rfl rfl e136, rfl⟩
        refine stepE_cons ⟨_, rfl, fun a w hE hH => ?_⟩ ?_
        ·
          obtain ⟨v136, e136, g136⟩ := hH.dep 10 136 rfl (by kernel_rfl)
          have q136 : v136 = .bool false := g136
          subst q136
          exact Or.inr ⟨wanted_off rfl rfl rfl e136, rfl⟩
        refine stepE_cons ⟨_, rfl, fun a w hE hH => ?_⟩ ?_
        ·
          obtain ⟨v136, e136, g136⟩ := hH.dep 10 136 rfl (by kernel_rfl)
          have q136 : v136 = .bool false := g136
          subst q136
          obtain ⟨v148, e148, g148⟩ := hH.dep 22 148 rfl (by kernel_rfl)
          have q148 : v148 = undef := g148
          subst q148
          exact Or.inl ⟨rfl, goodE_pick _ (.bool false) rfl (eval_of e136) (by simp [Act.eval, e136, e148]) rfl⟩
        exact stepE_nil
      rintro vals wz hE hV
      have k149 : vals 23 = .bool false := hV 23 (by simp) rfl
      simp only [List.map_cons, List.map_nil, putAll, Act.put, List.setIfInBounds_toArray, List.set_cons_zero, List.set_cons_succ, k149]
      have HE6 := Aside0.mk (HE5.out.trans ((Ext.to_drew _).trans hE))
      clear hE hV k149
      go_wp2_with fail
      go_meet
      case rel => exact ⟨HE6.out, rfl⟩
    · go_wp2_with fail
      refine ext_region 24 [(0, 126), (1, 127), (2, 128), (3, 129), (4, 130), (5, 131), (6, 132), (7, 133), (8, 134), (9, 135), (10, 136), (11, 137), (12, 138), (13, 139), (14, 140), (15, 141), (16, 142), (17, 143), (18, 144), (19, 145), (20, 146), (21, 147), (22, 148), (23, 149)] [0, 1, 2, 3, 4, 5, 6, 7, 8, 9, 10, 11, 12, 13, 14, 15, 16, 17, 18, 19, 20, 21, 22, 23] (fun i w v => match i with | 0 => v = .int .i64 k | 1 => v = .slice A0 la.length c0 | 2 => v = .int .i64 la.length | 3 => v = .bool false | 4 => v = .bool false | 5 => v = undef | 6 => v = undef | 7 => v = undef | 8 => v = undef | 9 => v = .bool false | 10 => v = .bool false | 11 => v = undef | 12 => v = undef | 13 => v = undef | 14 => v = undef | 15 => v = undef | 16 => v = undef | 17 => v = undef | 18 => v = undef | 19 => v = undef | 20 => v = undef | 21 => v = undef | 22 => v = undef | 23 => v = .bool false | _ => True) (by kernel_rfl) (by kernel_rfl) (by rfl) rfl ?mono9c ?steps9c ?fin9c
      case mono9c =>
        intro i w w' v h hE
        match i with
        | 0 => exact h
        | 1 => exact h
        | 2 => exact h
        | 3 => exact h
        | 4 => exact h
        | 5 => exact h
        | 6 => exact h
        | 7 => exact h
        | 8 => exact h
        | 9 => exact h
        | 10 => exact h
        | 11 => exact h
        | 12 => exact h
        | 13 => exact h
        | 14 => exact h
        | 15 => exact h
        | 16 => exact h
        | 17 => exact h
        | 18 => exact h
        | 19 => exact h
        | 20 => exact h
        | 21 => exact h
        | 22 => exact h
        | 23 => exact h
        | _ + 24 => trivial
      case steps9c =>
        refine stepE_cons ⟨_, rfl, fun a w hE hH => ?_⟩ ?_
        ·
          have e10 : a.tmps[10]? = some (.int .i64 k) := hH.old 10 rfl
          exact Or.inl ⟨rfl, goodE_move _ rfl (eval_of e10) rfl⟩
        refine stepE_cons ⟨_, rfl, fun a w hE hH => ?_⟩ ?_
        ·
          have e0 : a.tmps[0]? = some (.slice A0 la.length c0) := hH.old 0 rfl
          exact Or.inl ⟨rfl, goodE_move _ rfl (eval_of e0) rfl⟩
        refine stepE_cons ⟨_, rfl, fun a w hE hH => ?_⟩ ?_
        ·
          obtain ⟨v127, e127, g127⟩ := hH.dep 1 127 rfl (by kernel_rfl)
          have q127 : v127 = .slice A0 la.length c0 := g127
          subst q127
          exact Or.inl ⟨rfl, goodE_val (.int .i64 la.length) (by simp [execOp, Act.eval, e127, go_sem]) rfl⟩
        refine stepE_cons ⟨_, rfl, fun a w hE hH => ?_⟩ ?_
        ·
          obtain ⟨v126, e126, g126⟩ := hH.dep 0 126 rfl (by kernel_rfl)
          have q126 : v126 = .int .i64 k := g126
          subst q126
          obtain ⟨v128, e128, g128⟩ := hH.dep 2 128 rfl (by kernel_rfl)
          have q128 : v128 = .int .i64 la.length := g128
          subst q128
          exact Or.inl ⟨(rfl), goodE_val (.bool false) (by simp [execOp, Act.eval, e126, e128, go_sem]; omega) rfl⟩
        refine stepE_cons ⟨_, rfl, fun a w hE hH => ?_⟩ ?_
        ·
          obtain ⟨v129, e129, g129⟩ := hH.dep 3 129 rfl (by kernel_rfl)
          exact Or.inl ⟨rfl, goodE_move v129 rfl (eval_of e129) g129⟩
        refine stepE_cons ⟨_, rfl, fun a w hE hH => ?_⟩ ?_
        ·
          obtain ⟨v130, e130, g130⟩ := hH.dep 4 130 rfl (by kernel_rfl)
          have q130 : v130 = .bool false := g130
          subst q130
          exact Or.inr ⟨wanted_off rfl rfl rfl e130, rfl⟩
        refine stepE_cons ⟨_, rfl, fun a w hE hH => ?_⟩ ?_
        ·
          obtain ⟨v130, e130, g130⟩ := hH.dep 4 130 rfl (by kernel_rfl)
          have q130 : v130 = .bool false := g130
          subst q130
          exact Or.inr ⟨wanted_off rfl rfl rfl e130, rfl⟩
        refine stepE_cons ⟨_, rfl, fun a w hE hH => ?_⟩ ?_
        ·
          obtain ⟨v130, e130, g130⟩ := hH.dep 4 130 rfl (by kernel_rfl)
          have q130 : v130 = .bool false := g130
          subst q130
          exact Or.inr ⟨wanted_off rfl rfl rfl e130, rfl⟩
        refine stepE_cons ⟨_, rfl, fun a w hE hH => ?_⟩ ?_
        ·
          obtain ⟨v130, e130, g130⟩ := hH.dep 4 130 rfl (by kernel_rfl)
          have q130 : v130 = .bool false := g130
          subst q130
          exact Or.inr ⟨wanted_off rfl rfl rfl e130, rfl⟩
        refine stepE_cons ⟨_, rfl, fun a w hE hH => ?_⟩ ?_
        ·
          obtain ⟨v130, e130, g130⟩ := hH.dep 4 130 rfl (by kernel_rfl)
          have q130 : v130 = .bool false := g130
          subst q130
          obtain ⟨v134, e134, g134⟩ := hH.dep 8 134 rfl (by kernel_rfl)
          have q134 : v134 = undef := g134
          subst q134
          exact Or.inl ⟨rfl, goodE_pick _ (.bool false) rfl (eval_of e130) (by simp [Act.eval, e130, e134]) rfl⟩
        refine stepE_cons ⟨_, rfl, fun a w hE hH => ?_⟩ ?_
        ·
          obtain ⟨v135, e135, g135⟩ := hH.dep 9 135 rfl (by kernel_rfl)
          exact Or.inl ⟨rfl, goodE_move v135 rfl (eval_of e135) g135⟩
        refine stepE_cons ⟨_, rfl, fun a w hE hH => ?_⟩ ?_
        ·
          obtain ⟨v136, e136, g136⟩ := hH.dep 10 136 rfl (by kernel_rfl)
          have q136 : v136 = .bool false := g136
          subst q136
          exact Or.inr ⟨wanted_off rfl rfl rfl e136, rfl⟩
        refine stepE_cons ⟨_, rfl, fun a w hE hH => ?_⟩ ?_
        ·
          obtain ⟨v136, e136, g136⟩ := hH.dep 10 136 rfl (by kernel_rfl)
          have q136 : v136 = .bool false := g136
          subst q136
          exact Or.inr ⟨wanted_off rfl rfl rfl e136, rfl⟩
        refine stepE_cons ⟨_, rfl, fun a w hE hH => ?_⟩ ?_
        ·
          obtain ⟨v136, e136, g136⟩ := hH.dep 10 136 rfl (by kernel_rfl)
          have q136 : v136 = .bool false := g136
          subst q136
          exact Or.inr ⟨wanted_off rfl rfl rfl e136, rfl⟩
        refine stepE_cons ⟨_, rfl, fun a w hE hH => ?_⟩ ?_
        ·
          obtain ⟨v136, e136, g136⟩ := hH.dep 10 136 rfl (by kernel_rfl)
          have q136 : v136 = .bool false := g136
          subst q136
          exact Or.inr ⟨wanted_off rfl rfl rfl e136, rfl⟩
        refine stepE_cons ⟨_, rfl, fun a w hE hH => ?_⟩ ?_
        ·
          obtain ⟨v136, e136, g136⟩ := hH.dep 10 136 rfl (by kernel_rfl)
          have q136 : v136 = .bool false := g136
          subst q136
          exact Or.inr ⟨wanted_off rfl rfl rfl e136, rfl⟩
        refine stepE_cons ⟨_, rfl, fun a w hE hH => ?_⟩ ?_
        ·
          obtain ⟨v136, e136, g136⟩ := hH.dep 10 136 rfl (by kernel_rfl)
          have q136 : v136 = .bool false := g136
          subst q136
          exact Or.inr ⟨wanted_off rfl rfl rfl e136, rfl⟩
        refine stepE_cons ⟨_, rfl, fun a w hE hH => ?_⟩ ?_
        ·
          obtain ⟨v136, e136, g136⟩ := hH.dep 10 136 rfl (by kernel_rfl)
          have q136 : v136 = .bool false := g136
          subst q136
          exact Or.inr ⟨wanted_off rfl rfl rfl e136, rfl⟩
        refine stepE_cons ⟨_, rfl, fun a w hE hH => ?_⟩ ?_
        ·
          obtain ⟨v136, e136, g136⟩ := hH.dep 10 136 rfl (by kernel_rfl)
          have q136 : v136 = .bool false := g136
          subst q136
          exact Or.inr ⟨wanted_off rfl rfl rfl e136, rfl⟩
        refine stepE_cons ⟨_, rfl, fun a w hE hH => ?_⟩ ?_
        ·
          obtain ⟨v136, e136, g136⟩ := hH.dep 10 136 rfl (by kernel_rfl)
          have q136 : v136 = .bool false := g136
          subst q136
          exact Or.inr ⟨wanted_off rfl rfl rfl e136, rfl⟩
        refine stepE_cons ⟨_, rfl, fun a w hE hH => ?_⟩ ?_
        ·
          obtain ⟨v136, e136, g136⟩ := hH.dep 10 136 rfl (by kernel_rfl)
          have q136 : v136 = .bool false := g136
          subst q136
          exact Or.inr ⟨wanted_off rfl rfl rfl e136, rfl⟩
        refine stepE_cons ⟨_, rfl, fun a w hE hH => ?_⟩ ?_
        ·
          obtain ⟨v136, e136, g136⟩ := hH.dep 10 136 rfl (by kernel_rfl)
          have q136 : v136 = .bool false := g136
          subst q136
          exact Or.inr ⟨wanted_off rfl rfl rfl e136, rfl⟩
        refine stepE_cons ⟨_, rfl, fun a w hE hH => ?_⟩ ?_
        ·
          obtain ⟨v136, e136, g136⟩ := hH.dep 10 136 rfl (by kernel_rfl)
          have q136 : v136 = .bool false := g136
          subst q136
          exact Or.inr ⟨wanted_off rfl rfl rfl e136, rfl⟩
        refine stepE_cons ⟨_, rfl, fun a w hE hH => ?_⟩ ?_
        ·
          obtain ⟨v136, e136, g136⟩ := hH.dep 10 136 rfl (by kernel_rfl)
          have q136 : v136 = .bool false := g136
          subst q136
          obtain ⟨v148, e148, g148⟩ := hH.dep 22 148 rfl (by kernel_rfl)
          have q148 : v148 = undef := g148
          subst q148
          exact Or.inl ⟨rfl, goodE_pick _ (.bool false) rfl (eval_of e136) (by simp [Act.eval, e136, e148]) rfl⟩
        exact stepE_nil
      rintro vals wz hE hV
      have k149 : vals 23 = .bool false := hV 23 (by simp) rfl
      simp only [List.map_cons, List.map_nil, putAll, Act.put, List.setIfInBounds_toArray, List.set_cons_zero, List.set_cons_succ, k149]
      have HE6 := Aside0.mk (HE5.out.trans ((Ext.to_drew _).trans hE))
      clear hE hV k149
      go_wp2_with fail
      go_meet
      case rel => exact ⟨HE6.out, rfl⟩
  case rest =>
  obtain ⟨hE, rfl⟩ := hcut
  have HE6 := Aside0.mk hE
  clear hE HE5
  go_wp2_with fail
  refine (within_calls _ A2 A0 A1 c2 c0 c1 lc la lb false (HC.out.ext HE6.out) (HA.out.ext HE6.out) (HB.out.ext HE6.out)).mono ?_
  rintro e w7 ⟨rfl, hE7⟩
  rw [show withS lc la lb false = (decide (Z ≤ 0) && decide (0 < Y)) by unfold withS; rw [← HZ.out, cmp_neg lb lc, ← HY.out]; simp]
  have HE7 := Aside0.mk (HE6.out.trans hE7)
  clear hE7
  go_wp2_with fail
  refine (within_calls w7 A2 A1 none c2 c1 0 lc lb [] true (HC.out.ext HE7.out) (HB.out.ext HE7.out) (Rs.none w7)).mono ?_
  rintro e w8 ⟨rfl, hE8⟩
  rw [show withS lc lb [] true = decide (Y ≤ 0) by unfold withS; rw [← HY.out]; simp]
  have HE8 := Aside0.mk (HE7.out.trans hE8)
  clear hE8
  go_wp2_with fail
  refine (within_calls w8 A2 A0 none c2 c0 0 lc la [] true (HC.out.ext HE8.out) (HA.out.ext HE8.out) (Rs.none w8)).mono ?_
  rintro e w9 ⟨rfl, hE9⟩
  rw [show withS lc la [] true = decide (Z ≤ 0) by unfold withS; rw [← HZ.out]; simp]
  have HE9 := Aside0.mk (HE8.out.trans hE9)
  clear hE9
  by_cases hz : Z ≤ 0
  · by_cases hy : Y ≤ 0
    · have hy' : ¬ (0 < Y) := by omega
      go_wp2_with fail
      go_ret
      exact ⟨rfl, HE9.out⟩
    · have hy' : 0 < Y := by omega
      go_wp2_with fail
      go_ret
      exact ⟨rfl, HE9.out⟩
  · by_cases hy : Y ≤ 0
    · have hy' : ¬ (0 < Y) := by omega
      go_wp2_with fail
      go_ret
      exact ⟨rfl, HE9.out⟩
    · have hy' : 0 < Y := by omega
      go_wp2_with fail
      go_ret
      exact ⟨rfl, HE9.out⟩
end Go.Proofs.YthiedcebneejjaaDoor.Ord
set_option linter.unusedVariables false
set_option linter.unusedSimpArgs false
namespace Go.Proofs.YthiedcebneejjaaDoor.Ord
open Go.RowKit Go.Proofs.YthiedcebneejjaaDoorW.PrintWords Go.Proofs.YthiedcebneejjaaDoorW.PrintLast Go.Proofs.YthiedcebneejjaaDoorW.PrintMore
open Go.Proofs.YthiedcebneejjaaDoor.Hand Go.Proofs.YthiedcebneejjaaDoor
open Extern.Stop (cell)

theorem str_snoc (a b : List Int) : strOfNums a ++ strOfNums b = strOfNums (a ++ b) := by unfold strOfNums; apply ByteArray.ext; simp
theorem str_size (a : List Int) : (strOfNums a).size = a.length := by show ((a.map fun n => UInt8.ofNat n.toNat).toArray).size = _; simp
theorem exec_sliceS {w : World} {ρ : Operand → Value} {o : Oper} {x : Operand} {lo hi mx : Option Operand} (ho : o.op = .slice 9 x lo hi mx) {v : Value} {w1 : World}
    (h : (Instr.slice 9 (ρ x) (lo.map ρ) (hi.map ρ) (mx.map ρ)).run Tryd.prog w = .ok v w1) : (execOp ρ o).run Tryd.prog w = .ok (.value v) w1 := by
  unfold execOp
  rw [ho]
  simp [Sem.run_bind, Sem.run_pure, Result.andThen_ok, Instr.sliceAt, run_underlying Tryd.underlying9, h]
theorem dig_slice (n : Nat) (hn : n < 16) (w : World) : (Instr.slice 9 (.string { data := #[48, 49, 50, 51, 52, 53, 54, 55, 56, 57, 97, 98, 99, 100, 101, 102] }) (some (.int .u8 (n : Int))) (some (.int .u8 ((n : Int) + 1))) none).run Tryd.prog w = .ok (.string (strOfNums [digC (n : Int)])) w := by
  have h : n = 0 ∨ n = 1 ∨ n = 2 ∨ n = 3 ∨ n = 4 ∨ n = 5 ∨ n = 6 ∨ n = 7 ∨ n = 8 ∨ n = 9 ∨ n = 10 ∨ n = 11 ∨ n = 12 ∨ n = 13 ∨ n = 14 ∨ n = 15 := by omega
  rcases h with rfl | rfl | rfl | rfl | rfl | rfl | rfl | rfl | rfl | rfl | rfl | rfl | rfl | rfl | rfl | rfl <;> rfl
theorem nibs_snoc (l : List Int) (i : Nat) (h : i < l.length) : nibs (l.take (i + 1)) = nibs (l.take i) ++ [l.getD i 0 / 16, l.getD i 0 % 16] := by
  rw [List.take_succ_eq_append_getElem h, nibs, nibs, List.flatMap_append]
  simp [List.getD, h]
set_option maxHeartbeats 4000000 in
set_option maxRecDepth 100000 in
theorem refHex_calls (w : World) (A : Option Addr) (c : Nat) (l : List Int) (hr : Rs w A c l) (hb : BL l) (hl : l.length ≤ 1073741824) :
    Calls Tryd.prog 20 #[.slice A l.length c] w (fun e w' => e = .returned (.string (strOfNums ((nibs l).map digC))) ∧ Ext w w') := by
  have HR := Aside0.mk hr
  have HB := Aside0.mk hb
  clear hr hb
  go_enter Tryd.func20, Tryd.ntmps20
  go_wp2_with fail
  go_loopw [3, 4] (fun s3 s4 wr => ∃ ii : Nat, ii ≤ l.length ∧ s4 = .int .i64 ii ∧ s3 = .string (strOfNums ((nibs (l.take ii)).map digC)) ∧ Ext w wr) (fun _ s4 _ => l.length - (intOf s4).toNat)
  case atStart => exact ⟨0, by omega, rfl, by simp [nibs, strOfNums], Ext.refl _⟩
  case round =>
    obtain ⟨ii, hi, rfl, rfl, hE⟩ := hrel
    have HE := Aside0.mk hE
    by_cases hlt : ii < l.length
    · obtain ⟨ad, rfl, hcx⟩ := (HR.out.ext hE).cell ii hlt
      obtain ⟨x, hx⟩ : ∃ x, x = l.getD ii 0 := ⟨_, rfl⟩
      have hxb : 0 ≤ x ∧ x ≤ 255 := by rw [hx]; have := HB.out l[ii] (List.getElem_mem _); simpa [List.getD, hlt] using this
      obtain ⟨p, hp⟩ : ∃ p : Int, p = x / 16 := ⟨_, rfl⟩
      obtain ⟨q, hq⟩ : ∃ q : Int, q = x % 16 := ⟨_, rfl⟩
      obtain ⟨acc, hacc⟩ : ∃ acc, acc = (nibs (l.take ii)).map digC := ⟨_, rfl⟩
      have hal : acc.length ≤ 2147483648 := by rw [hacc, List.length_map, nibs_length, List.length_take]; omega
      have HNX := Aside0.mk (show (nibs (l.take (ii + 1))).map digC = acc ++ [digC p, digC q] by rw [nibs_snoc l ii hlt, ← hx, ← hp, ← hq, hacc]; simp)
      have HPQ := Aside0.mk (show Int.tdiv x 16 = p ∧ x / 16 = p ∧ Int.tmod x 16 = q ∧ x % 16 = q from ⟨by rw [Int.tdiv_eq_ediv_of_nonneg hxb.1]; exact hp.symm, hp.symm, by rw [Int.tmod_eq_emod_of_nonneg hxb.1]; exact hq.symm, hq.symm⟩)
      rw [← hx] at hcx
      rw [← hacc]
      have b5 : (0 : Int) ≤ ii ∧ (ii : Int) < l.length ∧ (ii : Int) < 2000000000 := by omega
      have b6 : 0 ≤ x ∧ x ≤ 255 ∧ 0 ≤ p ∧ p < 16 ∧ 0 ≤ q ∧ q < 16 := by omega
      have HWU := Aside0.mk (And.intro (IntWalk.u8_in p (by omega)) (And.intro (IntWalk.u8_in q (by omega)) (And.intro (IntWalk.u8_in (p + 1) (by omega)) (IntWalk.u8_in (q + 1) (by omega)))))
      have hsp := fun W : World => dig_slice p.toNat (by omega) W
      have hsq := fun W : World => dig_slice q.toNat (by omega) W
      rw [Int.toNat_of_nonneg b6.2.2.1] at hsp
      rw [Int.toNat_of_nonneg b6.2.2.2.2.1] at hsq
      have HSP := Aside0.mk hsp
      have HSQ := Aside0.mk hsq
      have HCX := Aside0.mk hcx
      clear hE hx hp hq hacc hcx hsp hsq hxb
      go_wp2_with fail
      refine ext_tail 28 [(0, 11), (1, 12), (2, 13), (3, 14), (4, 15), (5, 16), (6, 17), (7, 18), (8, 19), (9, 20), (10, 21), (11, 22), (12, 23), (13, 24), (14, 25), (15, 26), (16, 27), (17, 28), (18, 29), (19, 30), (20, 31), (21, 32), (22, 33), (23, 34), (24, 35), (25, 36), (26, 37)] [0, 1, 2, 3, 4, 5, 6, 7, 8, 9, 10, 11, 12, 13, 14, 15, 16, 17, 18, 19, 20, 21, 22, 23, 24, 25, 26] (fun i w v => match i with | 0 => v = .string (strOfNums (acc)) | 1 => v = .slice (some ad) l.length c | 2 => v = .int .i64 ii | 3 => v = .pointer (some (ad.add ii)) | 4 => v = .int .u8 x | 5 => v = .int .u8 p | 6 => v = .slice (some ad) l.length c | 7 => v = .int .i64 ii | 8 => v = .pointer (some (ad.add ii)) | 9 => v = .int .u8 x | 10 => v = .int .u8 p | 11 => v = .int .u8 (p + 1) | 12 => v = .string (strOfNums ([digC p])) | 13 => v = .string (strOfNums (acc ++ [digC p])) | 14 => v = .slice (some ad) l.length c | 15 => v = .int .i64 ii | 16 => v = .pointer (some (ad.add ii)) | 17 => v = .int .u8 x | 18 => v = .int .u8 q | 19 => v = .slice (some ad) l.length c | 20 => v = .int .i64 ii | 21 => v = .pointer (some (ad.add ii)) | 22 => v = .int .u8 x | 23 => v = .int .u8 q | 24 => v = .int .u8 (q + 1) | 25 => v = .string (strOfNums ([digC q])) | 26 => v = .string (strOfNums (acc ++ [digC p, digC q])) | _ => True) (by kernel_rfl) (by kernel_rfl) (by rfl) rfl ?mono5 ?steps5 ?fin5
      case mono5 =>
        intro i w w' v h hE
        match i with
        | 0 => exact h
        | 1 => exact h
        | 2 => exact h
        | 3 => exact h
        | 4 => exact h
        | 5 => exact h
        | 6 => exact h
        | 7 => exact h
        | 8 => exact h
        | 9 => exact h
        | 10 => exact h
        | 11 => exact h
        | 12 => exact h
        | 13 => exact h
        | 14 => exact h
        | 15 => exact h
        | 16 => exact h
        | 17 => exact h
        | 18 => exact h
        | 19 => exact h
        | 20 => exact h
        | 21 => exact h
        | 22 => exact h
        | 23 => exact h
        | 24 => exact h
        | 25 => exact h
        | 26 => exact h
        | _ + 27 => trivial
      case steps5 =>
        refine stepE_cons ⟨_, rfl, fun a w hE hH => ?_⟩ ?_
        ·
          have e3 : a.tmps[3]? = some (.string (strOfNums (acc))) := hH.old 3 rfl
          exact Or.inl ⟨rfl, goodE_move _ rfl (eval_of e3) rfl⟩
        refine stepE_cons ⟨_, rfl, fun a w hE hH => ?_⟩ ?_
        ·
          have e0 : a.tmps[0]? = some (.slice (some ad) l.length c) := hH.old 0 rfl
          exact Or.inl ⟨rfl, goodE_move _ rfl (eval_of e0) rfl⟩
        refine stepE_cons ⟨_, rfl, fun a w hE hH => ?_⟩ ?_
        ·
          have e4 : a.tmps[4]? = some (.int .i64 ii) := hH.old 4 rfl
          exact Or.inl ⟨rfl, goodE_move _ rfl (eval_of e4) rfl⟩
        refine stepE_cons ⟨_, rfl, fun a w hE hH => ?_⟩ ?_
        ·
          obtain ⟨v12, e12, g12⟩ := hH.dep 1 12 rfl (by kernel_rfl)
          have q12 : v12 = .slice (some ad) l.length c := g12
          subst q12
          obtain ⟨v13, e13, g13⟩ := hH.dep 2 13 rfl (by kernel_rfl)
          have q13 : v13 = .int .i64 ii := g13
          subst q13
          exact Or.inl ⟨(rfl), goodE_val (.pointer (some (ad.add ii))) (by simp [execOp, Act.eval, e12, e13, go_sem, b5]) rfl⟩
        refine stepE_cons ⟨_, rfl, fun a w hE hH => ?_⟩ ?_
        ·
          obtain ⟨v14, e14, g14⟩ := hH.dep 3 14 rfl (by kernel_rfl)
          have q14 : v14 = .pointer (some (ad.add ii)) := g14
          subst q14
          exact Or.inl ⟨(rfl), goodE_val (.int .u8 x) (by simp [execOp, Act.eval, e14, go_sem, cell_ext ((Ext.to_drew _).trans hE) HCX.out]) rfl⟩
        refine stepE_cons ⟨_, rfl, fun a w hE hH => ?_⟩ ?_
        ·
          obtain ⟨v15, e15, g15⟩ := hH.dep 4 15 rfl (by kernel_rfl)
          have q15 : v15 = .int .u8 x := g15
          subst q15
          exact Or.inl ⟨(rfl), goodE_val (.int .u8 p) (by simp [execOp, Act.eval, e15, go_sem, HPQ.out, HWU.out, b6]) rfl⟩
        refine stepE_cons ⟨_, rfl, fun a w hE hH => ?_⟩ ?_
        ·
          have e0 : a.tmps[0]? = some (.slice (some ad) l.length c) := hH.old 0 rfl
          exact Or.inl ⟨rfl, goodE_move _ rfl (eval_of e0) rfl⟩
        refine stepE_cons ⟨_, rfl, fun a w hE hH => ?_⟩ ?_
        ·
          have e4 : a.tmps[4]? = some (.int .i64 ii) := hH.old 4 rfl
          exact Or.inl ⟨rfl, goodE_move _ rfl (eval_of e4) rfl⟩
        refine stepE_cons ⟨_, rfl, fun a w hE hH => ?_⟩ ?_
        ·
          obtain ⟨v17, e17, g17⟩ := hH.dep 6 17 rfl (by kernel_rfl)
          have q17 : v17 = .slice (some ad) l.length c := g17
          subst q17
          obtain ⟨v18, e18, g18⟩ := hH.dep 7 18 rfl (by kernel_rfl)
          have q18 : v18 = .int .i64 ii := g18
          subst q18
          exact Or.inl ⟨(rfl), goodE_val (.pointer (some (ad.add ii))) (by simp [execOp, Act.eval, e17, e18, go_sem, b5]) rfl⟩
        refine stepE_cons ⟨_, rfl, fun a w hE hH => ?_⟩ ?_
        ·
          obtain ⟨v19, e19, g19⟩ := hH.dep 8 19 rfl (by kernel_rfl)
          have q19 : v19 = .pointer (some (ad.add ii)) := g19
          subst q19
          exact Or.inl ⟨(rfl), goodE_val (.int .u8 x) (by simp [execOp, Act.eval, e19, go_sem, cell_ext ((Ext.to_drew _).trans hE) HCX.out]) rfl⟩
        refine stepE_cons ⟨_, rfl, fun a w hE hH => ?_⟩ ?_
        ·
          obtain ⟨v20, e20, g20⟩ := hH.dep 9 20 rfl (by kernel_rfl)
          have q20 : v20 = .int .u8 x := g20
          subst q20
          exact Or.inl ⟨(rfl), goodE_val (.int .u8 p) (by simp [execOp, Act.eval, e20, go_sem, HPQ.out, HWU.out, b6]) rfl⟩
        refine stepE_cons ⟨_, rfl, fun a w hE hH => ?_⟩ ?_
        ·
          obtain ⟨v21, e21, g21⟩ := hH.dep 10 21 rfl (by kernel_rfl)
          have q21 : v21 = .int .u8 p := g21
          subst q21
          exact Or.inl ⟨(rfl), goodE_val (.int .u8 (p + 1)) (by simp [execOp, Act.eval, e21, go_sem, HWU.out, b6]) rfl⟩
        refine stepE_cons ⟨_, rfl, fun a w hE hH => ?_⟩ ?_
        ·
          obtain ⟨v16, e16, g16⟩ := hH.dep 5 16 rfl (by kernel_rfl)
          have q16 : v16 = .int .u8 p := g16
          subst q16
          obtain ⟨v22, e22, g22⟩ := hH.dep 11 22 rfl (by kernel_rfl)
          have q22 : v22 = .int .u8 (p + 1) := g22
          subst q22
          exact Or.inl ⟨(rfl), goodE_val (.string (strOfNums ([digC p]))) (exec_sliceS rfl (by simp only [Option.map_some, Option.map_none, eval_of e16, eval_of e22]; exact HSP.out w)) rfl⟩
        refine stepE_cons ⟨_, rfl, fun a w hE hH => ?_⟩ ?_
        ·
          obtain ⟨v11, e11, g11⟩ := hH.dep 0 11 rfl (by kernel_rfl)
          have q11 : v11 = .string (strOfNums (acc)) := g11
          subst q11
          obtain ⟨v23, e23, g23⟩ := hH.dep 12 23 rfl (by kernel_rfl)
          have q23 : v23 = .string (strOfNums ([digC p])) := g23
          subst q23
          exact Or.inl ⟨(rfl), goodE_val (.string (strOfNums (acc ++ [digC p]))) (by rw [← str_snoc]; simp [execOp, Act.eval, e11, e23, go_sem, Tryd.underlying9, str_size]; omega) rfl⟩
        refine stepE_cons ⟨_, rfl, fun a w hE hH => ?_⟩ ?_
        ·
          have e0 : a.tmps[0]? = some (.slice (some ad) l.length c) := hH.old 0 rfl
          exact Or.inl ⟨rfl, goodE_move _ rfl (eval_of e0) rfl⟩
        refine stepE_cons ⟨_, rfl, fun a w hE hH => ?_⟩ ?_
        ·
          have e4 : a.tmps[4]? = some (.int .i64 ii) := hH.old 4 rfl
          exact Or.inl ⟨rfl, goodE_move _ rfl (eval_of e4) rfl⟩
        refine stepE_cons ⟨_, rfl, fun a w hE hH => ?_⟩ ?_
        ·
          obtain ⟨v25, e25, g25⟩ := hH.dep 14 25 rfl (by kernel_rfl)
          have q25 : v25 = .slice (some ad) l.length c := g25
          subst q25
          obtain ⟨v26, e26, g26⟩ := hH.dep 15 26 rfl (by kernel_rfl)
          have q26 : v26 = .int .i64 ii := g26
          subst q26
          exact Or.inl ⟨(rfl), goodE_val (.pointer (some (ad.add ii))) (by simp [execOp, Act.eval, e25, e26, go_sem, b5]) rfl⟩
        refine stepE_cons ⟨_, rfl, fun a w hE hH => ?_⟩ ?_
        ·
          obtain ⟨v27, e27, g27⟩ := hH.dep 16 27 rfl (by kernel_rfl)
          have q27 : v27 = .pointer (some (ad.add ii)) := g27
          subst q27
          exact Or.inl ⟨(rfl), goodE_val (.int .u8 x) (by simp [execOp, Act.eval, e27, go_sem, cell_ext ((Ext.to_drew _).trans hE) HCX.out]) rfl⟩
        refine stepE_cons ⟨_, rfl, fun a w hE hH => ?_⟩ ?_
        ·
          obtain ⟨v28, e28, g28⟩ := hH.dep 17 28 rfl (by kernel_rfl)
          have q28 : v28 = .int .u8 x := g28
          subst q28
          exact Or.inl ⟨(rfl), goodE_val (.int .u8 q) (by simp [execOp, Act.eval, e28, go_sem, HPQ.out, HWU.out, b6]) rfl⟩
        refine stepE_cons ⟨_, rfl, fun a w hE hH => ?_⟩ ?_
        ·
          have e0 : a.tmps[0]? = some (.slice (some ad) l.length c) := hH.old 0 rfl
          exact Or.inl ⟨rfl, goodE_move _ rfl (eval_of e0) rfl⟩
        refine stepE_cons ⟨_, rfl, fun a w hE hH => ?_⟩ ?_
        ·
          have e4 : a.tmps[4]? = some (.int .i64 ii) := hH.old 4 rfl
          exact Or.inl ⟨rfl, goodE_move _ rfl (eval_of e4) rfl⟩
        refine stepE_cons ⟨_, rfl, fun a w hE hH => ?_⟩ ?_
        ·
          obtain ⟨v30, e30, g30⟩ := hH.dep 19 30 rfl (by kernel_rfl)
          have q30 : v30 = .slice (some ad) l.length c := g30
          subst q30
          obtain ⟨v31, e31, g31⟩ := hH.dep 20 31 rfl (by kernel_rfl)
          have q31 : v31 = .int .i64 ii := g31
          subst q31
          exact Or.inl ⟨(rfl), goodE_val (.pointer (some (ad.add ii))) (by simp [execOp, Act.eval, e30, e31, go_sem, b5]) rfl⟩
        refine stepE_cons ⟨_, rfl, fun a w hE hH => ?_⟩ ?_
        ·
          obtain ⟨v32, e32, g32⟩ := hH.dep 21 32 rfl (by kernel_rfl)
          have q32 : v32 = .pointer (some (ad.add ii)) := g32
          subst q32
          exact Or.inl ⟨(rfl), goodE_val (.int .u8 x) (by simp [execOp, Act.eval, e32, go_sem, cell_ext ((Ext.to_drew _).trans hE) HCX.out]) rfl⟩
        refine stepE_cons ⟨_, rfl, fun a w hE hH => ?_⟩ ?_
        ·
          obtain ⟨v33, e33, g33⟩ := hH.dep 22 33 rfl (by kernel_rfl)
          have q33 : v33 = .int .u8 x := g33
          subst q33
          exact Or.inl ⟨(rfl), goodE_val (.int .u8 q) (by simp [execOp, Act.eval, e33, go_sem, HPQ.out, HWU.out, b6]) rfl⟩
        refine stepE_cons ⟨_, rfl, fun a w hE hH => ?_⟩ ?_
        ·
          obtain ⟨v34, e34, g34⟩ := hH.dep 23 34 rfl (by kernel_rfl)
          have q34 : v34 = .int .u8 q := g34
          subst q34
          exact Or.inl ⟨(rfl), goodE_val (.int .u8 (q + 1)) (by simp [execOp, Act.eval, e34, go_sem, HWU.out, b6]) rfl⟩
        refine stepE_cons ⟨_, rfl, fun a w hE hH => ?_⟩ ?_
        ·
          obtain ⟨v29, e29, g29⟩ := hH.dep 18 29 rfl (by kernel_rfl)
          have q29 : v29 = .int .u8 q := g29
          subst q29
          obtain ⟨v35, e35, g35⟩ := hH.dep 24 35 rfl (by kernel_rfl)
          have q35 : v35 = .int .u8 (q + 1) := g35
          subst q35
          exact Or.inl ⟨(rfl), goodE_val (.string (strOfNums ([digC q]))) (exec_sliceS rfl (by simp only [Option.map_some, Option.map_none, eval_of e29, eval_of e35]; exact HSQ.out w)) rfl⟩
        refine stepE_cons ⟨_, rfl, fun a w hE hH => ?_⟩ ?_
        ·
          obtain ⟨v24, e24, g24⟩ := hH.dep 13 24 rfl (by kernel_rfl)
          have q24 : v24 = .string (strOfNums (acc ++ [digC p])) := g24
          subst q24
          obtain ⟨v36, e36, g36⟩ := hH.dep 25 36 rfl (by kernel_rfl)
          have q36 : v36 = .string (strOfNums ([digC q])) := g36
          subst q36
          exact Or.inl ⟨(rfl), goodE_val (.string (strOfNums (acc ++ [digC p, digC q]))) (by rw [show acc ++ [digC p, digC q] = (acc ++ [digC p]) ++ [digC q] by simp, ← str_snoc]; simp [execOp, Act.eval, e24, e36, go_sem, Tryd.underlying9, str_size]; omega) rfl⟩
        exact stepE_nil
      refine ⟨⟨(some 3), .assign (.tmp 37), _, _, _, none⟩, rfl, ?_⟩
      rintro vals wz hE hV
      have k37 : vals 26 = .string (strOfNums (acc ++ [digC p, digC q])) := hV 26 (by simp) rfl
      refine ⟨wantedFree rfl _, ?_⟩
      intro KK hKK
      simp only [List.map_cons, List.map_nil, putAll, Act.put, List.setIfInBounds_toArray, List.set_cons_zero, List.set_cons_succ, k37]
      refine finE_val (v := .string (strOfNums (acc ++ [digC p, digC q]))) (w1 := wz) (by simp [execOp, Act.eval]) (hKK _ _ ?_)
      have HE2 := Aside0.mk (HE.out.trans ((Ext.to_drew _).trans hE))
      clear hE hV k37
      go_wp2
      go_roundw
      case rel => exact ⟨ii + 1, by omega, by simp, by rw [HNX.out], HE2.out⟩
      case measure => simp [intOf]; omega
    · obtain rfl : ii = l.length := by omega
      rw [List.take_length]
      clear hE
      go_wp2
      go_ret
      exact ⟨rfl, HE.out⟩
end Go.Proofs.YthiedcebneejjaaDoor.Ord
set_option linter.unusedVariables false
set_option linter.unusedSimpArgs false
namespace Go.Proofs.YthiedcebneejjaaDoor.Ord
open Go.RowKit Go.Proofs.YthiedcebneejjaaDoorW.PrintWords Go.Proofs.YthiedcebneejjaaDoorW.PrintLast Go.Proofs.YthiedcebneejjaaDoorW.PrintMore
open Go.Proofs.YthiedcebneejjaaDoor.Hand Go.Proofs.YthiedcebneejjaaDoor
open Extern.Stop (cell)

def marks3 : List UInt8 := [77, 78, 79]
/-- a row of bytes of the call's own, with Roomy's marks behind the first bytes -/
structure Rm (w : World) (g c : Nat) (bs : List UInt8) : Prop where
  row : ∃ rest : List Value, Row w g ((bs ++ marks3).map cell ++ rest) 5
  cap : bs.length + 3 ≤ c
  max : bs.length ≤ 1000000000000
theorem Rm.ext {w w' : World} {g c : Nat} {bs : List UInt8} (h : Rm w g c bs) (hE : Ext w w') : Rm w' g c bs := ⟨h.row.imp fun r h => h.ext hE, h.cap, h.max⟩
theorem Rm.lt {w : World} {g c : Nat} {bs : List UInt8} (h : Rm w g c bs) : g < w.heap.size := h.row.elim fun r h => h.lt
theorem Rm.keep {w w' : World} {g c : Nat} {bs : List UInt8} (h : Rm w g c bs) (hk : w'.heap[g]? = w.heap[g]?) : Rm w' g c bs := ⟨h.row.imp fun r h => by unfold Row; rw [hk]; exact h, h.cap, h.max⟩
theorem Bs.of_cells {w : World} {ad : Addr} {xs : List UInt8} (hl : xs.length ≤ 9223372036854775807) (h : ∀ j, j < xs.length → w.cell? (ad.add j) = some (.int .u8 (n8 (xs.getD j 0)))) : Bs w (some ad) xs.length xs := by
  refine Kd.C_of_reads (h1 := fun _ => rfl) (d := (0 : Int)) ⟨ints_length xs, hl, fun hn => ⟨ad, rfl, fun j hj => ?_⟩⟩
  rw [h j hj]
  simp [ints, List.getD, hj]
theorem Rm.cells {w : World} {g c : Nat} {bs : List UInt8} (h : Rm w g c bs) (j : Nat) (hj : j < bs.length + 3) : w.cell? ⟨g, j, none⟩ = some (.int .u8 (n8 ((bs ++ marks3).getD j 0))) := by
  obtain ⟨rest, hr⟩ := h.row
  have hl : j < (bs ++ marks3).length := by simp [marks3]; omega
  refine hr.cell ?_
  rw [List.getElem?_append_left (by simpa using hl), List.getElem?_map, List.getElem?_eq_getElem hl, List.getD, List.getElem?_eq_getElem hl]
  rfl
theorem Rm.bs {w : World} {g c : Nat} {bs : List UInt8} (h : Rm w g c bs) : Bs w (some ⟨g, 0, none⟩) bs.length bs :=
  Bs.of_cells (by have := h.max; omega) (fun j hj => by
    rw [addr_add, Nat.zero_add, h.cells j (by omega), List.getD, List.getD, List.getElem?_append_left hj])
theorem Rm.rs {w : World} {g c : Nat} {bs : List UInt8} (h : Rm w g c bs) : Rs w (some ⟨g, 0, none⟩) c (ints bs) := ⟨by rw [ints_length]; exact h.bs, by rw [ints_length]; have := h.cap; omega⟩
theorem Rs.bs {w : World} {A : Option Addr} {c : Nat} {bs : List UInt8} (h : Rs w A c (ints bs)) : Bs w A bs.length bs := by have := h.rd; rw [ints_length] at this; exact this
set_option maxHeartbeats 2000000 in
set_option maxRecDepth 100000 in
theorem roomy_calls (w : World) (A : Option Addr) (c : Nat) (bs : List UInt8) (hx : Bs w A bs.length bs) (hc : bs.length ≤ c) (hl : bs.length ≤ 1000000000000) :
    Calls Tryd.prog 13 #[.slice A bs.length c] w (fun e w' => ∃ g c', e = .returned (.slice (some ⟨g, 0, none⟩) bs.length c') ∧ w.heap.size ≤ g ∧ Ext w w' ∧ Rm w' g c' bs) := by
  have HX := Aside0.mk hx
  clear hx
  go_enter Tryd.func13, Tryd.ntmps13
  go_wp2_with (with_reducible refine gate_dst (N := 5) rfl ?_; refine Aside0.out ?_)
  refine Aside0.mk ?_
  refine ob_row (w := w) rfl _ _ (.slice (some ⟨w.heap.size, 0, none⟩) 0 0) [] bs A c rfl rfl rfl (Ob.made w) (HX.out.ext ((Ext.refl w).alloc _)) ((Ext.refl w).alloc _) (by simp; omega) ?_
  intro v1 w1 hO1 hE1
  have HO1 := Aside0.mk (show Ob w.heap.size w1 v1 bs from hO1)
  have HE1 := Aside0.mk hE1
  clear hO1 hE1
  go_wp2_with (with_reducible refine gate_dst (N := 7) rfl ?_; refine Aside0.out ?_)
  refine Aside0.mk ?_
  have hEm : Ext w1 (w1.alloc (.cells #[.int .u8 77, .int .u8 78, .int .u8 79] 5)) := (Ext.refl _).alloc _
  refine ob_row (w := w) rfl _ _ v1 bs [77, 78, 79] (some ⟨w1.heap.size, 0, none⟩) 3 rfl rfl rfl (HO1.out.ext hEm) (Bs.row (Row.alloc w1 ([77, 78, 79].map cell) 5) rfl (by simp)) (HE1.out.trans hEm) (by simp; omega) ?_
  intro v2 w2 hO2 hE2
  obtain ⟨A2, c2, rfl, hc2, hb2⟩ := hO2.open
  have hA : ∃ g, A2 = some ⟨g, 0, none⟩ ∧ w.heap.size ≤ g ∧ ∃ rest : List Value, Row w2 g ((bs ++ marks3).map cell ++ rest) 5 := by
    rcases hO2.2 with ⟨he, h0⟩ | ⟨g, cap, cur, he, hg, hh, hnc, _, hcs, ht⟩
    · rw [ints_length] at h0; simp at h0
    · injection he with ha _ _
      refine ⟨g, ha, hg, cur.toList.drop ((ints (bs ++ [77, 78, 79])).length * 1), ?_⟩
      rw [nums_cells] at ht
      unfold Row
      rw [show (bs ++ marks3).map cell = cur.toList.take ((ints (bs ++ [77, 78, 79])).length * 1) from ht.symm, List.take_append_drop]
      exact hh
  obtain ⟨g, rfl, hg, HCU⟩ := hA
  have hl2 : (bs ++ [77, 78, 79]).length = bs.length + 3 := by simp
  rw [hl2] at hc2 hb2 ⊢
  have HB2 := Aside0.mk (show Rm w2 g c2 bs from ⟨HCU, hc2, hl⟩)
  have HE2 := Aside0.mk hE2
  obtain ⟨i5, hi5, _, hsz, _⟩ := Go.Proofs.YthiedcebneejjaaDoor.i5
  have hcut := cut_to (P := Tryd.prog) 22 5 .i64 Tryd.underlying22 hi5 (some ⟨g, 0, none⟩) (bs.length + 3) c2 (bs.length : Int) (by omega) (by omega) hc2
  rw [Int.toNat_natCast] at hcut
  clear hO2 hE2 hb2 hEm hl2
  go_wp2_with fail
  go_ret
  exact ⟨g, c2, rfl, hg, HE2.out, HB2.out⟩
theorem same_calls (w : World) (A B : Option Addr) (c d : Nat) (a b : List Int) (ha : Rs w A c a) (hb : Rs w B d b) : Calls Tryd.prog 15 #[.slice A a.length c, .slice B b.length d] w (fun e w' => e = .returned (.bool (cmp a b == 0)) ∧ Ext w w') := by
  obtain ⟨k, hk⟩ := rsame_ev a b ha.max
  exact (R.cairnref01_Same.calls k A c a B d b _ w ha.rd ha.cap hb.rd hb.cap (hk k (Nat.le_refl _))).mono fun e w' h => ⟨h.1, drawn_ext h.2⟩
set_option maxHeartbeats 2000000 in
set_option maxRecDepth 100000 in
theorem whole_calls (w : World) (g c : Nat) (bs : List UInt8) (A1 : Option Addr) (c1 : Nat) (hx : Rm w g c bs) (hy : Rs w A1 c1 (ints bs)) :
    Calls Tryd.prog 25 #[.slice (some ⟨g, 0, none⟩) bs.length c, .slice A1 bs.length c1] w (fun e w' => e = .returned (.bool true) ∧ Ext w w') := by
  have hcap := hx.cap
  have hmax := hx.max
  have HX := Aside0.mk hx
  have HY := Aside0.mk hy
  obtain ⟨i5, hi5, _, hsz, _⟩ := Go.Proofs.YthiedcebneejjaaDoor.i5
  have hcut := cut_cap 22 5 .i64 Tryd.underlying22 hi5 (some ⟨g, 0, none⟩) bs.length c ((bs.length : Int) + 3) (by omega) (by omega)
  rw [show ((bs.length : Int) + 3).toNat = bs.length + 3 by omega] at hcut
  have HCUT := Aside0.mk hcut
  clear hx hy hcut hi5 hsz
  go_enter Tryd.func25, Tryd.ntmps25
  go_wp2_with fail
  have hs := same_calls w (some ⟨g, 0, none⟩) A1 c c1 (ints bs) (ints bs) HX.out.rs HY.out
  rw [ints_length, cmp_self] at hs
  refine hs.mono ?_
  rintro e w1 ⟨rfl, hE1⟩
  have HE1 := Aside0.mk hE1
  have h0 := (HX.out.ext hE1).cells bs.length (by omega)
  have h1 := (HX.out.ext hE1).cells (bs.length + 1) (by omega)
  have h2 := (HX.out.ext hE1).cells (bs.length + 2) (by omega)
  rw [show (bs ++ marks3).getD bs.length 0 = 77 by simp [marks3, List.getD]] at h0
  rw [show (bs ++ marks3).getD (bs.length + 1) 0 = 78 by simp [marks3, List.getD]] at h1
  rw [show (bs ++ marks3).getD (bs.length + 2) 0 = 79 by simp [marks3, List.getD]] at h2
  have k0 : w1.cell? ⟨g, bs.length, none⟩ = some (.int .u8 77) := h0
  have k1 : w1.cell? ⟨g, bs.length + 1, none⟩ = some (.int .u8 78) := h1
  have k2 : w1.cell? ⟨g, bs.length + 2, none⟩ = some (.int .u8 79) := h2
  have b5 : (0 : Int) ≤ bs.length ∧ (bs.length : Int) ≤ 1000000000000 := by omega
  have hcu := HCUT.out
  clear hs hE1 h0 h1 h2
  go_wp2
  go_ret
  exact ⟨rfl, HE1.out⟩
def tn (bs : List UInt8) : List UInt8 := bs.map (· ^^^ 1)
def tnk (bs : List UInt8) (j : Nat) : List UInt8 := tn (bs.take j) ++ bs.drop j
theorem tnk_at (bs : List UInt8) (j : Nat) (h : j < bs.length) : (tnk bs j)[j]? = some (bs.getD j 0) := by
  have hl : (tn (bs.take j)).length = j := by simp [tn]; omega
  rw [tnk, List.getElem?_append_right (by omega), hl, Nat.sub_self, List.getElem?_drop, Nat.add_zero]
  simp [List.getD, h]
theorem tnk_set (bs : List UInt8) (j : Nat) (h : j < bs.length) : (tnk bs j).set j (bs.getD j 0 ^^^ 1) = tnk bs (j + 1) := by
  have hl : (tn (bs.take j)).length = j := by simp [tn]; omega
  rw [tnk, tnk, List.set_append_right _ _ (by omega), hl, Nat.sub_self, List.drop_eq_getElem_cons h, List.set_cons_zero, List.take_succ_eq_append_getElem h, tn, tn, List.map_append, List.append_assoc, List.getD, List.getElem?_eq_getElem h]
  rfl
theorem tnk_length (bs : List UInt8) (j : Nat) : (tnk bs j).length = bs.length := by simp [tnk, tn]; omega
theorem x01 (x : UInt8) : bits .xor .u8 (n8 x) (1 : Int) = n8 (x ^^^ 1) := bits_u8_xor x 1
set_option maxHeartbeats 2000000 in
set_option maxRecDepth 100000 in
theorem turn_calls (w : World) (g c : Nat) (bs : List UInt8) (hx : Rm w g c bs) :
    Calls Tryd.prog 26 #[.slice (some ⟨g, 0, none⟩) bs.length c] w (fun e w' => e = .returned (.tuple #[]) ∧ Only w g w' ∧ Rm w' g c (tn bs)) := by
  have hcap := hx.cap
  have hmax := hx.max
  obtain ⟨rest, hrow⟩ := hx.row
  have HC := Aside0.mk hrow
  have HX := Aside0.mk hx
  clear hx hrow
  go_enter Tryd.func26, Tryd.ntmps26
  go_wp2_with fail
  go_loopw [2] (fun i wr => ∃ (k : Nat), k ≤ bs.length ∧ i = .int .i64 k ∧ Only w g wr ∧ Row wr g ((tnk bs k).map cell ++ (marks3.map cell ++ rest)) 5) (fun i _ => bs.length - (intOf i).toNat)
  case atStart => exact ⟨0, by omega, rfl, Only.refl _ _, by have h := HC.out; rw [List.map_append, List.append_assoc] at h; simpa [tnk, tn] using h⟩
  case round =>
    obtain ⟨k, hk, rfl, hO, hR⟩ := hrel
    have HO := Aside0.mk hO
    have HR := Aside0.mk hR
    by_cases hlt : k < bs.length
    · obtain ⟨x, hx⟩ : ∃ x, x = bs.getD k 0 := ⟨_, rfl⟩
      have hkl : k < ((tnk bs k).map cell).length := by rw [List.length_map, tnk_length]; exact hlt
      have c0 := hR.cell (show ((tnk bs k).map cell ++ (marks3.map cell ++ rest))[k]? = some (.int .u8 (n8 x)) by
        rw [List.getElem?_append_left hkl, List.getElem?_map, tnk_at bs k hlt, ← hx]; rfl)
      have cf := hR.free k
      have hxx := x01 x
      have b4 : (0 : Int) ≤ k ∧ (k : Int) < bs.length ∧ (k : Int) < 9223372036854775807 := by omega
      have HXX := Aside0.mk hx
      have HKL := Aside0.mk hkl
      clear hO hR hx hkl
      go_wp2
      go_roundw
      case rel =>
        refine ⟨k + 1, by omega, by simp, HO.out.set k _, ?_⟩
        have h := HR.out.set k (.int .u8 (n8 (x ^^^ 1)))
        rw [List.set_append_left _ _ HKL.out] at h
        rw [← tnk_set bs k hlt, List.map_set, ← HXX.out]
        exact h
      case measure => simp [intOf]; omega
    · obtain rfl : k = bs.length := by omega
      clear hO hR
      go_wp2
      go_end0
      exact ⟨rfl, HO.out, ⟨rest, by have h := HR.out; simp only [tnk, List.take_length, List.drop_length, List.append_nil] at h; rw [List.map_append, List.append_assoc]; exact h⟩, by simpa [tn] using hcap, by simpa [tn] using hmax⟩
end Go.Proofs.YthiedcebneejjaaDoor.Ord
