/- The plain laws of octet over lists of numbers: no memory, no Go. -/
import Derived.Test.YthiedcebneejjaaDoorHand
import Derived.Laws.BitsLemmas
set_option linter.unusedVariables false
set_option linter.unusedSimpArgs false
namespace Go.Proofs.YthiedcebneejjaaDoor.Hand
open Go.RowKit Go.Proofs.YthiedcebneejjaaDoorW.PrintWords
open Go.Proofs.YthiedcebneejjaaDoor.A

/-- bytes -/
def BL (l : List Int) : Prop := ∀ x ∈ l, 0 ≤ x ∧ x ≤ 255
def nibs (l : List Int) : List Int := l.flatMap fun x => [x / 16, x % 16]
theorem nibs_nil : nibs [] = [] := rfl
theorem nibs_cons (x : Int) (l : List Int) : nibs (x :: l) = x / 16 :: x % 16 :: nibs l := rfl
theorem nibs_length (l : List Int) : (nibs l).length = 2 * l.length := by
  induction l with
  | nil => rfl
  | cons x l ih => rw [nibs_cons, List.length_cons, List.length_cons, ih, List.length_cons]; omega
theorem wrap64_nat (n : Nat) (h : n ≤ 4294967296) : wrap64 (n : Int) = n := by unfold wrap64; omega
theorem wrap64_in (x : Int) (h0 : -4294967296 ≤ x) (h1 : x ≤ 4294967296) : wrap64 x = x := by unfold wrap64; omega
theorem rd_nat (l : List Int) (i : Nat) (h : i < l.length) : rd l (i : Int) = l[i] := by simp [rd, List.getD, h]
theorem drop_cons (l : List Int) (i : Nat) (h : i < l.length) : l.drop i = l[i] :: l.drop (i + 1) := List.drop_eq_getElem_cons h

theorem nib_loop (l : List Int) (hb : BL l) (hl : l.length ≤ 1073741824) : ∀ (d i : Nat) (acc : List Int), i + d = l.length → acc.length = 2 * i →
    Ev (fun k => octet_Nibbles.l0 k acc l l.length i) (acc ++ nibs (l.drop i)) := by
  intro d
  induction d with
  | zero =>
    intro i acc hi ha
    refine Ev.step (f := fun _ => some (acc ++ nibs (l.drop i))) (fun k => ?_) (Ev.now _)
    simp only [octet_Nibbles.l0]
    rw [if_neg (by omega), List.drop_of_length_le (by omega), nibs_nil, List.append_nil]
  | succ d ih =>
    intro i acc hi ha
    have hlt : i < l.length := by omega
    have h1 := ih (i + 1) (acc ++ [l[i] / 16, l[i] % 16]) (by omega) (by simp; omega)
    rw [List.append_assoc] at h1
    rw [drop_cons l i hlt, nibs_cons]
    refine Ev.step (fun k => ?_) h1
    have hx := hb l[i] (List.getElem_mem _)
    simp only [octet_Nibbles.l0, Option.bind_some]
    rw [if_pos (by omega), if_pos (by omega), if_pos (by omega), rd_nat l i hlt, u8_and15 _ hx.1 (by omega), if_pos (by simp; omega), wrap64_in _ (by omega) (by omega)]
    rfl
theorem nib_ev (l : List Int) (hb : BL l) (hl : l.length ≤ 1073741824) : Ev (fun k => octet_Nibbles.f k l) (nibs l) := by
  have h := nib_loop l hb hl l.length 0 [] (by omega) rfl
  refine Ev.congr (fun k => ?_) h
  unfold octet_Nibbles.f
  rw [wrap64_in _ (by omega) (by omega), if_pos (by omega), if_pos (by omega)]
  rfl

/-! ### Bytes -/
def pairs : List Int → List Int
  | a :: b :: r => (16 * a + b) :: pairs r
  | _ => []
theorem pairs_nibs (l : List Int) : pairs (nibs l) = l := by
  induction l with
  | nil => rfl
  | cons x l ih => rw [nibs_cons, pairs, ih]; congr 1; omega
def NL (l : List Int) : Prop := ∀ x ∈ l, 0 ≤ x ∧ x ≤ 15
theorem nibs_NL (l : List Int) (h : BL l) : NL (nibs l) := by
  induction l with
  | nil => intro x hx; cases hx
  | cons y l ih =>
    intro x hx
    have hy := h y (List.mem_cons_self ..)
    rw [nibs_cons] at hx
    rcases List.mem_cons.1 hx with rfl | hx
    · omega
    · rcases List.mem_cons.1 hx with rfl | hx
      · omega
      · exact ih (fun z hz => h z (List.mem_cons_of_mem _ hz)) x hx
theorem pairs_length : ∀ (l : List Int), (pairs l).length = l.length / 2
  | [] => rfl
  | [_] => by simp [pairs]
  | a :: b :: r => by rw [pairs, List.length_cons, pairs_length r, List.length_cons, List.length_cons]; omega
theorem pairs_BL : ∀ (l : List Int), NL l → BL (pairs l)
  | [], _ => fun x hx => by cases hx
  | [_], _ => fun x hx => by cases hx
  | a :: b :: r, h => fun x hx => by
    rw [pairs] at hx
    rcases List.mem_cons.1 hx with rfl | hx
    · have h1 := h a (by simp); have h2 := h b (by simp); omega
    · exact pairs_BL r (fun z hz => h z (by simp [hz])) x hx

theorem or_zero_u8 (a : Int) (h0 : 0 ≤ a) (h1 : a ≤ 15) : Go.bits .or .u8 0 a = a := by
  have := bits_join .u8 8 (by decide) wraps_u8 4 0 a (by decide) (by decide) (by decide) h0 (by omega) (by omega)
  rw [this]; omega
theorem or_high_u8 (a b : Int) (h0 : 0 ≤ a) (h1 : a ≤ 15) (h2 : 0 ≤ b) (h3 : b ≤ 15) : Go.bits .or .u8 (a * 16) b = 16 * a + b := by
  have := bits_join .u8 8 (by decide) wraps_u8 4 (a * 16) b (by omega) (by omega) (by omega) h2 (by omega) (by omega)
  rw [this]; omega
theorem set_at (done : List Int) (d : Nat) (x y : Int) (t : List Int) : (done ++ x :: t).set done.length y = done ++ y :: t := by
  rw [List.set_append_right _ _ (Nat.le_refl _), Nat.sub_self, List.set_cons_zero]
theorem rd_at (done : List Int) (x : Int) (t : List Int) (j : Nat) (h : done.length = j) : rd (done ++ x :: t) (j : Int) = x := by
  subst h
  rw [rd_nat _ _ (by simp)]; simp
theorem bytes_loop (l : List Int) (hb : BL l) (hl : l.length ≤ 1073741824) : ∀ (d j : Nat) (done : List Int), done.length = j → 2 * j + 2 * d = l.length →
    Ev (fun k => octet_Bytes.l0 k (done ++ List.replicate d 0) l l.length (2 * j : Nat)) (if ∀ x ∈ l.drop (2 * j), x ≤ 15 then (done ++ pairs (l.drop (2 * j)), 0) else ([], 2)) := by
  intro d
  induction d with
  | zero =>
    intro j done hj hd
    refine Ev.step (f := fun _ => some (done, 0)) (fun k => ?_) ?_
    · simp only [octet_Bytes.l0]
      rw [if_neg (by omega), List.replicate_zero, List.append_nil]
    · rw [List.drop_of_length_le (by omega), if_pos (fun x hx => by cases hx), pairs, List.append_nil]
      · exact Ev.now _
      · intro a b r h; cases h
  | succ d ih =>
    intro j done hj hd
    have h0 : 2 * j < l.length := by omega
    have h1 : 2 * j + 1 < l.length := by omega
    have ha := hb l[2 * j] (List.getElem_mem _)
    have hb' := hb l[2 * j + 1] (List.getElem_mem _)
    have e0 := drop_cons l (2 * j) h0
    have e1 := drop_cons l (2 * j + 1) h1
    have r0 := rd_nat l (2 * j) h0
    have r1 := rd_nat l (2 * j + 1) h1
    generalize l[2 * j] = a at ha e0 r0
    generalize l[2 * j + 1] = b at hb' e1 r1
    rw [e1] at e0
    rw [e0]
    have rep : List.replicate (d + 1) (0 : Int) = 0 :: List.replicate d 0 := rfl
    have sj : ∀ (x y : Int) (t : List Int), (done ++ x :: t).set (j : Int).toNat y = done ++ y :: t := fun x y t => by rw [Int.toNat_natCast, ← hj]; exact set_at done d x y t
    by_cases ca : a ≤ 15
    · -- the first nibble is one
      have st1 : ∀ k, octet_Bytes.l0 (k + 1) (done ++ List.replicate (d + 1) 0) l l.length (2 * j : Nat) = octet_Bytes.l0 k (done ++ a :: List.replicate d 0) l l.length (2 * j + 1 : Nat) := fun k => by
        simp only [octet_Bytes.l0]
        rw [if_pos (by omega), if_pos (by omega), if_pos (by omega), r0, if_neg (by omega)]
        have et : wrap64 (Int.tdiv ((2 * j : Nat) : Int) 2) = (j : Int) := by
          rw [Int.tdiv_eq_ediv_of_nonneg (by omega)]; rw [wrap64_in _ (by omega) (by omega)]; omega
        rw [et, if_pos (by omega), if_pos (by simp; omega), rep, rd_at _ _ _ _ hj, sj, wrap64_in _ (by omega) (by omega)]
        rw [show (0 : Int) * 16 % 256 = 0 by decide, or_zero_u8 _ ha.1 ca]
        rfl
      by_cases cb : b ≤ 15
      · have st2 : ∀ k, octet_Bytes.l0 (k + 1) (done ++ a :: List.replicate d 0) l l.length (2 * j + 1 : Nat) = octet_Bytes.l0 k ((done ++ [16 * a + b]) ++ List.replicate d 0) l l.length (2 * (j + 1) : Nat) := fun k => by
          simp only [octet_Bytes.l0]
          rw [if_pos (by omega), if_pos (by omega), if_pos (by omega), r1, if_neg (by omega)]
          have et : wrap64 (Int.tdiv ((2 * j + 1 : Nat) : Int) 2) = (j : Int) := by
            rw [Int.tdiv_eq_ediv_of_nonneg (by omega)]; rw [wrap64_in _ (by omega) (by omega)]; omega
          rw [et, if_pos (by omega), if_pos (by simp; omega), rd_at _ _ _ _ hj, sj, wrap64_in _ (by omega) (by omega)]
          rw [show a * 16 % 256 = a * 16 by omega, or_high_u8 _ _ ha.1 ca hb'.1 cb]
          rw [List.append_assoc]
          rfl
        have h2 := ih (j + 1) (done ++ [16 * a + b]) (by simp; omega) (by omega)
        refine Ev.step st1 (Ev.step st2 ?_)
        rw [pairs]
        rw [show l.drop (2 * (j + 1)) = l.drop (2 * j + 1 + 1) from rfl, List.append_assoc done [16 * a + b] (pairs _)] at h2
        by_cases call : ∀ x ∈ l.drop (2 * j + 1 + 1), x ≤ 15
        · rw [if_pos call] at h2
          rw [if_pos (by intro x hx; rcases List.mem_cons.1 hx with rfl | hx; exact ca; rcases List.mem_cons.1 hx with rfl | hx; exact cb; exact call x hx)]
          exact h2
        · rw [if_neg call] at h2
          rw [if_neg (fun h => call fun x hx => h x (List.mem_cons_of_mem _ (List.mem_cons_of_mem _ hx)))]
          exact h2
      · refine Ev.step st1 (Ev.step (f := fun _ => some ([], 2)) (fun k => ?_) ?_)
        · simp only [octet_Bytes.l0]
          rw [if_pos (by omega), if_pos (by omega), if_pos (by omega), r1, if_pos (by omega)]
        · rw [if_neg (fun h => cb (h _ (List.mem_cons_of_mem _ (List.mem_cons_self ..))))]
          exact Ev.now _
    · refine Ev.step (f := fun _ => some ([], 2)) (fun k => ?_) ?_
      · simp only [octet_Bytes.l0]
        rw [if_pos (by omega), if_pos (by omega), if_pos (by omega), r0, if_pos (by omega)]
      · rw [if_neg (fun h => ca (h _ (List.mem_cons_self ..)))]
        exact Ev.now _
def bytesSpec (l : List Int) : List Int × Int := if l.length % 2 = 0 ∧ ∀ x ∈ l, x ≤ 15 then (pairs l, 0) else ([], 2)
theorem bytes_ev (l : List Int) (hb : BL l) (hl : l.length ≤ 1073741824) : Ev (fun k => octet_Bytes.f k l) (bytesSpec l) := by
  unfold bytesSpec
  by_cases h2 : l.length % 2 = 0
  · have h := bytes_loop l hb hl (l.length / 2) 0 [] rfl (by omega)
    have e : (if l.length % 2 = 0 ∧ ∀ x ∈ l, x ≤ 15 then (pairs l, (0 : Int)) else ([], 2)) = (if ∀ x ∈ l.drop (2 * 0), x ≤ 15 then ([] ++ pairs (l.drop (2 * 0)), 0) else ([], 2)) := by
      simp [h2]
    rw [e]
    refine Ev.congr (fun k => ?_) h
    unfold octet_Bytes.f
    rw [if_pos (by omega), wrap64_in _ (by omega) (by omega), if_pos (by omega), if_pos (by omega)]
    rw [show ((l.length : Int) / 2).toNat = l.length / 2 by omega]
    rfl
  · rw [if_neg (fun h => h2 h.1)]
    refine Ev.congr (fun k => ?_) (Ev.now _)
    unfold octet_Bytes.f
    rw [if_neg (by omega)]
/-! ### the order -/
def com : List Int → List Int → Nat
  | a :: x, b :: y => if a = b then com x y + 1 else 0
  | _, _ => 0
def cmp : List Int → List Int → Int
  | [], [] => 0
  | [], _ :: _ => -1
  | _ :: _, [] => 1
  | a :: x, b :: y => if a = b then cmp x y else if a < b then -1 else 1
theorem com_le : ∀ (a b : List Int), com a b ≤ a.length ∧ com a b ≤ b.length
  | [], b => by simp [com]
  | _ :: _, [] => by simp [com]
  | a :: x, b :: y => by
    have := com_le x y
    simp only [com, List.length_cons]
    split <;> omega
theorem com_loop (a b : List Int) (ha : a.length ≤ 4294967290) : ∀ (d i : Nat), i + d = a.length → Ev (fun k => octet_Common.l0 k a b i) ((i + com (a.drop i) (b.drop i) : Nat) : Int) := by
  intro d
  induction d with
  | zero =>
    intro i hi
    refine Ev.step (f := fun _ => some (i : Int)) (fun k => ?_) ?_
    · simp only [octet_Common.l0]
      rw [if_neg (by omega)]
    · rw [List.drop_of_length_le (by omega)]; exact Ev.now _
  | succ d ih =>
    intro i hi
    have h0 : i < a.length := by omega
    rw [drop_cons a i h0]
    have r0 := rd_nat a i h0
    by_cases h1 : i < b.length
    · rw [drop_cons b i h1]
      have r1 := rd_nat b i h1
      by_cases he : a[i] = b[i]
      · have h := ih (i + 1) (by omega)
        refine Ev.step (f := fun k => octet_Common.l0 k a b ((i + 1 : Nat) : Int)) (fun k => ?_) ?_
        · simp only [octet_Common.l0]
          rw [if_pos (by omega), if_pos (by omega), if_pos (by omega), r0, r1, if_pos he, wrap64_in _ (by omega) (by omega)]
          rfl
        · rw [com, if_pos he, show i + (com (a.drop (i + 1)) (b.drop (i + 1)) + 1) = i + 1 + com (a.drop (i + 1)) (b.drop (i + 1)) by omega]
          exact h
      · refine Ev.step (f := fun _ => some (i : Int)) (fun k => ?_) ?_
        · simp only [octet_Common.l0]
          rw [if_pos (by omega), if_pos (by omega), if_pos (by omega), r0, r1, if_neg he]
        · rw [com, if_neg he]; exact Ev.now _
    · refine Ev.step (f := fun _ => some (i : Int)) (fun k => ?_) ?_
      · simp only [octet_Common.l0]
        rw [if_pos (by omega), if_neg (by omega)]
      · rw [List.drop_of_length_le (show b.length ≤ i by omega), com]
        · exact Ev.now _
        · intro _ _ _ _ _ h; cases h
theorem common_ev (a b : List Int) (ha : a.length ≤ 4294967290) : Ev (fun k => octet_Common.f k a b) (com a b : Int) := by
  have h := com_loop a b ha a.length 0 (by omega)
  rw [List.drop_zero, List.drop_zero, Nat.zero_add] at h
  exact Ev.congr (fun k => rfl) h
theorem cmp_com : ∀ (a b : List Int), cmp a b = if com a b = a.length then (if com a b = b.length then 0 else -1) else if com a b = b.length then 1 else if a.getD (com a b) 0 < b.getD (com a b) 0 then -1 else 1
  | [], [] => by simp [cmp, com]
  | [], _ :: _ => by simp [cmp, com]
  | _ :: _, [] => by simp [cmp, com]
  | a :: x, b :: y => by
    have ih := cmp_com x y
    by_cases h : a = b
    · rw [show com (a :: x) (b :: y) = com x y + 1 by rw [com, if_pos h], show cmp (a :: x) (b :: y) = cmp x y by rw [cmp, if_pos h], ih]
      simp only [List.length_cons, List.getD_cons_succ, Nat.add_right_cancel_iff]
    · rw [show com (a :: x) (b :: y) = 0 by rw [com, if_neg h], show cmp (a :: x) (b :: y) = if a < b then -1 else 1 by rw [cmp, if_neg h]]
      simp
theorem compare_ev (a b : List Int) (ha : a.length ≤ 4294967290) : Ev (fun k => octet_Compare.f k a b) (cmp a b) := by
  refine Ev.bind (common_ev a b ha) ?_
  obtain ⟨l1, l2⟩ := com_le a b
  rw [cmp_com]
  by_cases h1 : com a b = a.length
  · rw [if_pos h1]
    refine Ev.congr (f := fun k => octet_Compare.j0 k a b (com a b : Int) ((com a b : Int) == (b.length : Int))) (fun k => by rw [if_pos (by omega)]) ?_
    by_cases h2 : com a b = b.length
    · rw [if_pos h2]
      refine Ev.step (f := fun _ => some 0) (fun k => ?_) (Ev.now _)
      simp only [octet_Compare.j0]
      rw [if_pos (by rw [beq_iff_eq]; omega)]
    · rw [if_neg h2]
      refine Ev.step (f := fun _ => some (-1)) (fun k => ?_) (Ev.now _)
      simp only [octet_Compare.j0]
      rw [if_neg (by rw [beq_iff_eq]; omega), if_pos (by omega)]
  · rw [if_neg h1]
    refine Ev.congr (f := fun k => octet_Compare.j0 k a b (com a b : Int) false) (fun k => by rw [if_neg (by omega)]) ?_
    by_cases h2 : com a b = b.length
    · rw [if_pos h2]
      refine Ev.step (f := fun _ => some 1) (fun k => ?_) (Ev.now _)
      simp only [octet_Compare.j0]
      rw [if_neg (by simp), if_neg (by omega), if_neg (by omega)]
    · rw [if_neg h2]
      have ea : rd a (com a b : Int) = a.getD (com a b) 0 := by rw [rd, Int.toNat_natCast]
      have eb : rd b (com a b : Int) = b.getD (com a b) 0 := by rw [rd, Int.toNat_natCast]
      refine Ev.step (f := fun _ => some (if a.getD (com a b) 0 < b.getD (com a b) 0 then -1 else 1)) (fun k => ?_) (Ev.now _)
      simp only [octet_Compare.j0]
      rw [if_neg (by simp), if_neg (by omega), if_pos (by omega), if_pos (by omega), if_pos (by omega)]
      by_cases hq : a.getD (com a b) 0 < b.getD (com a b) 0
      · rw [if_pos (by rw [ea, eb]; exact hq), if_pos hq]
      · rw [if_neg (by rw [ea, eb]; exact hq), if_neg hq]
theorem cmp_self : ∀ (a : List Int), cmp a a = 0
  | [] => rfl
  | a :: x => by rw [cmp, if_pos rfl]; exact cmp_self x
theorem cmp_nibs : ∀ (a b : List Int), BL a → BL b → cmp (nibs a) (nibs b) = cmp a b
  | [], [], _, _ => rfl
  | [], _ :: _, _, _ => rfl
  | _ :: _, [], _, _ => rfl
  | a :: x, b :: y, ha, hb => by
    have h1 := ha a (List.mem_cons_self ..)
    have h2 := hb b (List.mem_cons_self ..)
    have ih := cmp_nibs x y (fun z hz => ha z (List.mem_cons_of_mem _ hz)) (fun z hz => hb z (List.mem_cons_of_mem _ hz))
    rw [nibs_cons, nibs_cons, cmp, cmp, cmp]
    by_cases e : a = b
    · subst e; rw [if_pos rfl, if_pos rfl, if_pos rfl, ih]
    · rw [if_neg e]
      by_cases e1 : a / 16 = b / 16
      · rw [if_pos e1, if_neg (by omega)]
        by_cases hlt : a < b
        · rw [if_pos hlt, if_pos (by omega)]
        · rw [if_neg hlt, if_neg (by omega)]
      · rw [if_neg e1]
        by_cases hlt : a < b
        · rw [if_pos hlt, if_pos (by omega)]
        · rw [if_neg hlt, if_neg (by omega)]

/-! ### texts -/
theorem bytesOf_strOfNums (l : List Int) (h : BL l) : bytesOf (strOfNums l) = l := by
  unfold bytesOf
  rw [strOfNums_data, List.map_map]
  have : ∀ x ∈ l, ((fun b : UInt8 => (b.toNat : Int)) ∘ fun n : Int => UInt8.ofNat n.toNat) x = x := fun x hx => by
    have := h x hx
    simp only [Function.comp_apply, UInt8.toNat_ofNat']
    omega
  rw [List.map_congr_left this, List.map_id']
theorem toList_data (s : ByteArray) : s.toList = s.data.toList := by
  have key : ∀ (d i : Nat) (r : List UInt8), i + d = s.size → ByteArray.toList.loop s i r = r.reverse ++ s.data.toList.drop i := by
    intro d
    induction d with
    | zero =>
      intro i r hi
      rw [ByteArray.toList.loop, if_neg (by omega), List.drop_of_length_le (by rw [Array.length_toList]; show s.size ≤ i; omega), List.append_nil]
    | succ d ih =>
      intro i r hi
      have hlt : i < s.data.toList.length := by rw [Array.length_toList]; show i < s.size; omega
      rw [ByteArray.toList.loop, if_pos (by omega), ih (i + 1) _ (by omega), List.drop_eq_getElem_cons hlt, List.reverse_cons, List.append_assoc]
      have hq : i < s.data.size := by show i < s.size; omega
      have : s.get! i = s.data.toList[i] := by
        show s.data[i]! = _
        rw [getElem!_pos s.data i hq]
        simp
      rw [this]
      rfl
  have := key s.size 0 [] (by omega)
  rw [ByteArray.toList, this]
  rfl
theorem strOfNums_bytesOf (s : ByteArray) : strOfNums (bytesOf s) = s := by
  obtain ⟨⟨l⟩⟩ := s
  unfold strOfNums bytesOf
  rw [List.map_map]
  have : ∀ x ∈ l, ((fun n : Int => UInt8.ofNat n.toNat) ∘ fun b : UInt8 => (b.toNat : Int)) x = x := fun x _ => by simp
  show ByteArray.mk (List.toArray (List.map _ l)) = _
  rw [List.map_congr_left this, List.map_id']
theorem bytesOf_BL (s : ByteArray) : BL (bytesOf s) := fun x hx => by
  obtain ⟨b, _, rfl⟩ := List.mem_map.1 hx
  have := b.toNat_lt
  omega
theorem digC_BL (l : List Int) (h : NL l) : BL (l.map digC) := fun x hx => by
  obtain ⟨n, hn, rfl⟩ := List.mem_map.1 hx
  have := h n hn
  unfold digC
  split <;> omega
theorem hexd_digC (n : Int) (h0 : 0 ≤ n) (h1 : n ≤ 15) : hexd (digC n) = n := by
  unfold hexd digC
  by_cases h : n < 10
  · rw [if_pos h, if_pos (by omega)]; omega
  · rw [if_neg h, if_neg (by omega), if_pos (by omega)]; omega
theorem digC_hexd (c : Int) (h : 0 ≤ hexd c) : digC (hexd c) = c := by
  unfold hexd at h ⊢
  unfold digC
  by_cases h1 : 48 ≤ c ∧ c ≤ 57
  · rw [if_pos h1, if_pos (by omega)]; omega
  · rw [if_neg h1] at h ⊢
    by_cases h2 : 97 ≤ c ∧ c ≤ 102
    · rw [if_pos h2, if_neg (by omega)]; omega
    · rw [if_neg h2] at h; omega
theorem hex_ev (l : List Int) (hb : BL l) (hl : l.length ≤ 1073741824) : Ev (fun k => octet_Hex.f k l) (strOfNums ((nibs l).map digC)) := by
  refine Ev.bind (nib_ev l hb hl) ?_
  refine Ev.congr (fun k => ?_) (Ev.now _)
  rw [if_pos ⟨fun n hn => by have := nibs_NL l hb n hn; omega, by rw [nibs_length]; omega⟩]
def unhexSpec (s : ByteArray) : List Int × Int :=
  if (∀ c ∈ bytesOf s, 0 ≤ hexd c) ∧ s.size % 2 = 0 then (pairs ((bytesOf s).map hexd), 0) else ([], 10)
theorem unhex_ev (s : ByteArray) (hs : s.size ≤ 1073741824) : Ev (fun k => octet_Unhex.f k s) (unhexSpec s) := by
  unfold unhexSpec octet_Unhex.f
  by_cases h : ∀ c ∈ bytesOf s, 0 ≤ hexd c
  · have hN : NL ((bytesOf s).map hexd) := fun x hx => by
      obtain ⟨c, hc, rfl⟩ := List.mem_map.1 hx
      have := h c hc; have := hexd_lt c; omega
    have hb := bytes_ev ((bytesOf s).map hexd) (fun x hx => by have := hN x hx; omega) (by rw [List.length_map, bytesOf_length]; exact hs)
    refine Ev.congr (f := fun k => (octet_Bytes.f k ((bytesOf s).map hexd)).bind fun r => if r.2 = 0 then some (r.1, 0) else some ([], 10)) (fun k => by rw [if_pos (by omega), if_pos h]) ?_
    refine Ev.bind hb ?_
    have e : bytesSpec ((bytesOf s).map hexd) = if s.size % 2 = 0 then (pairs ((bytesOf s).map hexd), 0) else ([], 2) := by
      unfold bytesSpec
      rw [List.length_map, bytesOf_length]
      by_cases h2 : s.size % 2 = 0
      · rw [if_pos ⟨h2, fun x hx => (hN x hx).2⟩, if_pos h2]
      · rw [if_neg (fun hh => h2 hh.1), if_neg h2]
    rw [e]
    by_cases h2 : s.size % 2 = 0
    · rw [if_pos h2]
      refine Ev.congr (f := fun _ => some (pairs ((bytesOf s).map hexd), 0)) (fun k => if_pos rfl) ?_
      rw [if_pos ⟨h, h2⟩]
      exact Ev.now _
    · rw [if_neg h2]
      refine Ev.congr (f := fun _ => some ([], 10)) (fun k => if_neg (by decide)) ?_
      rw [if_neg (fun hh => h2 hh.2)]
      exact Ev.now _
  · refine Ev.congr (f := fun _ => some ([], 10)) (fun k => by rw [if_pos (by omega), if_neg h]) ?_
    rw [if_neg (fun hh => h hh.1)]
    exact Ev.now _
theorem unhex_hex (l : List Int) (hb : BL l) : unhexSpec (strOfNums ((nibs l).map digC)) = (l, 0) := by
  unfold unhexSpec
  have hN := nibs_NL l hb
  rw [bytesOf_strOfNums _ (digC_BL _ hN), strOfNums_size, List.length_map, nibs_length, if_pos ⟨fun c hc => by
    obtain ⟨n, hn, rfl⟩ := List.mem_map.1 hc
    have := hN n hn
    rw [hexd_digC n this.1 this.2]; exact this.1, by omega⟩, List.map_map]
  have : ∀ x ∈ nibs l, (hexd ∘ digC) x = x := fun x hx => hexd_digC x (hN x hx).1 (hN x hx).2
  rw [List.map_congr_left this, List.map_id', pairs_nibs]
theorem nibs_pairs : ∀ (l : List Int), NL l → l.length % 2 = 0 → nibs (pairs l) = l
  | [], _, _ => rfl
  | [_], _, h => by simp at h
  | a :: b :: r, h, h2 => by
    have h1 := h a (by simp)
    have h3 := h b (by simp)
    rw [pairs, nibs_cons, nibs_pairs r (fun z hz => h z (by simp [hz])) (by simp only [List.length_cons] at h2; omega)]
    congr 1
    · omega
    · congr 1; omega
theorem hex_unhex (s : ByteArray) (h : ∀ c ∈ bytesOf s, 0 ≤ hexd c) (h2 : s.size % 2 = 0) : strOfNums ((nibs (pairs ((bytesOf s).map hexd))).map digC) = s := by
  have hN : NL ((bytesOf s).map hexd) := fun x hx => by
    obtain ⟨c, hc, rfl⟩ := List.mem_map.1 hx
    have := h c hc; have := hexd_lt c; omega
  rw [nibs_pairs _ hN (by rw [List.length_map, bytesOf_length]; exact h2), List.map_map]
  have : ∀ x ∈ bytesOf s, (digC ∘ hexd) x = x := fun x hx => digC_hexd x (h x hx)
  rw [List.map_congr_left this, List.map_id', strOfNums_bytesOf]
end Go.Proofs.YthiedcebneejjaaDoor.Hand
