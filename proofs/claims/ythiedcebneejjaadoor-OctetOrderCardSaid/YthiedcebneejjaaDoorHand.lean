/- Contracts by hand: octet.Hex, octet.Unhex (they read the package-level table of digits). In the printed contracts' form. -/
import Derived.Test.YthiedcebneejjaaDoorAx1
import Derived.Deep.MidRow
import Derived.Lib.Hide
set_option linter.unusedVariables false
set_option linter.unusedSimpArgs false
namespace Go.Proofs.YthiedcebneejjaaDoor.Hand
open Go.RowKit Go.Proofs.YthiedcebneejjaaDoorW.PrintWords Go.Proofs.YthiedcebneejjaaDoorW.PrintLast Go.Proofs.YthiedcebneejjaaDoorW.PrintMore
open Go.Proofs.YthiedcebneejjaaDoor.A

/-- a digit's byte -/
def digC (n : Int) : Int := if n < 10 then 48 + n else 87 + n
/-- The table of digits lies where the program keeps it. -/
structure Glob (w : World) : Prop where
  at_ : w.rangeAt 0 0 ((List.range 16).map fun i : Nat => Value.int .u8 (digC (i : Int)))
theorem Glob.cell {w : World} (h : Glob w) (i : Int) (h0 : 0 ≤ i) (h1 : i < 16) : w.cell? ⟨0, i.toNat, none⟩ = some (.int .u8 (digC i)) := by
  have := h.at_ i.toNat (.int .u8 (digC i)) (by
    have hl : i.toNat < 16 := by omega
    simp [hl, Int.toNat_of_nonneg h0])
  simpa using this
theorem Glob.lt {w : World} (h : Glob w) : 0 < w.heap.size := by
  have := World.block_lt_of_cell? w _ (h.cell 0 (by omega) (by omega))
  simpa using this
theorem Glob.of_below {w w' : World} (h : Glob w) (hb : Below w.heap.size w w') : Glob w' := ⟨fun j v hv => by
  have h1 := h.at_ j v hv
  rw [hb.cell (p := ⟨0, 0 + j, none⟩) h.lt]; exact h1⟩

/-- an element of an array of one-cell elements, by value -/
theorem run_index_row {P : Program} (t e : TypeId) (n : Nat) (d : TypeDesc) (ht : P.underlying t = some (.array n e)) (he : P.underlying e = some d) (hd : d.isRow = false) (hsz : ∀ w, (sizeOf e).run P w = .ok 1 w)
    (cs : Array Value) (i : Nat) (v : Value) (hi : i < n) (hv : cs[i]? = some v) (w : World) : (Instr.index t (.agg cs) (.int .i64 i)).run P w = .ok v w := by
  have hag : ∀ w, (isAgg e).run P w = .ok false w := fun w => by
    unfold isAgg
    rw [Sem.run_bind, run_underlying he w]
    cases d <;> simp_all
  simp [Instr.index, asIntOf, Sem.run_bind, run_underlying ht, hi, part, hag, hsz, hv]
def digL : List Value := (List.range 16).map fun i : Nat => Value.int .u8 (digC (i : Int))
theorem digL_at (i : Nat) (h : i < 16) : digL.toArray[i]? = some (.int .u8 (digC (i : Int))) := by simp [digL, h]

def octet_Hex.f (k : Nat) (l0 : List Int) : Option ByteArray := (octet_Nibbles.f k l0).bind fun ns => if (∀ n ∈ ns, 0 ≤ n ∧ n < 16) ∧ ns.length ≤ 70368744177664 then some (strOfNums (ns.map digC)) else none
theorem octet_Hex.mono : ∀ a0 k, LeO (octet_Hex.f k a0) (octet_Hex.f (k + 1) a0) := fun a0 k => by
  unfold octet_Hex.f
  exact LeO.bind (octet_Nibbles.mono _ _) fun _ => LeO.refl _

theorem nums_snoc (k : IntKind) (xs : List Int) (y : Int) : nums k xs ++ [Value.int k y] = nums k (xs ++ [y]) := by simp [nums]
theorem take_map_snoc (ns : List Int) (f : Int → Int) (j : Nat) (h : j < ns.length) : (ns.take j).map f ++ [f (ns.getD j 0)] = (ns.take (j + 1)).map f := by
  rw [List.take_succ_eq_append_getElem h, List.map_append]
  simp [List.getD, h]

set_option maxHeartbeats 1000000 in
set_option maxRecDepth 100000 in
theorem octet_Hex.calls (k : Nat) (A0 : Option Addr) (c0 : Nat) (l0 : List Int) (r : ByteArray) (w : World) (hr0 : Kd.C (Kd.int .u8) w A0 l0.length l0) (hc0 : l0.length ≤ c0) (hG : Glob w) (h : octet_Hex.f k l0 = some r) :
    Calls Tryd.prog 11 #[.slice A0 l0.length c0] w fun e w' => e = .returned (.string r) ∧ Below w.heap.size w w' := by
  obtain ⟨ns, hns, hr⟩ := Option.bind_eq_some_iff.1 h
  have HN := Aside0.mk hns
  clear h hns
  by_cases hc : (∀ n ∈ ns, 0 ≤ n ∧ n < 16) ∧ ns.length ≤ 70368744177664
  case neg => rw [if_neg hc] at hr; cases hr
  rw [if_pos hc] at hr
  obtain rfl := Option.some.inj hr
  have HC := Aside0.mk hc
  have HR0 := Aside0.mk hr0
  have HC0 := Aside0.mk hc0
  have HG := Aside0.mk hG
  have hlen := hc.2
  clear hc hr hr0 hc0 hG
  go_enter Tryd.func11, Tryd.ntmps11
  go_wp2_with fail
  refine (octet_Nibbles.calls k _ _ l0 ns _ HR0.out HC0.out HN.out).mono ?_
  rintro e w1 ⟨v0, rfl, hR, hB⟩
  obtain ⟨A1, c1, rfl, hn1, hR1⟩ := Kd.R_reads hR
  have HR1 := Aside0.mk hR1
  have HB := Aside0.mk hB
  have HG1 := Aside0.mk (HG.out.of_below hB)
  clear hR hR1 hB
  go_wp2
  go_loopw [3, 5, 9] (fun v _ i wr => ∃ (j : Nat) (vv : Value), j ≤ ns.length ∧ vv = v ∧ i = .int .i64 j ∧ wr.ownsRow w1.heap.size 5 1 vv ((ns.take j).map digC).length (nums .u8 ((ns.take j).map digC)) ∧ Below w1.heap.size w1 wr)
    (fun _ _ i _ => ns.length - (intOf i).toNat)
  case atStart => exact ⟨0, _, by omega, rfl, rfl, own_nil _ _ _ _, Below.refl _ _⟩
  case round =>
    obtain ⟨j, vv, hj, rfl, rfl, hO, hBr⟩ := hrel
    have HO := Aside0.mk hO
    have HBr := Aside0.mk hBr
    clear hO hBr
    by_cases hlt : j < ns.length
    · have hrd := HC.out.1 (rd ns j) (by unfold rd; simp [List.getD, hlt])
      obtain ⟨ad, hA, hx⟩ := Kd.at_int (Kd.C_below HR1.out HBr.out) (j : Int) (by omega) (by exact_mod_cast hlt)
      subst hA
      obtain ⟨x, hx0⟩ : ∃ x, x = rd ns j := ⟨_, rfl⟩
      rw [← hx0] at hx hrd
      rw [Int.toNat_natCast] at hx
      have hgc := (HG1.out.of_below HBr.out).cell x hrd.1 hrd.2
      obtain ⟨hrd0, hrd1⟩ := hrd
      have HX0 := Aside0.mk hx0
      clear hx0
      go_wp2_with (at_builtin; refine print_append_num w1.heap.size rfl _ _ 22 5 .u8 1 rfl Tryd.underlying22 info5 (by omega) vv _ (digC x) rfl rfl HO.out HBr.out (below_size HBr.out) ?hl ?_; (case hl => simp; omega); intro v2 w2 hO2 hB2 hg2 hat2; clear hg2 hat2)
      go_wp2
      go_roundw
      case rel => exact ⟨j + 1, _, by omega, rfl, by go_num, by rw [← take_map_snoc ns digC j hlt]; rw [HX0.out] at hO2; exact hO2, hB2⟩
      case measure => simp [intOf]; omega
    · obtain rfl : j = ns.length := by omega
      have hcv := own_string (P := Tryd.prog) (src := 22) (dst := 9) Tryd.underlying22 Tryd.underlying5 Tryd.underlying9 HO.out
      rw [List.take_of_length_le (Nat.le_refl _)] at hcv
      go_wp2
      go_ret
      exact ⟨rfl, below_step HB.out HBr.out⟩

/-- what the inner loop has found among the first m digits -/
def hexUpto (c : Int) : Nat → Int
  | 0 => -1
  | m + 1 => if digC m = c then (m : Int) else hexUpto c m
/-- a byte's number as a digit, -1 if it is none -/
def hexd (c : Int) : Int := if 48 ≤ c ∧ c ≤ 57 then c - 48 else if 97 ≤ c ∧ c ≤ 102 then c - 87 else -1
theorem hexUpto_16 (c : Int) : hexUpto c 16 = hexd c := by
  unfold hexd
  simp only [hexUpto, digC]
  repeat' split
  all_goals omega
theorem hexd_lt (c : Int) : hexd c < 16 := by unfold hexd; repeat' split; all_goals omega
theorem bytesOf_getD (s : ByteArray) (j : Nat) (h : j < s.size) : (bytesOf s).getD j 0 = ((s[j]).toNat : Int) := by
  have hl : j < (bytesOf s).length := by rw [bytesOf_length]; exact h
  rw [List.getD, List.getElem?_eq_getElem hl]
  simp [bytesOf]
  rfl
theorem bytesOf_take_snoc (s : ByteArray) (j : Nat) (h : j < s.size) : (bytesOf s).take (j + 1) = (bytesOf s).take j ++ [((s[j]).toNat : Int)] := by
  have hl : j < (bytesOf s).length := by rw [bytesOf_length]; exact h
  rw [List.take_succ_eq_append_getElem hl, ← bytesOf_getD s j h, List.getD, List.getElem?_eq_getElem hl]; rfl
def octet_Unhex.f (k : Nat) (s : ByteArray) : Option (List Int × Int) :=
  if s.size ≤ 70368744177664 then
    if ∀ c ∈ bytesOf s, 0 ≤ hexd c then (octet_Bytes.f k ((bytesOf s).map hexd)).bind fun r => if r.2 = 0 then some (r.1, 0) else some ([], 10)
    else some ([], 10)
  else none
theorem octet_Unhex.mono : ∀ a0 k, LeO (octet_Unhex.f k a0) (octet_Unhex.f (k + 1) a0) := fun a0 k => by
  unfold octet_Unhex.f
  refine LeO.ite (LeO.ite (LeO.bind (octet_Bytes.mono _ _) fun _ => LeO.refl _) (LeO.refl _)) (LeO.refl _)

set_option maxHeartbeats 1000000 in
set_option maxRecDepth 100000 in
theorem octet_Unhex.calls (k : Nat) (a0 : ByteArray) (r1 : List Int) (r2 : Int) (w : World) (hG : Glob w) (h : octet_Unhex.f k a0 = some (r1, r2)) :
    Calls Tryd.prog 8 #[.string a0] w fun e w' => ∃ v0_ : Value, e = .returned (.tuple #[v0_, .int .i64 r2]) ∧ Kd.R (Kd.int .u8) 5 w' w.heap.size (fun _ => True) v0_ r1 ∧ Below w.heap.size w w' := by
  unfold octet_Unhex.f at h
  by_cases hsz : a0.size ≤ 70368744177664
  case neg => rw [if_neg hsz] at h; cases h
  rw [if_pos hsz] at h
  have H := Aside0.mk h
  have HG := Aside0.mk hG
  clear h hG
  go_enter Tryd.func8, Tryd.ntmps8
  go_wp2
  go_loopw [4, 5, 6, 7, 8, 13] (fun v _ _ _ _ i wr => ∃ (j : Nat) (vv : Value), j ≤ a0.size ∧ vv = v ∧ i = .int .i64 j ∧ (∀ c ∈ (bytesOf a0).take j, 0 ≤ hexd c) ∧ wr.ownsRow w.heap.size 5 1 vv (((bytesOf a0).take j).map hexd).length (nums .u8 (((bytesOf a0).take j).map hexd)) ∧ Below w.heap.size w wr)
    (fun _ _ _ _ _ i _ => a0.size - (intOf i).toNat)
  case atStart => exact ⟨0, _, by omega, rfl, rfl, by simp, own_nil _ _ _ _, Below.refl _ _⟩
  case round =>
    obtain ⟨j, vv, hj, rfl, rfl, hall, hO, hBr⟩ := hrel
    have HO := Aside0.mk hO
    have HBr := Aside0.mk hBr
    have HA := Aside0.mk hall
    clear hO hBr hall
    by_cases hlt : j < a0.size
    · have HT : Aside0 (wr.rangeAt 0 0 digL) := Aside0.mk (HG.out.of_below HBr.out).at_
      have hi46 : (Tryd.prog.info? 46).map (·.size) = some digL.length := by kernel_rfl
      have HI := Aside0.mk hi46
      clear hi46
      obtain ⟨c, hcv⟩ : ∃ c : Int, c = ((a0[j]).toNat : Int) := ⟨_, rfl⟩
      have HCV := Aside0.mk hcv
      clear hcv
      go_wp2_with (with_reducible refine gate_dst (N := 16) rfl ?_; refine wpList_load_mid rfl 46 _ rfl 0 0 rfl _ _ HT.out Tryd.underlying46 rfl HI.out ?_)
      go_loopw [6, 7, 8, 17] (fun n _ _ q wq => ∃ m : Nat, m ≤ 16 ∧ q = .int .i64 m ∧ n = .int .i64 (hexUpto c m) ∧ wq = wr) (fun _ _ _ q _ => 16 - (intOf q).toNat)
      case atStart => exact ⟨0, by omega, rfl, rfl, rfl⟩
      case round =>
        obtain ⟨m, hm, rfl, rfl, rfl⟩ := hrel
        by_cases hm16 : m < 16
        · have hix := run_index_row (P := Tryd.prog) 46 5 16 _ Tryd.underlying46 Tryd.underlying5 rfl (fun w => by kernel_rfl) digL.toArray m _ hm16 (digL_at m hm16) wr
          by_cases hdc : digC m = c
          · have hb : ((digC m == ((a0[j]).toNat : Int))) = true := by rw [beq_iff_eq, ← HCV.out]; exact hdc
            have HDC := Aside0.mk hdc
            clear hdc
            go_wp2
            go_roundw
            case rel => exact ⟨m + 1, by omega, by go_num, by rw [hexUpto, if_pos HDC.out]; exact ⟨rfl, trivial⟩⟩
            case measure => simp [intOf]; omega
          · have hb : ((digC m == ((a0[j]).toNat : Int))) = false := by rw [beq_eq_false_iff_ne, ← HCV.out]; exact hdc
            have HDC := Aside0.mk hdc
            clear hdc
            go_wp2
            go_roundw
            case rel => exact ⟨m + 1, by omega, by go_num, by rw [hexUpto, if_neg HDC.out]; exact ⟨rfl, trivial⟩⟩
            case measure => simp [intOf]; omega
        · obtain rfl : m = 16 := by omega
          rw [hexUpto_16]
          obtain ⟨x, hx⟩ : ∃ x, x = hexd c := ⟨_, rfl⟩
          have hx16 := hexd_lt c
          rw [← hx] at hx16 ⊢
          have HX := Aside0.mk hx
          clear hx
          by_cases hneg : x < 0
          · go_wp2
            go_ret2
            have h := H.out
            rw [if_neg (fun hall => by
              have := hall c (by rw [HCV.out, ← bytesOf_getD a0 j hlt, List.getD]; rw [List.getElem?_eq_getElem (show j < (bytesOf a0).length by rw [bytesOf_length]; exact hlt)]; exact List.getElem_mem _)
              rw [← HX.out] at this; omega)] at h
            simp only [Option.some.injEq, Prod.mk.injEq] at h
            obtain ⟨rfl, rfl⟩ := h
            exact ⟨_, rfl, Kd.R_nil _ _ _ _ _, HBr.out⟩
          · have hx0 : 0 ≤ x := by omega
            go_wp2_with (at_builtin; refine print_append_num w.heap.size rfl _ _ 22 5 .u8 1 rfl Tryd.underlying22 info5 (by omega) vv _ x rfl rfl HO.out HBr.out (below_size HBr.out) ?hl ?_; (case hl => simp [bytesOf_length]; omega); intro v2 w2 hO2 hB2 hg2 hat2; clear hg2 hat2)
            go_wp2
            go_roundw
            case rel =>
              have e1 := bytesOf_take_snoc a0 j hlt
              refine ⟨j + 1, _, by omega, rfl, by go_num, ?_, ?_, hB2⟩
              · intro c' hc'
                rw [e1] at hc'
                rcases List.mem_append.1 hc' with h1 | h1
                · exact HA.out c' h1
                · rw [List.mem_singleton.1 h1, ← HCV.out, ← HX.out]; exact hx0
              · rw [e1, List.map_append, List.map_cons, List.map_nil, ← HCV.out, ← HX.out]; exact hO2
            case measure => simp [intOf]; omega
    · obtain rfl : j = a0.size := by omega
      have et : (bytesOf a0).take a0.size = bytesOf a0 := List.take_of_length_le (by rw [bytesOf_length]; omega)
      have hall := HA.out
      rw [et] at hall
      have h := H.out
      rw [if_pos hall] at h
      obtain ⟨⟨b1, b2⟩, hb, hr⟩ := Option.bind_eq_some_iff.1 h
      have hO := HO.out
      rw [et] at hO
      obtain ⟨L, hL⟩ : ∃ L, L = (bytesOf a0).map hexd := ⟨_, rfl⟩
      rw [← hL] at hO hb
      clear hL
      obtain ⟨A1, c1, ev, hle, hrd⟩ := own_reads_of_le (enc := Value.int .u8) (d := (0 : Int)) (xs := L) hO
      subst ev
      have HBB := Aside0.mk hb
      have HRR := Aside0.mk hr
      have HCC := Aside0.mk (Kd.C_of_reads (h1 := fun _ => rfl) hrd)
      have HLE := Aside0.mk hle
      clear h hb hr hO hrd hle hall et
      go_wp2_with fail
      refine (octet_Bytes.calls k _ _ _ b1 b2 _ HCC.out HLE.out HBB.out).mono ?_
      rintro e w1 ⟨v0, rfl, hR, hB⟩
      have HR := Aside0.mk hR
      have HB := Aside0.mk hB
      clear hR hB
      by_cases h0 : b2 = 0
      · have hb2 : (b2 != 0) = false := by simp [h0]
        have H0 := Aside0.mk h0
        clear h0
        go_wp2
        go_ret2
        have hr := HRR.out
        rw [if_pos H0.out] at hr
        simp only [Option.some.injEq, Prod.mk.injEq] at hr
        obtain ⟨rfl, rfl⟩ := hr
        exact ⟨_, rfl, Kd.R_lower HR.out (below_size HBr.out), below_step HBr.out HB.out⟩
      · have hb2 : (b2 != 0) = true := by simp [h0]
        have H0 := Aside0.mk h0
        clear h0
        go_wp2
        go_ret2
        have hr := HRR.out
        rw [if_neg H0.out] at hr
        simp only [Option.some.injEq, Prod.mk.injEq] at hr
        obtain ⟨rfl, rfl⟩ := hr
        exact ⟨_, rfl, Kd.R_nil _ _ _ _ _, below_step HBr.out HB.out⟩

end Go.Proofs.YthiedcebneejjaaDoor.Hand
