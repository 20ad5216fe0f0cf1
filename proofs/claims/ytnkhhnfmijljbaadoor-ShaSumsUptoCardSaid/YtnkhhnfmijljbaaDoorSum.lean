/- sha.Sum: the digest of parts, one behind the other; the sum of a state that is none. -/
import Derived.Test.YtnkhhnfmijljbaaDoorSumM
set_option linter.unusedVariables false
set_option linter.unusedSimpArgs false
namespace Go.Proofs.YtnkhhnfmijljbaaDoor
open Go.RowKit Go.Proofs.YtnkhhnfmijljbaaDoorW.PrintWords Go.Proofs.YtnkhhnfmijljbaaDoorW.PrintLast Go.Proofs.YtnkhhnfmijljbaaDoorW.PrintMore
open Extern.Stop (cell)

/-- the slice (A, n) holds the slices of bytes ps -/
def Bss (w : World) (A : Option Addr) (n : Nat) (ps : List (List UInt8)) : Prop := (Kd.slice 5 (Kd.int .u8)).C w A n (ps.map ints)
theorem Bss.len {w : World} {A : Option Addr} {n : Nat} {ps : List (List UInt8)} (h : Bss w A n ps) : n = ps.length := by have := Kd.C_len h; rw [List.length_map] at this; exact this.symm
theorem Bss.max {w : World} {A : Option Addr} {n : Nat} {ps : List (List UInt8)} (h : Bss w A n ps) : n ≤ 9223372036854775807 := Kd.C_max h
theorem Bss.below {w w' : World} {A : Option Addr} {n : Nat} {ps : List (List UInt8)} (h : Bss w A n ps) (hb : Below w.heap.size w w') : Bss w' A n ps := Kd.C_below h hb
theorem Bss.at_ {w : World} {A : Option Addr} {n : Nat} {ps : List (List UInt8)} (h : Bss w A n ps) (i : Nat) (hi : i < n) :
    ∃ ad A' c', A = some ad ∧ w.cell? (ad.add i) = some (.slice A' (ps.getD i []).length c') ∧ (ps.getD i []).length ≤ c' ∧ Bs w A' (ps.getD i []).length (ps.getD i []) := by
  obtain ⟨ad, c, hA, _, ⟨A', c', rfl, hc, hC⟩, hcell⟩ := Kd.C_get h ([] : List Int) (i : Int) (by omega) (by exact_mod_cast hi)
  have hl := h.len
  have e : (ps.map ints).getD (i : Int).toNat [] = ints (ps.getD i []) := by
    have hi' : i < ps.length := by omega
    simp [List.getD, hi']
  rw [e, ints_length] at hC hc
  have := hcell 0 _ rfl
  rw [e, ints_length] at this
  refine ⟨ad, A', c', hA, ?_, hc, hC⟩
  rw [← this]
  congr 2
  show i = (i : Int).toNat * 1 + 0
  omega

set_option maxHeartbeats 1000000 in
set_option maxRecDepth 100000 in
theorem shaSum_calls (w : World) (A : Option Addr) (c : Nat) (ps : List (List UInt8)) (hK : KTab w) (hF : FTab w) (hx : Bss w A ps.length ps) (hlen : ps.flatten.length < 500000000000000000) :
    Calls Tryd.prog 16 #[.slice A ps.length c] w (fun e w' => e = .returned (hashV (Spec.digest ps.flatten)) ∧ Below w.heap.size w w') := by
  obtain ⟨B, hBdef⟩ : ∃ B, B = w.heap.size := ⟨_, rfl⟩
  have H4 : 4 < B := by have := hK.1; omega
  have HBD := Aside0.mk hBdef
  have HK := Aside0.mk hK
  have HF := Aside0.mk hF
  have HX := Aside0.mk hx
  have hmax := hx.max
  clear hK hF hx
  go_enter Tryd.func16, Tryd.ntmps16
  go_wp2_with fail
  have hb0 : Below w.heap.size w (w.alloc (.cells (z8 32).toArray 28)) := Below.alloc (Below.refl _ _) (Nat.le_refl _) _
  refine (new_calls _ (HF.out.below hb0 (by omega))).mono ?_
  rintro e w1 ⟨rfl, hB1, hS1, hSt1⟩
  have hz1 : (w.alloc (.cells (z8 32).toArray 28)).heap.size = B + 1 := by simp [hBdef]
  have HB1 := Aside0.mk (show Below B w w1 by rw [hBdef]; exact below_step hb0 hB1)
  have HR1 := Aside0.mk (show Row w1 B (z8 32) 28 by rw [hBdef]; exact (Row.alloc w (z8 32) 28).below hB1 (by simp))
  rw [hz1] at hSt1 ⊢
  have HST1 := Aside0.mk hSt1
  rw [← hBdef]
  clear hb0 hB1 hS1 hSt1 hz1 hBdef
  go_wp2_with fail
  go_loopw [9] (fun i wr => ∃ k : Nat, k ≤ ps.length ∧ i = .int .i64 k ∧ Below B w wr ∧ Row wr B (z8 32) 28 ∧ St wr (B + 1) (ps.take k).flatten (ps.take k).flatten.length)
    (fun i _ => ps.length - (intOf i).toNat)
  case atStart => exact ⟨0, by omega, rfl, HB1.out, HR1.out, HST1.out⟩
  case round =>
    obtain ⟨k, hk, rfl, hB, hR, hS⟩ := hrel
    have hxw := HX.out.below (show Below w.heap.size w wr by rw [← HBD.out]; exact hB)
    have hfl : (ps.take k).flatten.length ≤ ps.flatten.length := by
      conv => rhs; rw [← List.take_append_drop k ps, List.flatten_append, List.length_append]
      omega
    by_cases hlt : k < ps.length
    · obtain ⟨ad, A', c', rfl, hcell, hc', hbs⟩ := hxw.at_ k hlt
      have hnx : (ps.take (k + 1)).flatten = (ps.take k).flatten ++ ps.getD k [] := by
        rw [List.take_succ_eq_append_getElem hlt, List.flatten_append]
        simp [List.getD, hlt]
      have hfl1 : (ps.take (k + 1)).flatten.length ≤ ps.flatten.length := by
        conv => rhs; rw [← List.take_append_drop (k + 1) ps, List.flatten_append, List.length_append]
        omega
      obtain ⟨p, hp⟩ : ∃ p, p = ps.getD k [] := ⟨_, rfl⟩
      rw [← hp] at hcell hc' hbs hnx
      obtain ⟨cs, hcs⟩ : ∃ cs, cs = (ps.take k).flatten := ⟨_, rfl⟩
      rw [← hcs] at hS hnx hfl
      have hlen2 : cs.length + p.length < 4611686018427387904 := by rw [hnx, List.length_append] at hfl1; omega
      have hne : ∀ a, A' = some a → 0 < p.length → a.block ≠ B + 1 := by
        intro a ha hp0
        have hold : Bs w A' p.length p := by
          obtain ⟨ad2, A2, c2, h1, h2, h3, h4⟩ := HX.out.at_ k hlt
          cases h1
          have e := (hB.cell (p := ad.add k) (by
            have := Go.World.block_lt_of_cell? _ _ h2
            rw [HBD.out]; exact this)).symm.trans hcell
          rw [← hp] at h2 h4
          rw [h2] at e
          cases e
          exact h4
        obtain ⟨ad3, h5, h6⟩ := hold.cells hp0
        rw [ha] at h5
        cases h5
        have h7 := Go.World.block_lt_of_cell? _ _ (h6 0 _ (by rw [List.getElem?_map, List.getElem?_eq_getElem hp0]; rfl))
        rw [add_block, ← HBD.out] at h7
        omega
      have HB2 := Aside0.mk hB
      have HR2 := Aside0.mk hR
      have HS2 := Aside0.mk hS
      have HNX := Aside0.mk hnx
      have HBS := Aside0.mk hbs
      have HC := Aside0.mk hc'
      have HNE := Aside0.mk hne
      have HP := Aside0.mk hp
      have HLN := Aside0.mk hlen2
      have HCS := Aside0.mk hcs
      clear hB hR hS hnx hbs hc' hne hfl hfl1 hcs hxw hp
      go_wp2_with fail
      refine (write_calls wr (B + 1) cs A' c' p (HK.out.below HB2.out H4) HS2.out HBS.out HC.out HNE.out hlen2).mono ?_
      rintro e w2 ⟨rfl, hO, hS⟩
      have HB3 := Aside0.mk (below_only HB2.out hO (by omega) (by have := HB2.out.size; have := HBD.out; omega))
      have HR3 := Aside0.mk (hO.row HR2.out (by omega))
      have HS3 := Aside0.mk hS
      clear hO hS
      go_wp2
      go_roundw
      case rel => exact ⟨k + 1, by omega, by simp, HB3.out, HR3.out, by rw [HNX.out]; exact HS3.out⟩
      case measure => simp [intOf]; omega
    · obtain rfl : k = ps.length := by omega
      rw [List.take_of_length_le (Nat.le_refl _)] at hS
      have HB2 := Aside0.mk hB
      have HR2 := Aside0.mk hR
      have HS2 := Aside0.mk hS
      clear hB hR hS hxw
      go_wp2_with fail
      refine (sum_calls wr (B + 1) ps.flatten (HK.out.below HB2.out H4) HS2.out hlen).mono ?_
      rintro e w2 ⟨rfl, hB3⟩
      have HB3 := Aside0.mk (show Below B w w2 from (HB2.out.trans ⟨hB3.os, hB3.tape, hB3.output, hB3.size, fun k hk => hB3.block k (by have := HB2.out.size; have := HBD.out; omega)⟩))
      have HR3 := Aside0.mk (HR2.out.below hB3 HR2.out.lt)
      clear hB3
      go_wp2_with (with_reducible change wpList _ _ _ (Oper.mk _ (Op.store 28 _ _) _ _ _ _ :: _) _ _; refine Aside0.out ?_)
      refine Aside0.mk ?_
      refine wpList_store_row rfl 28 _ _ rfl B ((Spec.digest ps.flatten).map cell).toArray rfl (by simp [go_sem, hashV]) 28 _ HR3.out (by kernel_rfl) rfl (oneCells _) ?_
      go_wp2
      (try simp only [Exit.inBlock, Exit.then])
      refine bodyPost_ret (results_cell_row rfl _ _ B 28 ((Spec.digest ps.flatten).map cell).toArray (0, 0) _ rfl (setRow_heap _ _ _ _ _ _ HR3.out) Tryd.underlying28 rfl (by kernel_rfl)) rfl ?_
      refine ⟨rfl, ?_⟩
      rw [← HBD.out]
      exact Below.setRow HB3.out (Nat.le_refl _) _
end Go.Proofs.YtnkhhnfmijljbaaDoor
