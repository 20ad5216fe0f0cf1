/- cairnref02.Join; cairnlaw02.copied, same. -/
import Derived.Test.YtnkhhnfmijljbaaDoorRsm
set_option linter.unusedVariables false
set_option linter.unusedSimpArgs false
namespace Go.Proofs.YtnkhhnfmijljbaaDoor
open Go.RowKit Go.Proofs.YtnkhhnfmijljbaaDoorW.PrintWords Go.Proofs.YtnkhhnfmijljbaaDoorW.PrintLast Go.Proofs.YtnkhhnfmijljbaaDoorW.PrintMore
open Extern.Stop (cell)

theorem Ext.drewN {a w : World} (h : Ext a w) : ∀ n, Ext a (w.drewN n)
  | 0 => h
  | n + 1 => (Ext.drewN h n).drew
set_option maxHeartbeats 2000000 in
set_option maxRecDepth 100000 in
theorem join_calls (w : World) (P : Option Addr) (pc : Nat) (ps : List (List UInt8)) (hp : Bss w P ps.length ps) (hpl : ps.flatten.length ≤ 100000000000) (hpn : ps.length ≤ 100000000000) :
    Calls Tryd.prog 15 #[.slice P ps.length pc] w (fun e w' => ∃ v, e = .returned v ∧ Ob w.heap.size w' v ps.flatten ∧ Ext w w') := by
  have HP := Aside0.mk hp
  clear hp
  go_enter Tryd.func15, Tryd.ntmps15
  go_wp2_with fail
  go_loopw [3, 4] (fun v i wr => ∃ k : Nat, k ≤ ps.length ∧ i = .int .i64 k ∧ Ext w wr ∧ Ob w.heap.size wr v (ps.take k).flatten) (fun _ i _ => ps.length - (intOf i).toNat)
  case atStart => exact ⟨0, by omega, rfl, Ext.refl _, Ob.nil⟩
  case round =>
    obtain ⟨k, hk, rfl, hE, hO⟩ := hrel
    have HE := Aside0.mk hE
    have HO := Aside0.mk hO
    by_cases hlt : k < ps.length
    · obtain ⟨ad, A', c', rfl, hcell, hc', hbs⟩ := (HP.out.below hE).at_ k hlt
      have hnx : (ps.take (k + 1)).flatten = (ps.take k).flatten ++ ps.getD k [] := by
        rw [List.take_succ_eq_append_getElem hlt, List.flatten_append]
        simp [List.getD, hlt]
      have hfl1 : (ps.take (k + 1)).flatten.length ≤ ps.flatten.length := by
        conv => rhs; rw [← List.take_append_drop (k + 1) ps, List.flatten_append, List.length_append]
        omega
      obtain ⟨al, hal⟩ : ∃ al, al = (ps.take k).flatten := ⟨_, rfl⟩
      obtain ⟨q, hq⟩ : ∃ q, q = ps.getD k [] := ⟨_, rfl⟩
      rw [← hal] at HO hnx
      rw [← hq] at hcell hc' hbs hnx
      have hql : al.length + q.length ≤ 100000000000 := by rw [hnx, List.length_append] at hfl1; omega
      have HNX := Aside0.mk hnx
      have HB := Aside0.mk hbs
      have hE0 : (0 : Int) ≤ k ∧ (k : Int) < ps.length ∧ (k : Int) < 100000000000 := by omega
      clear hE hO hnx hbs hal hq hfl1
      go_wp2_with (with_reducible refine gate_dst (N := 16) rfl ?_; refine Aside0.out ?_)
      refine Aside0.mk ?_
      refine ob_row (w := w) rfl _ _ _ al q A' c' rfl rfl rfl HO.out HB.out HE.out (by omega) ?_
      intro v3 w3 hO3 hE3
      rw [← HNX.out] at hO3
      have HO3 := Aside0.mk hO3
      have HE3 := Aside0.mk hE3
      clear hO3 hE3 hcell
      go_wp2
      go_roundw
      case rel => exact ⟨k + 1, by omega, by simp, HE3.out, HO3.out⟩
      case measure => simp [intOf]; omega
    · obtain rfl : k = ps.length := by omega
      clear hE hO
      rw [List.take_length] at HO
      go_wp2_with fail
      go_ret
      exact ⟨_, rfl, HO.out, HE.out⟩
set_option maxHeartbeats 2000000 in
set_option maxRecDepth 100000 in
theorem copied_calls (w : World) (A : Option Addr) (c : Nat) (bs : List UInt8) (hx : Bs w A bs.length bs) (hc : bs.length ≤ c) (hl : bs.length ≤ 100000000000000) :
    Calls Tryd.prog 13 #[.slice A bs.length c] w (fun e w' => ∃ g c', e = .returned (.tuple #[.slice (some ⟨g, 0, none⟩) bs.length c', .slice (some ⟨g, 0, none⟩) (bs.length + 2) c']) ∧ w.heap.size ≤ g ∧ bs.length + 2 ≤ c' ∧ Bs w' (some ⟨g, 0, none⟩) (bs.length + 2) (bs ++ [90, 165]) ∧ Ext w w') := by
  have HX := Aside0.mk hx
  clear hx
  go_enter Tryd.func13, Tryd.ntmps13
  go_wp2_with (with_reducible refine gate_dst (N := 7) rfl ?_; refine Aside0.out ?_)
  refine Aside0.mk ?_
  refine ob_row (w := w) rfl _ _ (.slice (some ⟨w.heap.size, 0, none⟩) 0 0) [] bs A c rfl rfl rfl (Ob.made w) (HX.out.ext ((Ext.refl w).alloc _)) ((Ext.refl w).alloc _) (by simp; omega) ?_
  intro v1 w1 hO1 hE1
  have HO1 := Aside0.mk (show Ob w.heap.size w1 v1 bs from hO1)
  have HE1 := Aside0.mk hE1
  clear hO1 hE1
  go_wp2_with (with_reducible refine gate_dst (N := 10) rfl ?_; refine Aside0.out ?_)
  refine Aside0.mk ?_
  have hEm : Ext w1 (w1.alloc (.cells #[.int .u8 90, .int .u8 165] 5)) := (Ext.refl _).alloc _
  refine ob_row (w := w) rfl _ _ v1 bs [90, 165] (some ⟨w1.heap.size, 0, none⟩) 2 rfl rfl rfl (HO1.out.ext hEm) (Bs.row (Row.alloc w1 ([90, 165].map cell) 5) rfl (by simp)) (HE1.out.trans hEm) (by simp; omega) ?_
  intro v2 w2 hO2 hE2
  obtain ⟨A2, c2, rfl, hc2, hb2⟩ := hO2.open
  have hA : ∃ g, A2 = some ⟨g, 0, none⟩ ∧ w.heap.size ≤ g := by
    rcases hO2.2 with ⟨he, h0⟩ | ⟨g, cap, cur, he, hg, _⟩
    · rw [ints_length] at h0; simp at h0
    · injection he with ha _ _
      exact ⟨g, ha, hg⟩
  obtain ⟨g, rfl, hg⟩ := hA
  have hl2 : (bs ++ [90, 165]).length = bs.length + 2 := by simp
  rw [hl2] at hc2 hb2 ⊢
  have HB2 := Aside0.mk hb2
  have HE2 := Aside0.mk hE2
  obtain ⟨i5, hi5, _, hsz, _⟩ := i5
  have hcut := cut_to (P := Tryd.prog) 24 5 .i64 Tryd.underlying24 hi5 (some ⟨g, 0, none⟩) (bs.length + 2) c2 (bs.length : Int) (by omega) (by omega) hc2
  rw [Int.toNat_natCast] at hcut
  clear hO2 hE2 hb2 hEm hl2
  go_wp2_with fail
  go_ret2
  exact ⟨g, c2, rfl, hg, hc2, HB2.out, HE2.out⟩
set_option maxHeartbeats 2000000 in
set_option maxRecDepth 100000 in
theorem same_calls (w : World) (A A' : Option Addr) (c c' : Nat) (bs : List UInt8) (hx : Bs w A bs.length bs) (hy : Bs w A' bs.length bs) :
    Calls Tryd.prog 17 #[.slice A bs.length c, .slice A' bs.length c'] w (fun e w' => e = .returned (.bool true) ∧ Ext w w') := by
  have hmx := hx.max
  have HX := Aside0.mk hx
  have HY := Aside0.mk hy
  clear hx hy
  go_enter Tryd.func17, Tryd.ntmps17
  go_wp2_with fail
  go_loopw [5] (fun i wr => ∃ k : Nat, k ≤ bs.length ∧ i = .int .i64 k ∧ Ext w wr) (fun i _ => bs.length - (intOf i).toNat)
  case atStart => exact ⟨0, by omega, rfl, Ext.refl _⟩
  case round =>
    obtain ⟨k, hk, rfl, hE⟩ := hrel
    have HE := Aside0.mk hE
    by_cases hlt : k < bs.length
    · obtain ⟨ad, rfl, hcx⟩ := (HX.out.ext hE).cell k hlt
      obtain ⟨ad', rfl, hcy⟩ := (HY.out.ext hE).cell k hlt
      have hE0 : (0 : Int) ≤ k ∧ (k : Int) < bs.length ∧ (k : Int) < 9223372036854775807 := by omega
      obtain ⟨x, hx⟩ : ∃ x, x = bs.getD k 0 := ⟨_, rfl⟩
      rw [← hx] at hcx hcy
      clear hE hx
      go_wp2
      go_quiet (fail)
      go_wp2
      go_roundw
      case rel => exact ⟨k + 1, by omega, by simp, Ext.drewN HE.out nq⟩
      case measure => simp [intOf]; omega
    · obtain rfl : k = bs.length := by omega
      clear hE
      go_wp2_with fail
      go_ret
      exact ⟨rfl, HE.out⟩
end Go.Proofs.YtnkhhnfmijljbaaDoor
