/- (*sha.State).Write: its contract. -/
import Derived.Test.YtnkhhnfmijljbaaDoorSta
set_option linter.unusedVariables false
set_option linter.unusedSimpArgs false
namespace Go.Proofs.YtnkhhnfmijljbaaDoor
open Go.RowKit Go.Proofs.YtnkhhnfmijljbaaDoorW.PrintWords Go.Proofs.YtnkhhnfmijljbaaDoorW.PrintLast Go.Proofs.YtnkhhnfmijljbaaDoorW.PrintMore
open Extern.Stop (cell)

theorem add_block (ad : Addr) (m : Nat) : (ad.add m).block = ad.block := by unfold Addr.add; split <;> rfl
theorem St.of_short {w : World} {g : Nat} {cs c T : List UInt8} {h m : Nat} {tk x : Int} (hh : h = cs.length % 64) (hm : m = c.length) (hlt : h + m < 64) (hx : x = (h : Int) + m) (hl : (Spec.restOf cs ++ c ++ T).length = 64) (hR : Row w g (stL (Spec.wordsOf cs) (Spec.restOf cs ++ c ++ T) x tk) 76) : St w g (cs ++ c) tk := by
  obtain ⟨e1, e2⟩ := Spec.rest_short cs c (by omega)
  refine ⟨T, by rw [e2]; exact hl, ?_⟩
  rw [e1, e2, show (((cs ++ c).length % 64 : Nat) : Int) = x by rw [hx, List.length_append]; omega]
  exact hR
theorem St.of_full {w : World} {g : Nat} {cs c : List UInt8} {h m : Nat} {tk : Int} (hh : h = cs.length % 64) (hm : m = c.length) (hlt : h + m = 64) (hl : (Spec.restOf cs ++ c).length = 64) (hR : Row w g (stL (Spec.mix (Spec.wordsOf cs) (Spec.restOf cs ++ c)) (Spec.restOf cs ++ c) 0 tk) 76) : St w g (cs ++ c) tk := by
  obtain ⟨e1, e2, e3⟩ := Spec.rest_full cs c (by omega)
  refine ⟨Spec.restOf cs ++ c, by rw [e2]; exact hl, ?_⟩
  rw [e1, e2, e3]
  exact hR

set_option maxHeartbeats 2000000 in
set_option maxRecDepth 100000 in
theorem write_calls (w : World) (g : Nat) (bs : List UInt8) (A : Option Addr) (c : Nat) (xs : List UInt8) (hK : KTab w) (hS : St w g bs bs.length) (hx : Bs w A xs.length xs) (hc : xs.length ≤ c)
    (hne : ∀ ad, A = some ad → 0 < xs.length → ad.block ≠ g) (hlen : bs.length + xs.length < 4611686018427387904) :
    Calls Tryd.prog 20 #[.pointer (some ⟨g, 0, none⟩), .slice A xs.length c] w (fun e w' => e = .returned (.tuple #[]) ∧ Only w g w' ∧ St w' g (bs ++ xs) (bs ++ xs).length) := by
  obtain ⟨T, hT, hR⟩ := hS
  have ct := hR.cell (stL_taken _ _ _ _ hT)
  have cf := hR.free 73
  have H4 := Aside0.mk (ne4 hK hT hR)
  have HR := Aside0.mk hR
  have HT := Aside0.mk hT
  have HK := Aside0.mk hK
  have HX := Aside0.mk hx
  have HC := Aside0.mk hc
  have HNE := Aside0.mk hne
  clear hR hT hK hx hc hne
  go_enter Tryd.func20, Tryd.ntmps20
  go_wp2
  refine wp_world (fun w1 => Only w g w1 ∧ St w1 g bs ((bs.length + xs.length : Nat) : Int)) ⟨(Only.refl w g).set 73 _, T, HT.out, ?_⟩ ?_
  · have := HR.out.set 73 (.int .i64 ((bs.length : Int) + xs.length))
    rw [stL_setTaken _ _ _ _ _ HT.out] at this
    simpa using this
  rintro w1 ⟨hO1, hS1⟩
  have HO1 := Aside0.mk hO1
  have HS1 := Aside0.mk hS1
  have HX1 := Aside0.mk (HX.out.only hO1 HNE.out)
  clear hO1 hS1 ct cf
  go_loopw [1] (fun sl wr => ∃ (k : Nat) (A' : Option Addr) (c' : Nat) (n' : Nat), k ≤ xs.length ∧ n' = xs.length - k ∧ sl = .slice A' n' c' ∧ n' ≤ c' ∧ Bs wr A' n' (xs.drop k) ∧ (∀ ad, A' = some ad → 0 < n' → ad.block ≠ g) ∧ Only w g wr ∧ St wr g (bs ++ xs.take k) ((bs.length + xs.length : Nat) : Int))
    (fun sl _ => sliceLen sl)
  case atStart => exact ⟨0, A, c, xs.length, by omega, by omega, rfl, HC.out, HX1.out, HNE.out, HO1.out, by simpa using HS1.out⟩
  case round =>
    obtain ⟨k, A', c', n', hk, hn', rfl, hc', hB, hne', hO, T', hT', hR'⟩ := hrel
    have HN := Aside0.mk hn'
    by_cases h0 : n' = 0
    · subst h0
      have HE := Aside0.mk (show xs.take k = xs from List.take_of_length_le (by omega))
      have HO := Aside0.mk hO
      have HR' := Aside0.mk hR'
      have HT' := Aside0.mk hT'
      clear hO hR' hT' hB hne' hn'
      go_wp2
      go_end0
      refine ⟨rfl, HO.out, T', ?_, ?_⟩
      · have := HT'.out; rwa [HE.out] at this
      · have := HR'.out; rw [HE.out] at this; simpa using this
    · obtain ⟨ad, rfl, hcell⟩ := hB.cells (by omega)
      have hpos : 0 < n' := by omega
      have hadg := hne' ad rfl hpos
      obtain ⟨cs, hcs⟩ : ∃ cs, cs = bs ++ xs.take k := ⟨_, rfl⟩
      rw [← hcs] at hR' hT'
      have hrl := Spec.restOf_length cs
      have hTl : T'.length = 64 - cs.length % 64 := by rw [List.length_append, hrl] at hT'; omega
      have ch := hR'.cell (stL_held _ _ _ _ hT')
      have cf := hR'.free 72
      have HO := Aside0.mk hO
      have HR' := Aside0.mk hR'
      have HT' := Aside0.mk hT'
      have HB := Aside0.mk hB
      have HCS := Aside0.mk hcs
      have HCELL := Aside0.mk hcell
      have HRL := Aside0.mk hrl
      have HTL := Aside0.mk hTl
      have HAD := Aside0.mk hadg
      obtain ⟨h, hh⟩ : ∃ h, h = cs.length % 64 := ⟨_, rfl⟩
      rw [← hh] at ch
      have hlt : h < 64 := by omega
      have b2 : ¬ (64 = h) := by omega
      have b1 : (0 : Int) ≤ h ∧ (h : Int) ≤ 64 := by omega
      have HH := Aside0.mk hh
      clear hO hR' hT' hB hne' hn' hcell hcs hrl hTl hadg hh
      go_wp2
      refine wp_region_still_tail 9 (by kernel_rfl) (by kernel_rfl) ?_
      simp only [List.take_succ_cons, List.take_zero, List.drop_succ_cons, List.drop_zero]
      repeat (refine wpStill_step (fun K hK => ?_); go_simp; (try go_bits); with_reducible refine hK _ ?_; clear hK K)
      refine wpStill_nil ?_
      change wpList _ _ _ _ _ wr.drew
      obtain ⟨c, hc⟩ : ∃ c, c = (xs.drop k).take (64 - h) := ⟨_, rfl⟩
      obtain ⟨m, hm⟩ : ∃ m, m = c.length := ⟨_, rfl⟩
      have hmn : m = min n' (64 - h) := by rw [hm, hc, List.length_take, List.length_drop, HN.out]; omega
      refine Lib.wpList_copy_run _ rfl _ _ 24 24 rfl _ _ rfl rfl (run_copy_row _ _ 24 24 _ 5 g (8 + h) (64 - h) (64 - h) ad n' c' (stL (Spec.wordsOf cs) (Spec.restOf cs ++ T') (cs.length % 64 : Nat) ((bs.length + xs.length : Nat) : Int)).toArray 76 (c.map cell) Tryd.underlying24 (by kernel_rfl) HR'.out ?hn ?hsrc ?hfit ?h1) ?_
      case hn => rw [List.length_map, ← hm, hmn]
      case hsrc => exact fun j v hv => HCELL.out j v (by
        rw [hc, List.map_take, List.getElem?_take] at hv
        split at hv
        · exact hv
        · cases hv)
      case hfit => simp [stL_length, HT'.out]; omega
      case h1 => intro v hv; obtain ⟨y, _, rfl⟩ := List.mem_map.1 hv; rfl
      have hrow : Row (wr.drew.setRow g ((stL (Spec.wordsOf cs) (Spec.restOf cs ++ T') (cs.length % 64 : Nat) ((bs.length + xs.length : Nat) : Int)).toArray.toList.take (8 + h) ++ c.map cell ++ (stL (Spec.wordsOf cs) (Spec.restOf cs ++ T') (cs.length % 64 : Nat) ((bs.length + xs.length : Nat) : Int)).toArray.toList.drop (8 + h + (c.map cell).length)).toArray) g (stL (Spec.wordsOf cs) (Spec.restOf cs ++ c ++ T'.drop m) (h : Nat) ((bs.length + xs.length : Nat) : Int)) 76 := by
        have h1 := stL_copy (Spec.wordsOf cs) (Spec.restOf cs) T' c (cs.length % 64 : Nat) ((bs.length + xs.length : Nat) : Int) (by have := HTL.out; have := HH.out; omega)
        rw [HRL.out, ← HH.out] at h1
        simp only [List.length_map, ← HH.out]
        rw [h1, hm]
        exact Row.setRow (show Row wr.drew g _ 76 from HR'.out)
      refine wpList_world (fun w2 => Only w g w2 ∧ Row w2 g (stL (Spec.wordsOf cs) (Spec.restOf cs ++ c ++ T'.drop m) (h : Nat) ((bs.length + xs.length : Nat) : Int)) 76 ∧ Bs w2 (some ad) n' (xs.drop k)) ⟨(HO.out.drew).setRow _, hrow, HB.out.only ((Only.refl wr g).drew.setRow _) (fun a ha _ => by cases ha; exact HAD.out)⟩ ?_
      rintro w2 ⟨hO2, hR2, hB2⟩
      rw [List.length_map, ← hm]
      have hl2 : (Spec.restOf cs ++ c ++ T'.drop m).length = 64 := by rw [List.length_append, List.length_append, List.length_drop, HRL.out, HTL.out, ← hm]; have := HH.out; omega
      have ch2 := hR2.cell (stL_held _ _ _ _ hl2)
      have cf2 := hR2.free 72
      have HO2 := Aside0.mk hO2
      have HR2 := Aside0.mk hR2
      have HB2 := Aside0.mk hB2
      have HL2 := Aside0.mk hl2
      have HC2 := Aside0.mk hc
      have HM := Aside0.mk hm
      have hm0 : 0 < m := by omega
      have hmn' : m ≤ n' := by omega
      have hm64 : h + m ≤ 64 := by omega
      have hone : m = n' ∨ h + m = 64 := by omega
      have HN2 := Aside0.mk (show n' = (xs.drop k).length by rw [List.length_drop]; exact HN.out)
      have hbd := Bs.drop (c := c') (HN2.out ▸ HB2.out) m (by rw [← HN2.out]; exact hmn') (by rw [← HN2.out]; exact hc')
      have hxk : xs.take (k + m) = xs.take k ++ c := by
        have e : c = (xs.drop k).take m := by rw [HC2.out, List.take_eq_take_iff, List.length_drop]; have := HN.out; omega
        rw [List.take_add, ← e]
      have hbk : bs ++ xs.take (k + m) = cs ++ c := by rw [hxk, HCS.out, List.append_assoc]
      have hdk : (xs.drop k).drop m = xs.drop (k + m) := by rw [List.drop_drop]
      rw [hdk] at hbd
      have HBD := Aside0.mk hbd
      have HBK := Aside0.mk hbk
      have hkm : k + m ≤ xs.length := by have := HN.out; omega
      have HNN := Aside0.mk (show n' - m = xs.length - (k + m) by have := HN.out; omega)
      clear hO2 hR2 hB2 hl2 hrow cf ch hc hm hmn hbd hxk hbk hdk
      by_cases hfull : h + m = 64
      · have hT0 : T'.drop m = [] := List.drop_of_length_le (by have := HTL.out; have := HH.out; omega)
        have hL3 : (Spec.restOf cs ++ c).length = 64 := by have := HL2.out; rwa [hT0, List.append_nil] at this
        have hR3 := HR2.out.set 72 (.int .i64 ((h : Int) + m))
        rw [stL_setHeld _ _ _ _ _ HL2.out, hT0, List.append_nil] at hR3
        have hO3 := HO2.out.set 72 (.int .i64 ((h : Int) + m))
        have hfi : (h : Int) + m = 64 := by omega
        rw [hfi] at hR3 hO3
        have HR3 := Aside0.mk hR3
        have HO3 := Aside0.mk hO3
        have HL3 := Aside0.mk hL3
        clear hR3 hO3 hT0 hL3
        by_cases hcm : c' = m
        · have hnm : n' - m = 0 := by omega
          go_wp2_with fail
          refine (block_calls _ g (Spec.wordsOf cs) (Spec.restOf cs ++ c) 64 ((bs.length + xs.length : Nat) : Int) HL3.out (HK.out.only HO3.out H4.out) HR3.out).mono ?_
          rintro e w4 ⟨rfl, hO4, hR4⟩
          have ch4 := hR4.cell (stL_held _ _ _ _ HL3.out)
          have cf4 := hR4.free 72
          have HO4 := Aside0.mk hO4
          have HR4 := Aside0.mk hR4
          clear hO4 hR4
          go_wp2
          refine ⟨⟨k + m, some ad, 0, n' - m, hkm, HNN.out, by rw [hnm], by omega, ?_, fun a ha hp => by omega, (HO3.out.trans HO4.out).set 72 _, ?_⟩, by simp [sliceLen]; omega⟩
          · have h1 := HBD.out
            rw [if_pos hcm, List.length_drop, ← HNN.out] at h1
            exact (h1.only ((Only.refl w2 g).set 72 _) (fun a ha hp => by omega)).only (HO4.out.set 72 _) (fun a ha hp => by omega)
          · rw [HBK.out]
            refine St.of_full HH.out HM.out hfull HL3.out ?_
            have := HR4.out.set 72 (.int .i64 0)
            rwa [stL_setHeld _ _ _ _ _ HL3.out] at this
        · go_wp2_with fail
          refine (block_calls _ g (Spec.wordsOf cs) (Spec.restOf cs ++ c) 64 ((bs.length + xs.length : Nat) : Int) HL3.out (HK.out.only HO3.out H4.out) HR3.out).mono ?_
          rintro e w4 ⟨rfl, hO4, hR4⟩
          have ch4 := hR4.cell (stL_held _ _ _ _ HL3.out)
          have cf4 := hR4.free 72
          have HO4 := Aside0.mk hO4
          have HR4 := Aside0.mk hR4
          clear hO4 hR4
          go_wp2
          have hbk : ∀ a, some (ad.add m) = some a → 0 < n' - m → a.block ≠ g := fun a ha _ => by cases ha; rw [add_block]; exact HAD.out
          refine ⟨⟨k + m, _, _, _, hkm, HNN.out, rfl, by omega, ?_, hbk, (HO3.out.trans HO4.out).set 72 _, ?_⟩, by simp [sliceLen]; omega⟩
          · have h1 := HBD.out
            rw [if_neg hcm, List.length_drop, ← HNN.out] at h1
            exact (Bs.only h1 ((Only.refl w2 g).set 72 _) hbk).only (HO4.out.set 72 _) hbk
          · rw [HBK.out]
            refine St.of_full HH.out HM.out hfull HL3.out ?_
            have := HR4.out.set 72 (.int .i64 0)
            rwa [stL_setHeld _ _ _ _ _ HL3.out] at this
      · have hfi : ¬ ((h : Int) + m = 64) := by omega
        have hR3 := HR2.out.set 72 (.int .i64 ((h : Int) + m))
        rw [stL_setHeld _ _ _ _ _ HL2.out] at hR3
        have HR3 := Aside0.mk hR3
        clear hR3
        by_cases hcm : c' = m
        · have hnm : n' - m = 0 := by omega
          go_wp2_with fail
          refine ⟨⟨k + m, some ad, 0, n' - m, hkm, HNN.out, by rw [hnm], by omega, ?_, fun a ha hp => by omega, HO2.out.set 72 _, ?_⟩, by simp [sliceLen]; omega⟩
          · have h1 := HBD.out
            rw [if_pos hcm, List.length_drop, ← HNN.out] at h1
            exact h1.only ((Only.refl w2 g).set 72 _) (fun a ha hp => by omega)
          · rw [HBK.out]
            exact St.of_short HH.out HM.out (by omega) rfl HL2.out HR3.out
        · go_wp2_with fail
          have hbk : ∀ a, some (ad.add m) = some a → 0 < n' - m → a.block ≠ g := fun a ha _ => by cases ha; rw [add_block]; exact HAD.out
          refine ⟨⟨k + m, _, _, _, hkm, HNN.out, rfl, by omega, ?_, hbk, HO2.out.set 72 _, ?_⟩, by simp [sliceLen]; omega⟩
          · have h1 := HBD.out
            rw [if_neg hcm, List.length_drop, ← HNN.out] at h1
            exact Bs.only h1 ((Only.refl w2 g).set 72 _) hbk
          · rw [HBK.out]
            exact St.of_short HH.out HM.out (by omega) rfl HL2.out HR3.out
end Go.Proofs.YtnkhhnfmijljbaaDoor
