/- cairnlaw03.MacPieces: true. -/
import Derived.Test.YtnkhhnfmijljbaaDoorMPk
import Derived.Test.YtnkhhnfmijljbaaDoorWGuard
set_option linter.unusedVariables false
set_option linter.unusedSimpArgs false
namespace Go.Proofs.YtnkhhnfmijljbaaDoor
open Go.RowKit Go.Proofs.YtnkhhnfmijljbaaDoorW.PrintWords Go.Proofs.YtnkhhnfmijljbaaDoorW.PrintLast Go.Proofs.YtnkhhnfmijljbaaDoorW.PrintMore
open Extern.Stop (cell)

/-- a row of bytes of the call's own, from block B on -/
def Ob (B : Nat) (w : World) (v : Value) (al : List UInt8) : Prop := w.ownsRow B 5 1 v (ints al).length (nums .u8 (ints al))
section
variable {B : Nat} {w w' : World} {v : Value} {al : List UInt8}
theorem Ob.nil : Ob B w (.slice none 0 0) [] := own_nil _ _ _ _
theorem Ob.ext (h : Ob B w v al) (hE : Ext w w') : Ob B w' v al := pw_own_below h hE
theorem Ob.only {g : Nat} (h : Ob B w v al) (hO : Only w g w') (hg : g < B) : Ob B w' v al := World.ownsRow.kept h (grown_of_only hO) (by
  cases hb : v.ownBlock with
  | none => exact .inl rfl
  | some k => exact .inr (fun e => by have := own_base h k hb; injection e with e; omega))
theorem Ob.open (h : Ob B w v al) : ∃ A c, v = .slice A al.length c ∧ al.length ≤ c ∧ Bs w A al.length al := by
  obtain ⟨A, c, rfl, hr⟩ := own_reads h
  have hc := own_le h
  rw [ints_length] at hr hc ⊢
  exact ⟨A, c, rfl, hc, Kd.C_of_reads (h1 := fun _ => rfl) (d := (0 : Int)) hr⟩
theorem Ob.made (w : World) : Ob w.heap.size (w.alloc (.cells #[] 5)) (.slice (some ⟨w.heap.size, 0, none⟩) 0 0) [] :=
  ⟨rfl, .inr ⟨w.heap.size, 0, #[], rfl, Nat.le_refl _, heap_alloc_new w _, Nat.le_refl _, Nat.zero_le _, rfl, rfl⟩⟩
theorem Bs.reads {A : Option Addr} {n : Nat} {xs : List UInt8} (h : Bs w A n xs) : ReadsInt w .u8 A n (ints xs) := by
  have := Kd.reads_of_C (d := (0 : Int)) (h1 := fun _ => rfl) h
  exact this
theorem Bs.none_ (w : World) (A : Option Addr) : Bs w A 0 [] := Kd.C_of_reads (h1 := fun _ => rfl) (d := (0 : Int)) ⟨rfl, by simp, fun hp => by simp at hp⟩
theorem Bs.one (w : World) (x : UInt8) : Bs (w.alloc (.cells #[.int .u8 (n8 x)] 5)) (some ⟨w.heap.size, 0, none⟩) 1 [x] := Bs.row (Row.alloc w ([x].map Extern.Stop.cell) 5) rfl (by simp)
theorem bss_four {A A1 A2 A3 : Option Addr} {c c1 c2 c3 : Nat} {xs ys zs us : List UInt8} (h : Bs w A xs.length xs) (hc : xs.length ≤ c) (h1 : Bs w A1 ys.length ys) (hc1 : ys.length ≤ c1) (h2 : Bs w A2 zs.length zs) (hc2 : zs.length ≤ c2) (h3 : Bs w A3 us.length us) (hc3 : us.length ≤ c3) :
    Bss (w.alloc (.cells #[.slice A xs.length c, .slice A1 ys.length c1, .slice A2 zs.length c2, .slice A3 us.length c3] 24)) (some ⟨w.heap.size, 0, none⟩) 4 [xs, ys, zs, us] :=
  Bss.of_row (t := 24) (ls := [(A, c, xs), (A1, c1, ys), (A2, c2, zs), (A3, c3, us)]) (Row.alloc w [.slice A xs.length c, .slice A1 ys.length c1, .slice A2 zs.length c2, .slice A3 us.length c3] 24) (fun l hl => by
    have hE : Ext w (w.alloc (.cells #[.slice A xs.length c, .slice A1 ys.length c1, .slice A2 zs.length c2, .slice A3 us.length c3] 24)) := (Ext.refl w).alloc _
    simp only [List.mem_cons, List.not_mem_nil, or_false] at hl
    rcases hl with rfl | rfl | rfl | rfl
    · exact ⟨hc, h.ext hE⟩
    · exact ⟨hc1, h1.ext hE⟩
    · exact ⟨hc2, h2.ext hE⟩
    · exact ⟨hc3, h3.ext hE⟩) (by simp)
end
theorem byteInt (k : Nat) : (k : Int) % 256 = n8 (UInt8.ofNat k) := by
  unfold n8; rw [UInt8.toNat_ofNat']; omega
/-- mac.Code of one slice, built here -/
theorem mcodeOne_calls (w : World) (A : Option Addr) (c : Nat) (xs : List UInt8) (A1 : Option Addr) (c1 : Nat) (ys : List UInt8) (hK : KTab w) (hF : FTab w) (hx : Bs w A xs.length xs) (hc : xs.length ≤ c) (hl : xs.length < 500000000000000000) (h1 : Bs w A1 ys.length ys) (hc1 : ys.length ≤ c1) (hl1 : ys.length < 400000000000000000) :
    Calls Tryd.prog 26 #[.slice A xs.length c, .slice (some ⟨w.heap.size, 0, none⟩) 1 1] (w.alloc (.cells #[.slice A1 ys.length c1] 24)) (fun e w' => e = .returned (hashV (Spec.code xs ys)) ∧ Ext w w') := by
  have hE : Ext w (w.alloc (.cells #[.slice A1 ys.length c1] 24)) := (Ext.refl w).alloc _
  refine (mcode_calls _ A c xs (some ⟨w.heap.size, 0, none⟩) 1 [ys] (hK.ext hE) (hF.ext hE) (hx.ext hE) hc hl (bss_one h1 hc1) (by simpa using hl1)).mono ?_
  rintro e w' ⟨rfl, h⟩
  exact ⟨by simp, hE.trans h⟩
theorem mcodeTwo_calls (w : World) (A : Option Addr) (c : Nat) (xs : List UInt8) (A1 : Option Addr) (c1 : Nat) (ys : List UInt8) (A2 : Option Addr) (c2 : Nat) (zs : List UInt8) (hK : KTab w) (hF : FTab w) (hx : Bs w A xs.length xs) (hc : xs.length ≤ c) (hl : xs.length < 500000000000000000) (h1 : Bs w A1 ys.length ys) (hc1 : ys.length ≤ c1)
    (h2 : Bs w A2 zs.length zs) (hc2 : zs.length ≤ c2) (hl1 : ys.length + zs.length < 400000000000000000) :
    Calls Tryd.prog 26 #[.slice A xs.length c, .slice (some ⟨w.heap.size, 0, none⟩) 2 2] (w.alloc (.cells #[.slice A1 ys.length c1, .slice A2 zs.length c2] 24)) (fun e w' => e = .returned (hashV (Spec.code xs (ys ++ zs))) ∧ Ext w w') := by
  have hE : Ext w (w.alloc (.cells #[.slice A1 ys.length c1, .slice A2 zs.length c2] 24)) := (Ext.refl w).alloc _
  refine (mcode_calls _ A c xs (some ⟨w.heap.size, 0, none⟩) 2 [ys, zs] (hK.ext hE) (hF.ext hE) (hx.ext hE) hc hl (bss_two h1 hc1 h2 hc2) (by simpa using hl1)).mono ?_
  rintro e w' ⟨rfl, h⟩
  exact ⟨by simp, hE.trans h⟩
theorem Ky.only {w w' : World} {g s k : Nat} {sec bs : List UInt8} (h : Ky w g s sec bs) (hO : Only w k w') (hg : g ≠ k) (hs : s ≠ k) : Ky w' g s sec bs := by
  obtain ⟨T, hT, hR⟩ := h.st
  exact ⟨hO.row h.row hg, ⟨T, hT, hO.row hR hs⟩, h.ne⟩
theorem Ob.only2 {B g n : Nat} {w w' : World} {v : Value} {al : List UInt8} (h : Ob B w v al) (hO : Only w g w') (_ : n ≥ 0) (hne : ∀ k, v.ownBlock = some k → k ≠ g) : Ob B w' v al := World.ownsRow.kept h (grown_of_only hO) (by
  cases hb : v.ownBlock with
  | none => exact .inl rfl
  | some k => exact .inr (fun e => by injection e with e; exact hne k hb e))
theorem Ky.under {w w' : World} {g s B : Nat} {sec bs : List UInt8} (h : Ky w g s sec bs) (hb : Below B w w') (hg : g < B) (hs : s < B) : Ky w' g s sec bs := ⟨h.row.below hb hg, h.st.under hb hs, h.ne⟩
set_option maxHeartbeats 2000000 in
set_option maxRecDepth 100000 in
theorem macPieces_calls (w : World) (A : Option Addr) (c : Nat) (xs : List UInt8) (P : Option Addr) (pc : Nat) (ps : List (List UInt8)) (A3 : Option Addr) (c3 : Nat) (ts : List UInt8) (hK : KTab w) (hF : FTab w) (hx : Bs w A xs.length xs) (hc : xs.length ≤ c) (hl : xs.length ≤ 1048576)
    (hp : Bss w P ps.length ps) (hpl : ps.flatten.length ≤ 1048576) (hpn : ps.length ≤ 1048576) (ht : Bs w A3 ts.length ts) (hc3 : ts.length ≤ c3) (hl3 : ts.length ≤ 1048576) :
    Calls Tryd.prog 10 #[.slice A xs.length c, .slice P ps.length pc, .slice A3 ts.length c3] w (fun e w' => e = .returned (.bool true) ∧ Below w.heap.size w w') := by
  have HBK := Aside0.mk hK.1
  have HBF := Aside0.mk hF.1
  have HK := Aside0.mk hK
  have HF := Aside0.mk hF
  have HX := Aside0.mk hx
  have HP := Aside0.mk hp
  have HT := Aside0.mk ht
  clear hK hF hx hp ht
  go_enter Tryd.func10, Tryd.ntmps10
  go_wp2_with fail
  refine (knownAtB w HK.out HF.out).mono ?_
  rintro e w1 ⟨rfl, hE1⟩
  have HE1 := Aside0.mk hE1
  have HX1 := Aside0.mk ((HX.out.ext hE1).ext ((Ext.refl _).alloc (.cells #[] 5)))
  clear hE1
  go_wp2_with (with_reducible refine gate_dst (N := 17) rfl ?_; refine Aside0.out ?_)
  refine Aside0.mk ?_
  refine wpL_append (F := fun v1 w2 => Ext (w1.alloc (.cells #[] 5)) w2 ∧ Fr (w1.alloc (.cells #[] 5)).heap.size w2 v1 xs) rfl ?_ ?_
  · obtain ⟨v1, w4, hr, hE, hF⟩ := run_copyB (w1.alloc (.cells #[] 5)) 24 ⟨w1.heap.size, 0, none⟩ A c xs HX1.out (by omega)
    exact ⟨v1, w4, hr, hE, hF⟩
  rintro v1 w2 ⟨hE2, hF2⟩
  obtain ⟨A1, c1, rfl, hc1, hb1, _⟩ := hF2
  have HE2 := Aside0.mk (HE1.out.trans (((Ext.refl _).alloc _).trans hE2))
  have HB1 := Aside0.mk hb1
  clear hE2 hb1
  go_wp2_with fail
  refine (mnew_calls w2 A1 c1 xs (HK.out.ext HE2.out) (HF.out.ext HE2.out) HB1.out hc1 (by omega)).mono ?_
  rintro e w3 ⟨G, S, rfl, hg, hs, hB3, hY3⟩
  have hwS : w.heap.size ≤ S := by have := HE2.out.size; omega
  have hwG : w.heap.size ≤ G := by have := HE2.out.size; omega
  obtain ⟨N1, hN1⟩ : ∃ N1, N1 = w3.heap.size := ⟨_, rfl⟩
  have hGN : G < N1 := by rw [hN1]; exact hY3.row.lt
  have hSN : S < N1 := by rw [hN1]; exact hY3.st.choose_spec.2.lt
  have HN1 := Aside0.mk hN1
  have HE3 := Aside0.mk (HE2.out.trans hB3)
  have HY3 := Aside0.mk hY3
  clear hB3 hY3 hg hs hN1
  go_wp2_with fail
  go_loopw [8, 23] (fun v8 i wr => ∃ k : Nat, k ≤ ps.length ∧ i = .int .i64 k ∧ N1 ≤ wr.heap.size ∧ Below w.heap.size w wr ∧ Ky wr G S xs (ps.take k).flatten ∧ Ob N1 wr v8 (ps.take k).flatten) (fun _ i _ => ps.length - (intOf i).toNat)
  case atStart => exact ⟨0, by omega, rfl, by rw [HN1.out]; exact Nat.le_refl _, HE3.out, HY3.out, Ob.nil⟩
  case round =>
    obtain ⟨k, hk, rfl, hN, hB, hY, hO⟩ := hrel
    have hfl : (ps.take k).flatten.length ≤ ps.flatten.length := by
      conv => rhs; rw [← List.take_append_drop k ps, List.flatten_append, List.length_append]
      omega
    have hxw := HP.out.below hB
    by_cases hlt : k < ps.length
    · obtain ⟨ad, A', c', rfl, hcell, hc', hbs⟩ := hxw.at_ k hlt
      have hnx : (ps.take (k + 1)).flatten = (ps.take k).flatten ++ ps.getD k [] := by
        rw [List.take_succ_eq_append_getElem hlt, List.flatten_append]
        simp [List.getD, hlt]
      have hfl1 : (ps.take (k + 1)).flatten.length ≤ ps.flatten.length := by
        conv => rhs; rw [← List.take_append_drop (k + 1) ps, List.flatten_append, List.length_append]
        omega
      obtain ⟨al, hal⟩ : ∃ al, al = (ps.take k).flatten := ⟨_, rfl⟩
      obtain ⟨q, hq⟩ : ∃ q, q = ps.getD k [] := ⟨_, rfl⟩
      have hold : Bs w A' q.length q := by
        obtain ⟨ad2, A2, c2, h1, h2, h3, h4⟩ := HP.out.at_ k hlt
        cases h1
        have e := (hB.cell (p := ad.add k) (Go.World.block_lt_of_cell? _ _ h2)).symm.trans hcell
        rw [h2] at e
        cases e
        rw [hq]
        exact h4
      rw [← hal] at hY hO hnx hfl
      rw [← hq] at hcell hc' hbs hnx
      have hql : al.length + q.length ≤ 1048576 := by rw [hnx, List.length_append] at hfl1; omega
      obtain ⟨A8, c8, rfl, hc8, hb8⟩ := hO.open
      have HB := Aside0.mk hB
      have HY := Aside0.mk hY
      have HO := Aside0.mk hO
      have HB8 := Aside0.mk hb8
      have HNX := Aside0.mk hnx
      have HQ := Aside0.mk hold
      have HAL := Aside0.mk hal
      have hkb := byteInt k
      have hE0 : (0 : Int) ≤ k := by omega
      by_cases h4 : 4000 < al.length
      · have h4' : (4000 : Int) < al.length := by omega
        clear hB hY hO hb8 hnx hold hal hbs hq hxw hkb hfl1
        have hcat : (al ++ ts).length ≤ 3000000 := by rw [List.length_append]; omega
        obtain ⟨at', hat⟩ : ∃ at', at' = al ++ ts := ⟨_, rfl⟩
        have HAT := Aside0.mk hat
        have hatl : at'.length ≤ 3000000 := by rw [hat]; exact hcat
        clear hat hcat
        go_wp2_with fail
        refine (kwrite_calls wr G S xs al A3 c3 ts (HK.out.below HB.out HK.out.1) HY.out (HT.out.below HB.out) hc3 (fun a ha hp => by have := fr_lt HT.out a ha hp; omega) (by omega)).mono ?_
        rintro e x1 ⟨rfl, hO1, hY1⟩
        rw [← HAT.out] at hY1
        have HBx1 := Aside0.mk (below_only HB.out hO1 hwS (by have := HB.out.size; omega))
        have HYx1 := Aside0.mk hY1
        have HOx1 := Aside0.mk (HO.out.only hO1 hSN)
        have hsx1 : wr.heap.size ≤ x1.heap.size := hO1.size
        clear hO1 hY1
        go_wp2_with fail
        refine (kcode_calls x1 G S xs at' (HK.out.below HBx1.out HK.out.1) (HF.out.below HBx1.out HF.out.1) HYx1.out (by omega)).mono ?_
        rintro e x2 ⟨rfl, hE2⟩
        have HBx2 := Aside0.mk (below_ext HBx1.out hE2)
        have HOx2 := Aside0.mk (HOx1.out.ext hE2)
        have hsx2 : x1.heap.size ≤ x2.heap.size := hE2.size
        clear hE2
        go_wp2_with fail
        obtain ⟨A8', c8', e8, hc8', hb8'⟩ := HOx2.out.open
        injection e8 with e81 e82 e83
        subst e81 e83
        have hcall := mcodeTwo_calls x2 A c xs A8 c8 al A3 c3 ts (HK.out.below HBx2.out HK.out.1) (HF.out.below HBx2.out HF.out.1) (HX.out.below HBx2.out) hc (by omega) hb8' hc8 (HT.out.below HBx2.out) hc3 (by omega)
        rw [← HAT.out] at hcall
        with_reducible refine hcall.mono ?_
        rintro e x3 ⟨rfl, hE3⟩
        have HBx3 := Aside0.mk (below_ext HBx2.out hE3)
        have HOx3 := Aside0.mk (HOx2.out.ext hE3)
        have hsx3 : x2.heap.size ≤ x3.heap.size := hE3.size
        have heq := eq28 x3 (Spec.code xs at') (Spec.code xs at') (Spec.code_length _ _) (Spec.code_length _ _)
        rw [beq_self_eq_true] at heq
        have HEQ3 := Aside0.mk heq
        clear hE3 heq hcall e82 hb8' hc8'
        go_wp2_with (with_reducible refine gate_dst (N := 87) rfl ?_; refine Aside0.out ?_)
        refine Aside0.mk ?_
        refine wpL_val (.bool true) (w1 := x3) (by rfl) (by simp [execOp, hashV, HEQ3.out, go_sem]) ?_
        go_wp2_with fail
        obtain ⟨A9', c9', e9, hc9', hb9'⟩ := HOx3.out.open
        injection e9 with e91 e92 e93
        subst e91 e93
        have hEm : Ext x3 (x3.alloc (.cells #[] 5)) := (Ext.refl _).alloc _
        have hcall := mcode_calls _ A c xs (some ⟨(x3.alloc (.cells #[] 5)).heap.size, 0, none⟩) 4 [al, [], ts, []] (((HK.out.below HBx3.out HK.out.1).ext hEm).ext ((Ext.refl _).alloc _)) (((HF.out.below HBx3.out HF.out.1).ext hEm).ext ((Ext.refl _).alloc _)) (((HX.out.below HBx3.out).ext hEm).ext ((Ext.refl _).alloc _)) hc (by omega)
          (bss_four (w := x3.alloc (.cells #[] 5)) (A := A8) (A1 := none) (A2 := A3) (A3 := some ⟨x3.heap.size, 0, none⟩) (c := c8) (c1 := 0) (c2 := c3) (c3 := 0) (xs := al) (ys := []) (zs := ts) (us := []) (hb9'.ext hEm) hc8 (Bs.none_ _ _) (Nat.le_refl _) ((HT.out.below HBx3.out).ext hEm) hc3 (Bs.none_ _ _) (Nat.le_refl _)) (by simp; omega)
        rw [show (x3.alloc (.cells #[] 5)).heap.size = x3.heap.size + 1 by simp, show [al, [], ts, []].length = 4 from rfl, show ([] : List UInt8).length = 0 from rfl, show [al, [], ts, []].flatten = at' by rw [HAT.out]; simp] at hcall
        with_reducible refine hcall.mono ?_
        rintro e x4 ⟨rfl, hE4⟩
        have hE4' : Ext x3 x4 := Ext.trans (hEm.alloc _) hE4
        have HBx4 := Aside0.mk (below_ext HBx3.out hE4')
        have HOx4 := Aside0.mk (HOx3.out.ext hE4')
        have hsx4 : x3.heap.size ≤ x4.heap.size := hE4'.size
        clear hE4 hE4' hcall hEm e92 hb9' hc9'
        obtain ⟨A9', c9', e9, hc9', hb9'⟩ := HOx4.out.open
        injection e9 with e91 e92 e93
        subst e91 e93
        have HR4 := Aside0.mk ((hb9'.ext ((Ext.refl x4).alloc (.cells #[] 5))).reads)
        clear e92 hb9' hc9'
        go_wp2_with (with_reducible refine gate_dst (N := 98) rfl ?_; refine Aside0.out ?_)
        refine Aside0.mk ?_
        refine gate_guard (by rfl) ?_
        dsimp only
        refine print_append_row (w0 := x4) x4.heap.size rfl _ _ 24 5 .u8 1 rfl Tryd.underlying24 info5 (by omega) (.slice (some ⟨x4.heap.size, 0, none⟩) 0 0) (ints []) (ints al) A8 al.length c8 rfl rfl (Ob.made x4) HR4.out ((Ext.refl x4).alloc _) (by simp) (by rw [ints_length]; simp; omega) ?_
        intro v5 x5 hO5 hB5 hg5 _
        have HO5 := Aside0.mk (show Ob x4.heap.size x5 v5 al by have h := hO5; rw [show ints [] ++ ints al = ints al from rfl] at h; exact h)
        have HB5 := Aside0.mk (show Ext x4 x5 from hB5)
        have HBx5 := Aside0.mk (below_ext HBx4.out hB5)
        clear hO5 hB5 hg5
        go_wp2_with (with_reducible refine gate_dst (N := 100) rfl ?_; refine Aside0.out ?_)
        refine Aside0.mk ?_
        refine gate_guard (by rfl) ?_
        dsimp only
        refine print_append_row (w0 := x4) x4.heap.size rfl _ _ 24 5 .u8 1 rfl Tryd.underlying24 info5 (by omega) v5 (ints al) (ints ts) A3 ts.length c3 rfl rfl HO5.out (HT.out.below HBx5.out).reads HB5.out HB5.out.size (by rw [ints_length]; omega) ?_
        intro v6 x6 hO6 hB6 hg6 _
        have HO6 := Aside0.mk (show Ob x4.heap.size x6 v6 at' by have h := hO6; rw [show ints al ++ ints ts = ints at' by rw [HAT.out]; simp [ints]] at h; exact h)
        have HBx6 := Aside0.mk (below_ext HBx4.out (show Ext x4 x6 from hB6))
        clear hO6 hB6 hg6
        obtain ⟨A6, c6, rfl, hc6, hb6⟩ := HO6.out.open
        have HB6 := Aside0.mk hb6
        clear hb6
        go_wp2_with fail
        with_reducible refine (mcodeOne_calls x6 A c xs A6 c6 at' (HK.out.below HBx6.out HBK.out) (HF.out.below HBx6.out HBF.out) (HX.out.below HBx6.out) hc (by omega) HB6.out hc6 (by omega)).mono ?_
        rintro e x7 ⟨rfl, hE7⟩
        have HBx7 := Aside0.mk (below_ext HBx6.out hE7)
        have heq := eq28 x7 (Spec.code xs at') (Spec.code xs at') (Spec.code_length _ _) (Spec.code_length _ _)
        rw [beq_self_eq_true] at heq
        have HEQ7 := Aside0.mk heq
        clear hE7 heq
        go_wp2_with (with_reducible refine gate_dst (N := 103) rfl ?_; refine Aside0.out ?_)
        refine Aside0.mk ?_
        refine wpL_val (.bool true) (w1 := x7) (by rfl) (by simp [execOp, hashV, HEQ7.out, go_sem]) ?_
        go_wp2
        go_ret
        exact ⟨rfl, HBx7.out⟩
      · have h4' : ¬ ((4000 : Int) < al.length) := by omega
        clear hB hY hO hb8 hnx hold hal hbs hq hxw hfl1
        go_wp2_with fail
        refine (kcopy_calls wr G S xs al HY.out).mono ?_
        rintro e w4 ⟨G2, S2, rfl, hg2, hs2, hE4, hY4⟩
        have HE4 := Aside0.mk hE4
        have HB4 := Aside0.mk (below_ext HB.out hE4)
        have HY4 := Aside0.mk hY4
        have HYk := Aside0.mk (HY.out.ext hE4)
        have hSS : S < wr.heap.size := by omega
        clear hE4 hY4 hcell
        go_wp2_with fail
        refine (kcode_calls w4 G2 S2 xs al (HK.out.below HB4.out HK.out.1) (HF.out.below HB4.out HF.out.1) HY4.out (by omega)).mono ?_
        rintro e w5 ⟨rfl, hE5⟩
        have HE5 := Aside0.mk (HE4.out.trans hE5)
        have HB5 := Aside0.mk (below_ext HB4.out hE5)
        have HY5 := Aside0.mk (HY4.out.ext hE5)
        have HYk5 := Aside0.mk (HYk.out.ext hE5)
        clear hE5
        go_wp2_with fail
        refine (kcode_calls w5 G S xs al (HK.out.below HB5.out HK.out.1) (HF.out.below HB5.out HF.out.1) HYk5.out (by omega)).mono ?_
        rintro e w6 ⟨rfl, hE6⟩
        have HE6 := Aside0.mk (HE5.out.trans hE6)
        have HB6 := Aside0.mk (below_ext HB5.out hE6)
        have HY6 := Aside0.mk (HY5.out.ext hE6)
        have HYk6 := Aside0.mk (HYk5.out.ext hE6)
        have heq := eq28 w6 (Spec.code xs al) (Spec.code xs al) (Spec.code_length _ _) (Spec.code_length _ _)
        rw [beq_self_eq_true] at heq
        have HEQ := Aside0.mk heq
        clear hE6 heq
        go_wp2_with (with_reducible refine gate_dst (N := 40) rfl ?_; refine Aside0.out ?_)
        refine Aside0.mk ?_
        refine wpL_val (.bool false) (w1 := w6) (by rfl) (by simp [execOp, hashV, HEQ.out, go_sem]) ?_
        have HO6 := Aside0.mk (HO.out.ext HE6.out)
        have hsz6 : wr.heap.size ≤ w6.heap.size := HE6.out.size
        obtain ⟨ib, hib⟩ : ∃ ib, ib = UInt8.ofNat k := ⟨_, rfl⟩
        rw [← hib] at hkb
        clear hib
        go_wp2_with fail
        have hEb : Ext w6 (w6.alloc (.cells #[.int .u8 (n8 ib)] 5)) := (Ext.refl _).alloc _
        refine (kwrite_calls _ G2 S2 xs al (some ⟨w6.heap.size, 0, none⟩) 1 [ib] (HK.out.below (below_ext HB6.out hEb) HK.out.1) (HY6.out.ext hEb) (Bs.one w6 ib) (Nat.le_refl _) (fun a ha _ => by cases ha; have := HY6.out.st.choose_spec.2.lt; show w6.heap.size ≠ S2; omega) (by simp; omega)).mono ?_
        rintro e w7 ⟨rfl, hO7, hY7⟩
        have HB7 := Aside0.mk (below_only (below_ext HB6.out hEb) hO7 (by have := HB.out.size; omega) (by have := HB6.out.size; simp; omega))
        have HY7 := Aside0.mk hY7
        have hne2 : S2 ≠ S := by omega
        have hne3 : S2 ≠ G := by omega
        have HYk7 := Aside0.mk ((HYk6.out.ext hEb).only hO7 hne3.symm hne2.symm)
        have HO7 := Aside0.mk ((HO6.out.ext hEb).only2 hO7 (show w6.heap.size ≥ 0 by omega) (fun k' hk' => by have := own_lt HO.out k' hk'; omega))
        have hsz7 : w6.heap.size ≤ w7.heap.size := by have := hO7.size; simp at this; omega
        clear hEb hO7 hY7
        go_wp2_with fail
        refine (kcode_calls w7 G2 S2 xs (al ++ [ib]) (HK.out.below HB7.out HK.out.1) (HF.out.below HB7.out HF.out.1) HY7.out (by simp; omega)).mono ?_
        rintro e w8 ⟨rfl, hE8⟩
        have HB8' := Aside0.mk (below_ext HB7.out hE8)
        have HYk8 := Aside0.mk (HYk7.out.ext hE8)
        have HO8 := Aside0.mk (HO7.out.ext hE8)
        have hsz8 : w7.heap.size ≤ w8.heap.size := hE8.size
        clear hE8
        go_wp2_with fail
        obtain ⟨A8', c8', e8, hc8', hb8'⟩ := HO8.out.open
        injection e8 with e81 e82 e83
        subst e81 e83
        have hEb : Ext w8 (w8.alloc (.cells #[.int .u8 (n8 ib)] 5)) := (Ext.refl _).alloc _
        have hcall := mcodeTwo_calls (w8.alloc (.cells #[.int .u8 (n8 ib)] 5)) A c xs A8 c8 al (some ⟨w8.heap.size, 0, none⟩) 1 [ib] (HK.out.below (below_ext HB8'.out hEb) HK.out.1) (HF.out.below (below_ext HB8'.out hEb) HF.out.1) (HX.out.below (below_ext HB8'.out hEb)) hc (by omega) (hb8'.ext hEb) hc8 (Bs.one w8 ib) (Nat.le_refl _) (by simp; omega)
        rw [show (w8.alloc (.cells #[.int .u8 (n8 ib)] 5)).heap.size = w8.heap.size + 1 by simp, show [ib].length = 1 from rfl] at hcall
        with_reducible refine hcall.mono ?_
        rintro e w9 ⟨rfl, hE9⟩
        have HE9 := Aside0.mk (hEb.trans hE9)
        have HB9 := Aside0.mk (below_ext HB8'.out (hEb.trans hE9))
        have HYk9 := Aside0.mk (HYk8.out.ext (hEb.trans hE9))
        have HO9 := Aside0.mk (HO8.out.ext (hEb.trans hE9))
        have hsz9 : w8.heap.size ≤ w9.heap.size := (hEb.trans hE9).size
        have heq := eq28 w9 (Spec.code xs (al ++ [ib])) (Spec.code xs (al ++ [ib])) (Spec.code_length _ _) (Spec.code_length _ _)
        rw [beq_self_eq_true] at heq
        have HEQ9 := Aside0.mk heq
        have HQ9 := Aside0.mk ((HQ.out.below (below_ext HB8'.out (hEb.trans hE9))).ext ((Ext.refl _).alloc (.cells #[] 5)))
        clear hEb hE9 heq e82 hb8' hc8' hcall
        go_wp2_with (with_reducible refine gate_dst (N := 56) rfl ?_; refine Aside0.out ?_)
        refine Aside0.mk ?_
        refine wpL_val (.bool true) (w1 := w9) (by rfl) (by simp [execOp, hashV, HEQ9.out, go_sem]) ?_
        go_wp2_with (with_reducible refine gate_dst (N := 60) rfl ?_; refine Aside0.out ?_)
        refine Aside0.mk ?_
        refine wpL_append (F := fun v1 wa => Ext (w9.alloc (.cells #[] 5)) wa ∧ Fr (w9.alloc (.cells #[] 5)).heap.size wa v1 q) rfl ?_ ?_
        · obtain ⟨v1, w4, hr, hE, hF⟩ := run_copyB (w9.alloc (.cells #[] 5)) 24 ⟨w9.heap.size, 0, none⟩ A' c' q HQ9.out (by omega)
          exact ⟨v1, w4, hr, hE, hF⟩
        rintro v1 wa ⟨hEa, hFa⟩
        obtain ⟨Aa, ca, rfl, hca, hba, hfa⟩ := hFa
        have HEa := Aside0.mk (Ext.trans ((Ext.refl w9).alloc _) hEa)
        have HBa := Aside0.mk (below_ext HB9.out HEa.out)
        have HYka := Aside0.mk (HYk9.out.ext HEa.out)
        have HOa := Aside0.mk (HO9.out.ext HEa.out)
        have HBba := Aside0.mk hba
        have HFa := Aside0.mk hfa
        have hsza : w9.heap.size ≤ wa.heap.size := HEa.out.size
        clear hEa hba hfa
        go_wp2_with fail
        refine (kwrite_calls wa G S xs al Aa ca q (HK.out.below HBa.out HK.out.1) HYka.out HBba.out hca (fun a ha hp => by have := HFa.out a ha hp; simp at this; omega) (by omega)).mono ?_
        rintro e wb ⟨rfl, hOb, hYb⟩
        have HBb := Aside0.mk (below_only HBa.out hOb hwS (by have := HBa.out.size; omega))
        have HYb := Aside0.mk hYb
        have HOb := Aside0.mk (HOa.out.only hOb hSN)
        have hszb : wa.heap.size ≤ wb.heap.size := hOb.size
        have HQb := Aside0.mk (HQ.out.below HBb.out)
        clear hOb hYb
        go_wp2_with (with_reducible refine gate_dst (N := 64) rfl ?_; refine Aside0.out ?_)
        refine Aside0.mk ?_
        refine print_append_row (w0 := wb) N1 rfl _ _ 24 5 .u8 1 rfl Tryd.underlying24 info5 (by omega) (.slice A8 al.length c8) (ints al) (ints q) A' q.length c' rfl rfl HOb.out HQb.out.reads (Below.refl _ _) (by omega) (by rw [ints_length]; omega) ?_
        intro vc wc hOc hBc hgc _
        obtain ⟨aq, haq⟩ : ∃ aq, aq = al ++ q := ⟨_, rfl⟩
        have HAQ := Aside0.mk haq
        have haql : aq.length ≤ 1048576 := by rw [haq, List.length_append]; omega
        have HOc := Aside0.mk (show Ob N1 wc vc aq by have h := hOc; rw [show ints al ++ ints q = ints aq by rw [haq]; simp [ints]] at h; exact h)
        have HYc := Aside0.mk (show Ky wc G S xs aq by rw [haq]; exact HYb.out.under hBc hGN hSN)
        have HBc := Aside0.mk (HBb.out.trans (hBc.mono (show w.heap.size ≤ N1 by omega)))
        have hszc : wb.heap.size ≤ wc.heap.size := hBc.size
        clear hOc hBc hgc haq
        obtain ⟨Ac, cc, rfl, hcc, hbc⟩ := HOc.out.open
        have HBbc := Aside0.mk hbc
        clear hbc
        go_wp2_with fail
        refine (kcode_calls wc G S xs aq (HK.out.below HBc.out HK.out.1) (HF.out.below HBc.out HF.out.1) HYc.out (by omega)).mono ?_
        rintro e wd ⟨rfl, hEd⟩
        have HBd := Aside0.mk (below_ext HBc.out hEd)
        have HYd := Aside0.mk (HYc.out.ext hEd)
        have HOd := Aside0.mk (HOc.out.ext hEd)
        have HBbd := Aside0.mk (HBbc.out.ext hEd)
        have hszd : wc.heap.size ≤ wd.heap.size := hEd.size
        clear hEd
        go_wp2_with fail
        refine (mcodeOne_calls wd A c xs Ac cc aq (HK.out.below HBd.out HK.out.1) (HF.out.below HBd.out HF.out.1) (HX.out.below HBd.out) hc (by omega) HBbd.out hcc (by omega)).mono ?_
        rintro e we ⟨rfl, hEe⟩
        have HBe := Aside0.mk (below_ext HBd.out hEe)
        have HYe := Aside0.mk (HYd.out.ext hEe)
        have HOe := Aside0.mk (HOd.out.ext hEe)
        have hsze : wd.heap.size ≤ we.heap.size := hEe.size
        have heq := eq28 we (Spec.code xs aq) (Spec.code xs aq) (Spec.code_length _ _) (Spec.code_length _ _)
        rw [beq_self_eq_true] at heq
        have HEQe := Aside0.mk heq
        clear hEe heq
        go_wp2_with (with_reducible refine gate_dst (N := 74) rfl ?_; refine Aside0.out ?_)
        refine Aside0.mk ?_
        refine wpL_val (.bool false) (w1 := we) (by rfl) (by simp [execOp, hashV, HEQe.out, go_sem]) ?_
        go_wp2
        go_roundw
        case rel => exact ⟨k + 1, by omega, by simp, by omega, HBe.out, by rw [HNX.out, ← HAQ.out]; exact HYe.out, by rw [HNX.out, ← HAQ.out]; exact HOe.out⟩
        case measure => simp [intOf]; omega
    · obtain rfl : k = ps.length := by omega
      obtain ⟨al, hal⟩ : ∃ al, al = (ps.take ps.length).flatten := ⟨_, rfl⟩
      rw [← hal] at hY hO hfl
      obtain ⟨A8, c8, rfl, hc8, hb8⟩ := hO.open
      have HB := Aside0.mk hB
      have HY := Aside0.mk hY
      have HO := Aside0.mk hO
      clear hB hY hO hb8 hal hxw
      have hcat : (al ++ ts).length ≤ 3000000 := by rw [List.length_append]; omega
      obtain ⟨at', hat⟩ : ∃ at', at' = al ++ ts := ⟨_, rfl⟩
      have HAT := Aside0.mk hat
      have hatl : at'.length ≤ 3000000 := by rw [hat]; exact hcat
      clear hat hcat
      go_wp2_with fail
      refine (kwrite_calls wr G S xs al A3 c3 ts (HK.out.below HB.out HK.out.1) HY.out (HT.out.below HB.out) hc3 (fun a ha hp => by have := fr_lt HT.out a ha hp; omega) (by omega)).mono ?_
      rintro e x1 ⟨rfl, hO1, hY1⟩
      rw [← HAT.out] at hY1
      have HBx1 := Aside0.mk (below_only HB.out hO1 hwS (by have := HB.out.size; omega))
      have HYx1 := Aside0.mk hY1
      have HOx1 := Aside0.mk (HO.out.only hO1 hSN)
      have hsx1 : wr.heap.size ≤ x1.heap.size := hO1.size
      clear hO1 hY1
      go_wp2_with fail
      refine (kcode_calls x1 G S xs at' (HK.out.below HBx1.out HK.out.1) (HF.out.below HBx1.out HF.out.1) HYx1.out (by omega)).mono ?_
      rintro e x2 ⟨rfl, hE2⟩
      have HBx2 := Aside0.mk (below_ext HBx1.out hE2)
      have HOx2 := Aside0.mk (HOx1.out.ext hE2)
      have hsx2 : x1.heap.size ≤ x2.heap.size := hE2.size
      clear hE2
      go_wp2_with fail
      obtain ⟨A8', c8', e8, hc8', hb8'⟩ := HOx2.out.open
      injection e8 with e81 e82 e83
      subst e81 e83
      have hcall := mcodeTwo_calls x2 A c xs A8 c8 al A3 c3 ts (HK.out.below HBx2.out HK.out.1) (HF.out.below HBx2.out HF.out.1) (HX.out.below HBx2.out) hc (by omega) hb8' hc8 (HT.out.below HBx2.out) hc3 (by omega)
      rw [← HAT.out] at hcall
      with_reducible refine hcall.mono ?_
      rintro e x3 ⟨rfl, hE3⟩
      have HBx3 := Aside0.mk (below_ext HBx2.out hE3)
      have HOx3 := Aside0.mk (HOx2.out.ext hE3)
      have hsx3 : x2.heap.size ≤ x3.heap.size := hE3.size
      have heq := eq28 x3 (Spec.code xs at') (Spec.code xs at') (Spec.code_length _ _) (Spec.code_length _ _)
      rw [beq_self_eq_true] at heq
      have HEQ3 := Aside0.mk heq
      clear hE3 heq hcall e82 hb8' hc8'
      go_wp2_with (with_reducible refine gate_dst (N := 87) rfl ?_; refine Aside0.out ?_)
      refine Aside0.mk ?_
      refine wpL_val (.bool true) (w1 := x3) (by rfl) (by simp [execOp, hashV, HEQ3.out, go_sem]) ?_
      go_wp2_with fail
      obtain ⟨A9', c9', e9, hc9', hb9'⟩ := HOx3.out.open
      injection e9 with e91 e92 e93
      subst e91 e93
      have hEm : Ext x3 (x3.alloc (.cells #[] 5)) := (Ext.refl _).alloc _
      have hcall := mcode_calls _ A c xs (some ⟨(x3.alloc (.cells #[] 5)).heap.size, 0, none⟩) 4 [al, [], ts, []] (((HK.out.below HBx3.out HK.out.1).ext hEm).ext ((Ext.refl _).alloc _)) (((HF.out.below HBx3.out HF.out.1).ext hEm).ext ((Ext.refl _).alloc _)) (((HX.out.below HBx3.out).ext hEm).ext ((Ext.refl _).alloc _)) hc (by omega)
        (bss_four (w := x3.alloc (.cells #[] 5)) (A := A8) (A1 := none) (A2 := A3) (A3 := some ⟨x3.heap.size, 0, none⟩) (c := c8) (c1 := 0) (c2 := c3) (c3 := 0) (xs := al) (ys := []) (zs := ts) (us := []) (hb9'.ext hEm) hc8 (Bs.none_ _ _) (Nat.le_refl _) ((HT.out.below HBx3.out).ext hEm) hc3 (Bs.none_ _ _) (Nat.le_refl _)) (by simp; omega)
      rw [show (x3.alloc (.cells #[] 5)).heap.size = x3.heap.size + 1 by simp, show [al, [], ts, []].length = 4 from rfl, show ([] : List UInt8).length = 0 from rfl, show [al, [], ts, []].flatten = at' by rw [HAT.out]; simp] at hcall
      with_reducible refine hcall.mono ?_
      rintro e x4 ⟨rfl, hE4⟩
      have hE4' : Ext x3 x4 := Ext.trans (hEm.alloc _) hE4
      have HBx4 := Aside0.mk (below_ext HBx3.out hE4')
      have HOx4 := Aside0.mk (HOx3.out.ext hE4')
      have hsx4 : x3.heap.size ≤ x4.heap.size := hE4'.size
      clear hE4 hE4' hcall hEm e92 hb9' hc9'
      obtain ⟨A9', c9', e9, hc9', hb9'⟩ := HOx4.out.open
      injection e9 with e91 e92 e93
      subst e91 e93
      have HR4 := Aside0.mk ((hb9'.ext ((Ext.refl x4).alloc (.cells #[] 5))).reads)
      clear e92 hb9' hc9'
      go_wp2_with (with_reducible refine gate_dst (N := 98) rfl ?_; refine Aside0.out ?_)
      refine Aside0.mk ?_
      refine gate_guard (by rfl) ?_
      dsimp only
      refine print_append_row (w0 := x4) x4.heap.size rfl _ _ 24 5 .u8 1 rfl Tryd.underlying24 info5 (by omega) (.slice (some ⟨x4.heap.size, 0, none⟩) 0 0) (ints []) (ints al) A8 al.length c8 rfl rfl (Ob.made x4) HR4.out ((Ext.refl x4).alloc _) (by simp) (by rw [ints_length]; simp; omega) ?_
      intro v5 x5 hO5 hB5 hg5 _
      have HO5 := Aside0.mk (show Ob x4.heap.size x5 v5 al by have h := hO5; rw [show ints [] ++ ints al = ints al from rfl] at h; exact h)
      have HB5 := Aside0.mk (show Ext x4 x5 from hB5)
      have HBx5 := Aside0.mk (below_ext HBx4.out hB5)
      clear hO5 hB5 hg5
      go_wp2_with (with_reducible refine gate_dst (N := 100) rfl ?_; refine Aside0.out ?_)
      refine Aside0.mk ?_
      refine gate_guard (by rfl) ?_
      dsimp only
      refine print_append_row (w0 := x4) x4.heap.size rfl _ _ 24 5 .u8 1 rfl Tryd.underlying24 info5 (by omega) v5 (ints al) (ints ts) A3 ts.length c3 rfl rfl HO5.out (HT.out.below HBx5.out).reads HB5.out HB5.out.size (by rw [ints_length]; omega) ?_
      intro v6 x6 hO6 hB6 hg6 _
      have HO6 := Aside0.mk (show Ob x4.heap.size x6 v6 at' by have h := hO6; rw [show ints al ++ ints ts = ints at' by rw [HAT.out]; simp [ints]] at h; exact h)
      have HBx6 := Aside0.mk (below_ext HBx4.out (show Ext x4 x6 from hB6))
      clear hO6 hB6 hg6
      obtain ⟨A6, c6, rfl, hc6, hb6⟩ := HO6.out.open
      have HB6 := Aside0.mk hb6
      clear hb6
      go_wp2_with fail
      with_reducible refine (mcodeOne_calls x6 A c xs A6 c6 at' (HK.out.below HBx6.out HBK.out) (HF.out.below HBx6.out HBF.out) (HX.out.below HBx6.out) hc (by omega) HB6.out hc6 (by omega)).mono ?_
      rintro e x7 ⟨rfl, hE7⟩
      have HBx7 := Aside0.mk (below_ext HBx6.out hE7)
      have heq := eq28 x7 (Spec.code xs at') (Spec.code xs at') (Spec.code_length _ _) (Spec.code_length _ _)
      rw [beq_self_eq_true] at heq
      have HEQ7 := Aside0.mk heq
      clear hE7 heq
      go_wp2_with (with_reducible refine gate_dst (N := 103) rfl ?_; refine Aside0.out ?_)
      refine Aside0.mk ?_
      refine wpL_val (.bool true) (w1 := x7) (by rfl) (by simp [execOp, hashV, HEQ7.out, go_sem]) ?_
      go_wp2
      go_ret
      exact ⟨rfl, HBx7.out⟩
end Go.Proofs.YtnkhhnfmijljbaaDoor
