
import Derived.Test.YthhemephaabblaaGreatDoorZDf
import Derived.Deep.WholeRow
import Derived.Lib.SliceRun
namespace Go.Proofs.YthhemephaabblaaGreatDoor.Hq
open Go.RowKit Go.Proofs.YthhemephaabblaaGreatDoorW.PrintWords Go.Proofs.YthhemephaabblaaGreatDoorW.PrintLast Go.Proofs.YthhemephaabblaaGreatDoorW.PrintMore Go.Proofs.YthhemephaabblaaGreatDoor
set_option linter.unusedVariables false
set_option linter.unusedSimpArgs false
def s92 : ByteArray := ⟨#[92]⟩
def s9292 : ByteArray := ⟨#[92, 92]⟩
def s34 : ByteArray := ⟨#[34]⟩
def s9234 : ByteArray := ⟨#[92, 34]⟩
theorem strC_one (W : World) (x : ByteArray) : Kd.C Kd.string (W.alloc (.cells #[.string x] 9)) (some ⟨W.heap.size, 0, none⟩) 1 [x] :=
 Kd.C_of_reads (h1 := fun _ => rfl) (d := ByteArray.empty) ⟨rfl, by simp, fun _ => ⟨_, rfl, fun j hj => by
  obtain rfl : j = 0 := by omega
  have := (Row.alloc W [.string x] 9).cell (k := 0) (v := .string x) rfl
  rw [add_plain]
  exact this⟩⟩
theorem bs_of_reads {w : World} {A : Option Addr} {n : Nat} {xs : List UInt8} (h : ReadsInt w .u8 A n (ints xs)) : Bs w A n xs := Kd.C_of_reads (h1 := fun _ => rfl) (d := (0 : Int)) h
theorem add_block (ad : Addr) (j : Nat) : (ad.add j).block = ad.block := by unfold Addr.add; split <;> rfl
theorem bs_move {w w' : World} {ad : Addr} {n : Nat} {xs : List UInt8} (h : Bs w (some ad) n xs) (he : w'.heap[ad.block]? = w.heap[ad.block]?) : Bs w' (some ad) n xs := by
 obtain ⟨h1, h2, h3⟩ := h.reads
 refine bs_of_reads ⟨h1, h2, fun hp => ?_⟩
 obtain ⟨a', ha, hc⟩ := h3 hp
 refine ⟨a', ha, fun j hj => ?_⟩
 obtain rfl := Option.some.inj ha
 rw [← hc j hj]
 unfold World.cell?
 rw [add_block, he]
def nilS : Value := .slice none 0 0
def T (a b t : Value) : List Value := (((List.replicate 257 nilS).set 34 a).set 92 b).set 256 t
theorem T_len (a b t : Value) : (T a b t).length = 257 := by unfold T; rw [List.length_set, List.length_set, List.length_set, List.length_replicate]
theorem T_get (a b t : Value) (k : Nat) (hk : k < 256) : (T a b t)[k]? = some (if k = 34 then a else if k = 92 then b else nilS) := by
 unfold T
 rw [List.getElem?_set_ne (by omega)]
 by_cases h92 : k = 92
 ·
  subst h92
  rw [List.getElem?_set_self (by rw [List.length_set, List.length_replicate]; decide)]
  rfl
 ·
  rw [List.getElem?_set_ne (by omega)]
  by_cases h34 : k = 34
  ·
   subst h34
   rw [List.getElem?_set_self (by rw [List.length_replicate]; decide)]
   rfl
  ·
   rw [List.getElem?_set_ne (by omega), List.getElem?_replicate, if_pos (by omega), if_neg h34, if_neg h92]
theorem T_256 (a b t : Value) : (T a b t)[256]? = some t := by
 unfold T
 rw [List.getElem?_set_self (by rw [List.length_set, List.length_set, List.length_replicate]; decide)]
theorem T_set34 (a b t x : Value) : (T a b t).set 34 x = T x b t := by
 unfold T
 rw [List.set_comm _ _ (by decide : (256 : Nat) ≠ 34), List.set_comm _ _ (by decide : (92 : Nat) ≠ 34), List.set_set]
theorem T_set92 (a b t x : Value) : (T a b t).set 92 x = T a x t := by
 unfold T
 rw [List.set_comm _ _ (by decide : (256 : Nat) ≠ 92), List.set_set]
theorem T_set256 (a b t x : Value) : (T a b t).set 256 x = T a b x := by
 unfold T
 rw [List.set_set]
theorem T_start (v : Value) : Tryz.zeroCells153.toList.set 256 v = T nilS nilS v := by
 have h : Tryz.zeroCells153.toList = List.replicate 257 nilS := by kernel_rfl
 rw [h]
 unfold T
 have e1 : (List.replicate 257 nilS).set 34 nilS = List.replicate 257 nilS := by kernel_rfl
 have e2 : (List.replicate 257 nilS).set 92 nilS = List.replicate 257 nilS := by kernel_rfl
 rw [e1, e2]
theorem T_one (a b t : Value) (ha : a.oneCell' = true) (hb : b.oneCell' = true) (ht : t.oneCell' = true) : (T a b t).toArray.all (·.oneCell') = true := by
 simp only [List.all_toArray, List.all_eq_true]
 intro x hx
 unfold T at hx
 rcases List.mem_or_eq_of_mem_set hx with hx | rfl
 ·
  rcases List.mem_or_eq_of_mem_set hx with hx | rfl
  ·
   rcases List.mem_or_eq_of_mem_set hx with hx | rfl
   ·
    rw [List.eq_of_mem_replicate hx]; rfl
   ·
    exact ha
  ·
   exact hb
 ·
  exact ht
theorem store_start (W : World) (A : Option Addr) (n c : Nat) : (storeCells ⟨W.heap.size, 0, none⟩ (Tryz.zeroCells153.toList.set 256 (.slice A n c))).run Tryz.prog (W.alloc (.cells Tryz.zeroCells153 153)) = .ok () (W.alloc (.cells (T nilS nilS (.slice A n c)).toArray 153)) := by
 have h := run_storeCells_new (P := Tryz.prog) W 153 Tryz.zeroCells153 (T nilS nilS (.slice A n c)).toArray (by rw [List.size_toArray, T_len]; kernel_rfl) ((by kernel_rfl : Tryz.zeroCells153.size = 257).trans (by rw [List.size_toArray, T_len])) (T_one _ _ _ rfl rfl rfl)
 rw [T_start]
 simpa using h
def Rpl (N : Nat) (w : World) (B : Nat) : Prop := ∃ (p q cp cq ct : Nat) (ad : Addr), Row w B (T (.slice (some ⟨p, 0, none⟩) 2 cp) (.slice (some ⟨q, 0, none⟩) 2 cq) (.slice (some ad) 2 ct)) 153 ∧ w.cell? ad = some (.string s34) ∧ w.cell? ⟨ad.block, ad.off + 1, none⟩ = some (.string s92) ∧ Bs w (some ⟨p, 0, none⟩) 2 [92, 34] ∧ Bs w (some ⟨q, 0, none⟩) 2 [92, 92] ∧ N ≤ B ∧ N ≤ p ∧ N ≤ q ∧ N ≤ ad.block
theorem Rpl.set {N g B k : Nat} {w : World} (h : Rpl N w B) (hg : g < N) (v : Value) : Rpl N (w.setCell ⟨g, k, none⟩ v) B := by
 obtain ⟨p, q, cp, cq, ct, ad, h1, h2, h3, h4, h5, h6, h7, h8, h9⟩ := h
 have hh : ∀ b, b ≠ g → (w.setCell ⟨g, k, none⟩ v).heap[b]? = w.heap[b]? := fun b hb => Below.heap_setCell w ⟨g, k, none⟩ v b hb
 refine ⟨p, q, cp, cq, ct, ad, h1.other _ _ (by show B ≠ g; omega), ?_, ?_, bs_move h4 (hh _ (by show p ≠ g; omega)), bs_move h5 (hh _ (by show q ≠ g; omega)), h6, h7, h8, h9⟩
 ·
  rw [← h2]; unfold World.cell?; rw [hh _ (by omega)]
 ·
  rw [← h3]; unfold World.cell?; rw [hh _ (by show ad.block ≠ g; omega)]
theorem Rpl.ext {N B : Nat} {w w' : World} (h : Rpl N w B) (hE : Ext w w') : Rpl N w' B := by
 obtain ⟨p, q, cp, cq, ct, ad, h1, h2, h3, h4, h5, h6⟩ := h
 exact ⟨p, q, cp, cq, ct, ad, h1.ext hE, cell_ext hE h2, cell_ext hE h3, h4.ext hE, h5.ext hE, h6⟩
def Stg (w0 : World) (B : Nat) (wr : World) : Nat → Prop
 | 0 => ∃ tv, Row wr B (T nilS nilS tv) 153 ∧ Kd.string.R 9 wr w0.heap.size (fun _ => True) tv []
 | 1 => ∃ p cp tv, Row wr B (T (.slice (some ⟨p, 0, none⟩) 2 cp) nilS tv) 153 ∧ Kd.string.R 9 wr w0.heap.size (fun k => k ≠ p) tv [s34] ∧ Bs wr (some ⟨p, 0, none⟩) 2 [92, 34] ∧ p ≠ B ∧ w0.heap.size ≤ p
 | _ => Rpl w0.heap.size wr B
set_option maxRecDepth 100000 in
set_option maxHeartbeats 3200000 in
theorem build_calls (g : Nat) (d st : Int) (A : Option Addr) (c : Nat) (w : World) (h : RepB w g d st .nilIface (.slice A 4 c)) (hr : Kd.C Kd.string w A 4 [s92, s9292, s34, s9234]) :
  Calls Tryz.prog 78 #[.pointer (some ⟨g, 0, none⟩)] w fun e w' => ∃ B, e = .returned (.iface 154 (.pointer (some ⟨B, 0, none⟩))) ∧ Rpl w.heap.size w' B ∧ w.heap.size ≤ B ∧ Below w.heap.size w w' := by
 have h4 := h.c4
 obtain ⟨ad, hA, e0⟩ := Kd.at_string hr 0 (by decide) (by decide)
 have e1 : w.cell? (ad.add 1) = some (.string s9292) := by
  obtain ⟨ad', hA', e⟩ := Kd.at_string hr 1 (by decide) (by decide)
  rw [hA] at hA'; obtain rfl := Option.some.inj hA'; exact e
 have e2 : w.cell? (ad.add 2) = some (.string s34) := by
  obtain ⟨ad', hA', e⟩ := Kd.at_string hr 2 (by decide) (by decide)
  rw [hA] at hA'; obtain rfl := Option.some.inj hA'; exact e
 have e3 : w.cell? (ad.add 3) = some (.string s9234) := by
  obtain ⟨ad', hA', e⟩ := Kd.at_string hr 3 (by decide) (by decide)
  rw [hA] at hA'; obtain rfl := Option.some.inj hA'; exact e
 have a0 : ad.add 0 = ad := by unfold Addr.add; simp
 replace e0 : w.cell? (ad.add 0) = some (.string s92) := e0
 have af : ∀ j, 0 < j → ad.add j = ⟨ad.block, ad.off + j, none⟩ := fun j hj => by
  have := add_field ad 0 j hj
  rw [Nat.zero_add, a0] at this
  exact this
 rw [a0] at e0
 rw [af 1 (by decide)] at e1
 rw [af 2 (by decide)] at e2
 rw [af 3 (by decide)] at e3
 subst hA
 have z92 : s92.size = 1 := rfl
 have z9292 : s9292.size = 2 := rfl
 have z34 : s34.size = 1 := rfl
 have z9234 : s9234.size = 2 := rfl
 go_enter Tryz.func78, Tryz.ntmps78
 go_wp2
 go_loopw [4, 5] (fun v i wr => wr = w ∧ ((v = .bool true ∧ i = .int .i64 0) ∨ (v = .bool false ∧ i = .int .i64 2) ∨ (v = .bool false ∧ i = .int .i64 4))) (fun _ i _ => 4 - (intOf i).toNat)
 case atStart => exact ⟨rfl, .inl ⟨rfl, rfl⟩⟩
 case round =>
  obtain ⟨rfl, ⟨rfl, rfl⟩ | ⟨rfl, rfl⟩ | ⟨rfl, rfl⟩⟩ := hrel
  ·
   go_wp2
   go_roundw
   case rel => simp
   case measure => simp [intOf]
  ·
   go_wp2
   go_roundw
   case rel => simp
   case measure => simp [intOf]
  ·
   go_wp2_with (first | ((with_reducible refine gate_dst (N := 94) rfl ?_); refine Aside0.out ?_))
   refine Aside0.mk ?_
   refine R_make0 Kd.string wr.heap.size 9 rfl (N := 94) rfl 22 _ _ rfl 2 rfl rfl Tryz.underlying22 (.string ⟨#[]⟩) 16 info9 rfl (by decide) (by decide) (ok := fun _ => True) (okp := fun _ => True) (fun _ h => h) trivial (by decide) (by decide) (Below.refl _ _) (Nat.le_refl _) ?_
   intro v1 w1 ho hb hg hat
   obtain ⟨A1, c1, rfl, hc1, hC1⟩ := own_string_open ho
   obtain ⟨W00, hW00⟩ : ∃ W, W = wr := ⟨_, rfl⟩
   subst hW00
   have hst := store_start w1 A1 0 c1
   go_wp2
   have hR0 : Row (w1.alloc (.cells (T nilS nilS (.slice A1 0 c1)).toArray 153)) w1.heap.size (T nilS nilS (.slice A1 0 c1)) 153 := Row.alloc _ _ _
   have hb0 : Below W00.heap.size W00 (w1.alloc (.cells (T nilS nilS (.slice A1 0 c1)).toArray 153)) := below_alloc hb _
   have ho0 := Kd.R_alloc ho (.cells (T nilS nilS (.slice A1 0 c1)).toArray 153)
   have hge : W00.heap.size ≤ w1.heap.size := hb.size
   generalize hBB : w1.heap.size = B at hR0 hge ⊢
   generalize hWW : w1.alloc (.cells (T nilS nilS (.slice A1 0 c1)).toArray 153) = W0 at hR0 hb0 ho0 ⊢
   clear hWW hBB hst hC1 ho hb hg hat
   have HR0 := Aside0.mk hR0
   have HB0 := Aside0.mk hb0
   have HO0 := Aside0.mk ho0
   clear hR0 hb0 ho0
   go_loopw [12] (fun i wq => ∃ k : Nat, k ≤ 2 ∧ i = .int .i64 (2 - 2 * (k : Int)) ∧ Below W00.heap.size W00 wq ∧ Stg W00 B wq k) (fun i _ => (intOf i + 3).toNat)
   case atStart => exact ⟨0, by omega, rfl, HB0.out, _, HR0.out, HO0.out⟩
   case round =>
    obtain ⟨k, hk, rfl, hB, hS⟩ := hrel
    have h3 : k = 0 ∨ k = 1 ∨ k = 2 := by omega
    rcases h3 with rfl | rfl | rfl
    ·
     obtain ⟨tv, hR, hO⟩ := hS
     have b2 := hR.cell (T_get nilS nilS tv 34 (by decide))
     have bt256 := hR.cell (T_256 nilS nilS tv)
     rw [if_pos rfl] at b2
     replace b2 : wr.cell? ⟨B, 34, none⟩ = some (.slice none 0 0) := b2
     obtain ⟨At, ct, rfl, hct, hCt⟩ := own_string_open hO
     replace bt256 : wr.cell? ⟨B, 256, none⟩ = some (.slice At 0 ct) := bt256
     have e2' := pw_cell_below hB e2
     have e3' := pw_cell_below hB e3
     have HR := Aside0.mk hR
     have HO := Aside0.mk hO
     have HB := Aside0.mk hB
     clear hR hO hB
     have hnn := fun W : World => Go.Lib.run_eql_slice_nil (P := Tryz.prog) W 95 5 none 0 0 0 0 Tryz.underlying95
     have hx34 : ∀ h : 0 < s34.size, (s34[0]'h).toNat = 34 := fun _ => rfl
     rw [show (2 - 2 * ((0 : Nat) : Int)) = 2 from rfl]
     have hcv1 := conv_str (c := 1) (Bs.one wr 34)
     rw [show strB [34] = s34 from rfl, show n8 34 = 34 from rfl] at hcv1
     go_wp2_with (first | ((with_reducible refine gate_dst (N := 124) rfl ?_); refine Aside0.out ?_))
     refine Aside0.mk ?_
     have HOa := Aside0.mk (Kd.R_alloc (Kd.R_alloc HO.out (.cells #[.int .u8 34] 5)) (.cells #[.string s34] 9))
     refine Kd.R_append_rows Kd.string W00.heap.size rfl (.tmp 119) (.tmp 123) 22 9 (.string ⟨#[]⟩) 16 rfl Tryz.underlying22 info9 rfl (by decide) (by omega) (.slice At 0 ct) [] [s34] _ 1 1 (fun _ => True) (fun _ => False) rfl rfl ?aO ?aR (fun _ _ h => h) (fun _ h => h.elim) ?aF (below_alloc (below_alloc HB.out _) _) ?aS ?aL ?_
     case aO => exact HOa.out
     case aR =>
      have hC1 := strC_one (wr.alloc (.cells #[.int .u8 34] 5)) s34
      rw [show (wr.alloc (.cells #[.int .u8 34] 5)).heap.size = wr.heap.size + 1 by simp] at hC1
      exact hC1
     case aF => exact fun _ _ => trivial
     case aS => have := HB.out.size; simp; omega
     case aL => decide
     intro v3 w3 ho3 hb3 hg3 hat3
     obtain ⟨A3, c3, rfl, hc3, hC3⟩ := own_string_open ho3
     have hne3 := Kd.R_ne HOa.out (Row.alloc_other (Row.alloc_other HR.out _) _) (by decide)
     have hR3 : Row w3 B _ 153 := blk_grown (Row.alloc_other (Row.alloc_other HR.out _) _) hg3 hne3
     have hc256 := hR3.cell (T_256 _ _ _)
     have hz256 := hR3.free 256
     obtain ⟨w4, hw4⟩ : ∃ w4, w4 = w3.setCell ⟨B, 256, none⟩ (.slice A3 1 c3) := ⟨_, rfl⟩
     have hR4 : Row w4 B (T nilS nilS (.slice A3 1 c3)) 153 := by
      rw [hw4, ← T_set256 nilS nilS (.slice At 0 ct)]
      exact hR3.set 256 _
     have hb4 : Below W00.heap.size W00 w4 := by
      rw [hw4]
      exact below_set hb3 hge
     have ho4 : Kd.string.R 9 w4 W00.heap.size (fun k => True ∧ k ≠ B) (.slice A3 1 c3) [s34] := by
      rw [hw4]
      exact Kd.R_far (Kd.R_types ho3 hR3 (by simp; decide)) (fun _ hk => hk.2) _
     have hcv2 := print_bytes (P := Tryz.prog) 9 95 5 Tryz.underlying9 Tryz.underlying95 Tryz.underlying5 s9234 w4
     have hR5 := hR4.below (bytes_below (Below.refl w4.heap.size w4) (Nat.le_refl _) 5 s9234) hR4.lt
     have hc34 : (Lib.bytesWorld w4 5 s9234).cell? ⟨B, 34, none⟩ = some (.slice none 0 0) := hR5.cell (T_get nilS nilS (.slice A3 1 c3) 34 (by decide))
     have hz34 := hR5.free 34
     have ho5 := Kd.R_below (Kd.R_bound ho4) (bytes_below (Below.refl w4.heap.size w4) (Nat.le_refl _) 5 s9234)
     have hb5 := bytes_below hb4 hb4.size 5 s9234
     have hrd := bytes_reads w4 5 s9234 (by decide)
     subst hw4
     have hB3 : B < w3.heap.size := hR3.lt
     have hsz3 : (w3.setCell ⟨B, 256, none⟩ (.slice A3 1 c3)).heap.size = w3.heap.size := by simp
     rw [z9234] at hcv2
     go_wp2
     go_roundw
     case rel =>
      rw [hsz3] at hrd
      refine ⟨1, by omega, rfl, below_set hb5 hge, w3.heap.size, grownCap (w3.setCell ⟨B, 256, none⟩ (.slice A3 1 c3)) 2 0 5, .slice A3 1 c3, ?_, ?_, ?_, by omega, by have := hb3.size; omega⟩
      ·
       have hq := hR5.set 34 (.slice (some ⟨w3.heap.size, 0, none⟩) 2 (grownCap (w3.setCell ⟨B, 256, none⟩ (.slice A3 1 c3)) 2 0 5))
       rw [T_set34] at hq
       exact hq
      ·
       have h6 := Kd.R_far (p := ⟨B, 34, none⟩) ho5 (fun _ hk => hk.1.2) (.slice (some ⟨w3.heap.size, 0, none⟩) 2 (grownCap (w3.setCell ⟨B, 256, none⟩ (.slice A3 1 c3)) 2 0 5))
       refine Kd.R_mono h6 (fun k hk => ?_)
       have := hk.2.2
       rw [hsz3] at this
       omega
      ·
       exact (bs_of_reads (xs := [92, 34]) hrd).only (Only.set (Only.refl _ B) _ _) (fun ad he _ => by cases he; show w3.heap.size ≠ B; omega)
     case measure => simp [intOf]
    ·
     obtain ⟨p, cp, tv, hR, hO, hBp, hpB, hpN⟩ := hS
     have b2 := hR.cell (T_get (.slice (some ⟨p, 0, none⟩) 2 cp) nilS tv 92 (by decide))
     have bt256 := hR.cell (T_256 (.slice (some ⟨p, 0, none⟩) 2 cp) nilS tv)
     rw [if_neg (by decide), if_pos rfl] at b2
     replace b2 : wr.cell? ⟨B, 92, none⟩ = some (.slice none 0 0) := b2
     obtain ⟨At, ct, rfl, hct, hCt⟩ := own_string_open hO
     replace bt256 : wr.cell? ⟨B, 256, none⟩ = some (.slice At 1 ct) := bt256
     have e2' := pw_cell_below hB e0
     have e3' := pw_cell_below hB e1
     have hplt : p < wr.heap.size := fr_lt hBp _ rfl (by decide)
     have hpo := hO.1
     have HBP := Aside0.mk hBp
     have HPO := Aside0.mk hpo
     clear hBp hpo
     have HR := Aside0.mk hR
     have HO := Aside0.mk hO
     have HB := Aside0.mk hB
     clear hR hO hB
     have hnn := fun W : World => Go.Lib.run_eql_slice_nil (P := Tryz.prog) W 95 5 none 0 0 0 0 Tryz.underlying95
     have hx34 : ∀ h : 0 < s92.size, (s92[0]'h).toNat = 92 := fun _ => rfl
     rw [show (2 - 2 * ((1 : Nat) : Int)) = 0 from rfl]
     have hcv1 := conv_str (c := 1) (Bs.one wr 92)
     rw [show strB [92] = s92 from rfl, show n8 92 = 92 from rfl] at hcv1
     go_wp2_with (first | ((with_reducible refine gate_dst (N := 124) rfl ?_); refine Aside0.out ?_))
     refine Aside0.mk ?_
     have HOa := Aside0.mk (Kd.R_alloc (Kd.R_alloc HO.out (.cells #[.int .u8 92] 5)) (.cells #[.string s92] 9))
     refine Kd.R_append_rows Kd.string W00.heap.size rfl (.tmp 119) (.tmp 123) 22 9 (.string ⟨#[]⟩) 16 rfl Tryz.underlying22 info9 rfl (by decide) (by omega) (.slice At 1 ct) [s34] [s92] _ 1 1 (fun k => k ≠ p) (fun _ => False) rfl rfl ?aO ?aR (fun _ _ h => h) (fun _ h => h.elim) ?aF (below_alloc (below_alloc HB.out _) _) ?aS ?aL ?_
     case aO => exact HOa.out
     case aR =>
      have hC1 := strC_one (wr.alloc (.cells #[.int .u8 92] 5)) s92
      rw [show (wr.alloc (.cells #[.int .u8 92] 5)).heap.size = wr.heap.size + 1 by simp] at hC1
      exact hC1
     case aF => intro k hk; simp at hk; show k ≠ p; omega
     case aS => have := HB.out.size; simp; omega
     case aL => decide
     intro v3 w3 ho3 hb3 hg3 hat3
     obtain ⟨A3, c3, rfl, hc3, hC3⟩ := own_string_open ho3
     have hne3 := Kd.R_ne HOa.out (Row.alloc_other (Row.alloc_other HR.out _) _) (by decide)
     have hR3 : Row w3 B _ 153 := blk_grown (Row.alloc_other (Row.alloc_other HR.out _) _) hg3 hne3
     have hc256 := hR3.cell (T_256 _ _ _)
     have hz256 := hR3.free 256
     obtain ⟨w4, hw4⟩ : ∃ w4, w4 = w3.setCell ⟨B, 256, none⟩ (.slice A3 2 c3) := ⟨_, rfl⟩
     have hR4 : Row w4 B (T (.slice (some ⟨p, 0, none⟩) 2 cp) nilS (.slice A3 2 c3)) 153 := by
      rw [hw4, ← T_set256 (.slice (some ⟨p, 0, none⟩) 2 cp) nilS (.slice At 1 ct)]
      exact hR3.set 256 _
     have hb4 : Below W00.heap.size W00 w4 := by
      rw [hw4]
      exact below_set hb3 hge
     have ho4 : Kd.string.R 9 w4 W00.heap.size (fun k => k ≠ p ∧ k ≠ B) (.slice A3 2 c3) [s34, s92] := by
      rw [hw4]
      exact Kd.R_far (Kd.R_types ho3 hR3 (by simp; decide)) (fun _ hk => hk.2) _
     have hcv2 := print_bytes (P := Tryz.prog) 9 95 5 Tryz.underlying9 Tryz.underlying95 Tryz.underlying5 s9292 w4
     have hR5 := hR4.below (bytes_below (Below.refl w4.heap.size w4) (Nat.le_refl _) 5 s9292) hR4.lt
     have hc34 : (Lib.bytesWorld w4 5 s9292).cell? ⟨B, 92, none⟩ = some (.slice none 0 0) := hR5.cell (T_get (.slice (some ⟨p, 0, none⟩) 2 cp) nilS (.slice A3 2 c3) 92 (by decide))
     have hz34 := hR5.free 92
     have ho5 := Kd.R_below (Kd.R_bound ho4) (bytes_below (Below.refl w4.heap.size w4) (Nat.le_refl _) 5 s9292)
     have hb5 := bytes_below hb4 hb4.size 5 s9292
     have hrd := bytes_reads w4 5 s9292 (by decide)
     subst hw4
     have hB3 : B < w3.heap.size := hR3.lt
     have hsz3 : (w3.setCell ⟨B, 256, none⟩ (.slice A3 2 c3)).heap.size = w3.heap.size := by simp
     rw [z9292] at hcv2
     go_wp2
     go_roundw
     case rel =>
      rw [hsz3] at hrd
      have h6 := Kd.R_far (p := ⟨B, 92, none⟩) ho5 (fun _ hk => hk.1.2) (.slice (some ⟨w3.heap.size, 0, none⟩) 2 (grownCap (w3.setCell ⟨B, 256, none⟩ (.slice A3 2 c3)) 2 0 5))
      have h6C := (Kd.R_reads' h6).2.2
      obtain ⟨ad6, hA6, k0⟩ := Kd.at_string h6C 0 (by decide) (by decide)
      obtain ⟨ad7, hA7, k1⟩ := Kd.at_string h6C 1 (by decide) (by decide)
      obtain rfl := hA6
      obtain rfl := Option.some.inj hA7
      have ad0 : ad6.add 0 = ad6 := by unfold Addr.add; simp
      have ad1 : ad6.add 1 = ⟨ad6.block, ad6.off + 1, none⟩ := by
       have := add_field ad6 0 1 (by decide)
       rw [Nat.zero_add, ad0] at this
       exact this
      have hN6 : W00.heap.size ≤ ad6.block := (h6.1 ad6.block rfl).2.1
      have h3N := hb3.size
      refine ⟨2, by omega, rfl, below_set hb5 hge, p, w3.heap.size, cp, grownCap (w3.setCell ⟨B, 256, none⟩ (.slice (some ad6) 2 c3)) 2 0 5, c3, ad6, ?_, ?_, ?_, ?_, ?_, hge, hpN, by omega, hN6⟩
      ·
       have hq := hR5.set 92 (.slice (some ⟨w3.heap.size, 0, none⟩) 2 (grownCap (w3.setCell ⟨B, 256, none⟩ (.slice (some ad6) 2 c3)) 2 0 5))
       rw [T_set92] at hq
       exact hq
      ·
       rw [← ad0]; exact k0
      ·
       rw [← ad1]; exact k1
      ·
       have m1 := bs_move (w' := w3) HBP.out (by
        have h1 := hg3.block p (by simp; omega) (fun he => (HPO.out p he.symm) rfl)
        rw [h1]
        have e1 : ∀ (W : World) (o : Obj), p < W.heap.size → (W.alloc o).heap[p]? = W.heap[p]? := fun W o hlt => (below_alloc (Below.refl W.heap.size W) o).block p hlt
        rw [e1 _ _ (by simp; omega), e1 _ _ hplt])
       have m2 := m1.only (Only.set (Only.refl w3 B) 256 (.slice (some ad6) 2 c3)) (fun ad he _ => by cases he; exact hpB)
       have m3 := m2.below (bytes_below (Below.refl _ _) (Nat.le_refl _) 5 s9292)
       exact m3.only (Only.set (Only.refl _ B) _ _) (fun ad he _ => by cases he; exact hpB)
      ·
       exact (bs_of_reads (xs := [92, 92]) hrd).only (Only.set (Only.refl _ B) _ _) (fun ad he _ => by cases he; show w3.heap.size ≠ B; omega)
     case measure => simp [intOf]
    ·
     have HS := Aside0.mk hS
     have HB := Aside0.mk hB
     clear hS hB
     rw [show (2 - 2 * ((2 : Nat) : Int)) = -2 from rfl]
     go_wp2
     go_ret
     exact ⟨B, rfl, HS.out, hge, HB.out⟩
end Go.Proofs.YthhemephaabblaaGreatDoor.Hq
namespace Go.Proofs.YthhemephaabblaaGreatDoor.Hq
open Go.RowKit Go.Proofs.YthhemephaabblaaGreatDoorW.PrintWords Go.Proofs.YthhemephaabblaaGreatDoorW.PrintLast Go.Proofs.YthhemephaabblaaGreatDoorW.PrintMore Go.Proofs.YthhemephaabblaaGreatDoor
set_option linter.unusedVariables false
set_option linter.unusedSimpArgs false
def esc1 (c : UInt8) : List UInt8 := if c = 34 then [92, 34] else if c = 92 then [92, 92] else [c]
def esc (l : List UInt8) : List UInt8 := l.flatMap esc1
def strokes (l : List UInt8) : Nat := (l.filter fun c => c = 34 ∨ c = 92).length
theorem esc_length (l : List UInt8) : (esc l).length = l.length + strokes l := by
 induction l with
 | nil => rfl
 | cons c l ih =>
  unfold esc strokes at *
  rw [List.flatMap_cons, List.length_append, ih, List.filter_cons, List.length_cons]
  unfold esc1
  by_cases h34 : c = 34
  ·
   simp [h34]; omega
  ·
   by_cases h92 : c = 92
   ·
    simp [h92]; omega
   ·
    simp [h34, h92]; omega
theorem esc_none (l : List UInt8) (h : strokes l = 0) : esc l = l := by
 induction l with
 | nil => rfl
 | cons c l ih =>
  unfold strokes at h
  rw [List.filter_cons] at h
  by_cases hc : c = 34 ∨ c = 92
  ·
   simp [hc] at h
  ·
   simp only [hc, decide_false, Bool.false_eq_true, if_false] at h
   have h34 : c ≠ 34 := fun e => hc (.inl e)
   have h92 : c ≠ 92 := fun e => hc (.inr e)
   have := ih h
   unfold esc at *
   rw [List.flatMap_cons, this]
   simp [esc1, h34, h92]
theorem strokes_take_succ (l : List UInt8) (k : Nat) (hk : k < l.length) : strokes (l.take (k + 1)) = strokes (l.take k) + if l[k] = 34 ∨ l[k] = 92 then 1 else 0 := by
 unfold strokes
 rw [List.take_add_one, List.getElem?_eq_getElem hk, Option.toList_some, List.filter_append, List.length_append]
 by_cases hc : l[k] = 34 ∨ l[k] = 92
 ·
  simp [hc]
 ·
  simp [hc]
theorem esc_take_succ (l : List UInt8) (k : Nat) (hk : k < l.length) : esc (l.take (k + 1)) = esc (l.take k) ++ esc1 l[k] := by
 unfold esc
 rw [List.take_add_one, List.getElem?_eq_getElem hk, Option.toList_some, List.flatMap_append]
 simp
theorem strokes_count (l : List UInt8) : strokes l = Lib.countByte l 34 + Lib.countByte l 92 := by
 unfold Lib.countByte
 induction l with
 | nil => rfl
 | cons c l ih =>
  have hs : strokes (c :: l) = strokes l + if c = 34 ∨ c = 92 then 1 else 0 := by
   unfold strokes
   rw [List.filter_cons]
   by_cases hc : c = 34 ∨ c = 92
   ·
    simp [hc]
   ·
    simp [hc]
  rw [hs, ih, List.count_cons, List.count_cons]
  by_cases h34 : c = 34
  ·
   subst h34
   simp; omega
  ·
   by_cases h92 : c = 92
   ·
    subst h92
    simp; omega
   ·
    simp [h34, h92]
theorem lay_set (e : List UInt8) (m : Nat) (x : UInt8) (hm : 0 < m) : ((e ++ List.replicate m (0 : UInt8)).map Extern.Stop.cell).set e.length (Extern.Stop.cell x) = ((e ++ [x]) ++ List.replicate (m - 1) 0).map Extern.Stop.cell := by
 obtain ⟨m, rfl⟩ : ∃ k, m = k + 1 := ⟨m - 1, by omega⟩
 rw [← List.map_set, List.set_append_right _ _ (Nat.le_refl _), Nat.sub_self]
 simp [List.replicate_succ]
theorem lay_copy (e x : List UInt8) (m : Nat) (hm : x.length ≤ m) : ((e ++ List.replicate m (0 : UInt8)).map Extern.Stop.cell).take e.length ++ x.map Extern.Stop.cell ++ ((e ++ List.replicate m (0 : UInt8)).map Extern.Stop.cell).drop (e.length + x.length) = ((e ++ x) ++ List.replicate (m - x.length) 0).map Extern.Stop.cell := by
 rw [← List.map_take, ← List.map_drop, ← List.map_append, ← List.map_append]
 congr 1
 rw [List.take_left, ← List.drop_drop, List.drop_left, List.drop_replicate]
set_option maxRecDepth 100000 in
set_option maxHeartbeats 3200000 in
theorem rpl_calls (N B : Nat) (s : List UInt8) (w : World) (h : Rpl N w B) (hs : s.length ≤ 1000000000000) :
  Calls Tryz.prog 162 #[.pointer (some ⟨B, 0, none⟩), .string (strB s)] w fun e w' => e = .returned (.string (strB (esc s))) ∧ Below w.heap.size w w' := by
 obtain ⟨p, q, cp, cq, ct, ad, hR, c0, c1, hp, hq, hN⟩ := h
 have c256 := hR.cell (T_256 _ _ _)
 have hsz := strB_size s
 have i34 : ∀ h : 0 < s34.size, (s34[0]'h).toNat = 34 := fun _ => rfl
 have i92 : ∀ h : 0 < s92.size, (s92[0]'h).toNat = 92 := fun _ => rfl
 have z34 : s34.size = 1 := rfl
 have z92 : s92.size = 1 := rfl
 have r34 : w.cell? ⟨B, 34, none⟩ = some (.slice (some ⟨p, 0, none⟩) 2 cp) := hR.cell (T_get _ _ _ 34 (by decide))
 have r92 : w.cell? ⟨B, 92, none⟩ = some (.slice (some ⟨q, 0, none⟩) 2 cq) := hR.cell (T_get _ _ _ 92 (by decide))
 obtain ⟨a34, ha34⟩ : ∃ a, a = Lib.countByte s 34 := ⟨_, rfl⟩
 obtain ⟨a92, ha92⟩ : ∃ a, a = Lib.countByte s 92 := ⟨_, rfl⟩
 have hds : (strB s).data.toList = s := by simp [strB]
 have k34 : ∀ W : World, Calls Tryz.prog 164 #[.string (strB s), .string s34] W fun e w' => e = .returned (.int .i64 (a34 : Int)) ∧ w' = W := fun W => by
  have := Tryz.strings_Count_one (strB s) 34 W
  rw [hds, ← ha34] at this
  exact this
 have k92 : ∀ W : World, Calls Tryz.prog 164 #[.string (strB s), .string s92] W fun e w' => e = .returned (.int .i64 (a92 : Int)) ∧ w' = W := fun W => by
  have := Tryz.strings_Count_one (strB s) 92 W
  rw [hds, ← ha92] at this
  exact this
 have hle := strokes_count s
 rw [← ha34, ← ha92] at hle
 clear ha34 ha92 hds
 have hsl : strokes s ≤ s.length := List.length_filter_le _ _
 have HA := Aside0.mk (show a34 ≤ s.length ∧ a92 ≤ s.length by omega)
 have HLE := Aside0.mk hle
 have HS := Aside0.mk hs
 have HSL := Aside0.mk hsl
 have HR := Aside0.mk hR
 clear hle hs hsl hR
 go_enter Tryz.func162, Tryz.ntmps162
 go_upto_if 26 with fail
 go_cut [5, 6] from 7 to 80 (fun (s5 s6 : Value) wx => Ext w wx ∧ s5 = .int .i64 ((s.length + strokes s : Nat) : Int) ∧ s6 = .bool (decide (strokes s ≠ 0)))
 case first =>
  by_cases h16 : (16 : Int) ≤ s.length
  ·
   go_wp2_with fail
   rw [show decide ((16 : Int) ≤ (s.length : Int)) = true from decide_eq_true h16]
   go_loopw [5, 6, 32] (fun v5 v6 i wr => Ext w wr ∧ ((v5 = .int .i64 (s.length : Int) ∧ v6 = .bool false ∧ i = .int .i64 0) ∨ (v5 = .int .i64 ((s.length + a34 : Nat) : Int) ∧ v6 = .bool (decide (a34 ≠ 0)) ∧ i = .int .i64 1) ∨ (v5 = .int .i64 ((s.length + strokes s : Nat) : Int) ∧ v6 = .bool (decide (strokes s ≠ 0)) ∧ i = .int .i64 2))) (fun _ _ i _ => 2 - (intOf i).toNat)
   case atStart => exact ⟨Ext.refl _, .inl ⟨rfl, rfl, rfl⟩⟩
   case round =>
    obtain ⟨hE, hrel⟩ := hrel
    have d0 := cell_ext hE c0
    have d1 := cell_ext hE c1
    have d256 := cell_ext hE c256
    have d34 := cell_ext hE r34
    have d92 := cell_ext hE r92
    have HE := Aside0.mk hE
    clear hE
    obtain ⟨rfl, rfl, rfl⟩ | ⟨rfl, rfl, rfl⟩ | ⟨rfl, rfl, rfl⟩ := hrel
    ·
     by_cases hz : a34 = 0
     ·
      have hb : ((a34 : Int) != 0) = false := by simp [hz]
      go_wp2_with (go_at_call 164; refine (k34 _).mono ?_; rintro e w' ⟨rfl, rfl⟩)
      go_roundw
      case rel => exact ⟨HE.out, .inr (.inl ⟨by rw [hz]; rfl, by rw [hz]; rfl, rfl⟩)⟩
      case measure => simp [intOf]
     ·
      have hb : ((a34 : Int) != 0) = true := by simp; omega
      go_wp2_with (go_at_call 164; refine (k34 _).mono ?_; rintro e w' ⟨rfl, rfl⟩)
      go_quiet (fail)
      go_wp2_with fail
      go_roundw
      case rel =>
       have e1 : wrap64 (a34 : Int) = a34 := IntWalk.wrap64_in _ ⟨by omega, by have := HS.out; have := HA.out; omega⟩
       have e2 : wrap64 ((s.length : Int) + a34) = ((s.length + a34 : Nat) : Int) := by
        rw [← Int.natCast_add]
        exact IntWalk.wrap64_in _ ⟨by omega, by have := HS.out; have := HA.out; omega⟩
       exact ⟨HE.out.trans (below_drewN (Below.refl _ _) _), .inr (.inl ⟨by rw [e1, e2], by simp [hz], rfl⟩)⟩
      case measure => simp [intOf]
    ·
     by_cases hz : a92 = 0
     ·
      have hb : ((a92 : Int) != 0) = false := by simp [hz]
      go_wp2_with (go_at_call 164; refine (k92 _).mono ?_; rintro e w' ⟨rfl, rfl⟩)
      go_roundw
      case rel => exact ⟨HE.out, .inr (.inr ⟨by rw [HLE.out, hz]; rfl, by rw [HLE.out, hz]; simp, rfl⟩)⟩
      case measure => simp [intOf]
     ·
      have hb : ((a92 : Int) != 0) = true := by simp; omega
      go_wp2_with (go_at_call 164; refine (k92 _).mono ?_; rintro e w' ⟨rfl, rfl⟩)
      go_quiet (fail)
      go_wp2_with fail
      go_roundw
      case rel =>
       have e1 : wrap64 (a92 : Int) = a92 := IntWalk.wrap64_in _ ⟨by omega, by have := HS.out; have := HA.out; omega⟩
       have e2 : wrap64 (((s.length + a34 : Nat) : Int) + a92) = ((s.length + strokes s : Nat) : Int) := by
        rw [HLE.out, ← Int.natCast_add, ← Nat.add_assoc]
        exact IntWalk.wrap64_in _ ⟨by omega, by have := HS.out; have := HA.out; omega⟩
       exact ⟨HE.out.trans (below_drewN (Below.refl _ _) _), .inr (.inr ⟨by rw [e1]; exact congrArg (Value.int .i64) (by push_cast at e2 ⊢; exact e2), by rw [HLE.out]; simp [hz], rfl⟩)⟩
      case measure => simp [intOf]
    ·
     go_wp2_with fail
     go_meet
     case rel => exact ⟨HE.out, rfl, rfl⟩
  ·
   go_wp2_with fail
   rw [show decide ((16 : Int) ≤ (s.length : Int)) = false from decide_eq_false (by omega)]
   go_loopw [5, 6, 10] (fun v5 v6 i wr => Ext w wr ∧ ∃ k : Nat, k ≤ s.length ∧ v5 = .int .i64 ((s.length + strokes (s.take k) : Nat) : Int) ∧ v6 = .bool (decide (strokes (s.take k) ≠ 0)) ∧ i = .int .i64 k) (fun _ _ i _ => s.length - (intOf i).toNat)
   case atStart => exact ⟨Ext.refl _, 0, by omega, rfl, rfl, rfl⟩
   case round =>
    obtain ⟨hE, k, hk, rfl, rfl, rfl⟩ := hrel
    by_cases hlt : k < s.length
    ·
     obtain ⟨ch, hch⟩ : ∃ c, c = s[k] := ⟨_, rfl⟩
     have hstep := strokes_take_succ s k hlt
     rw [← hch] at hstep
     have hidx : ∀ h : k < (strB s).size, ((strB s)[k]'h).toNat = ch.toNat := fun h => by rw [hch]; rfl
     have hcl : ch.toNat < 256 := ch.toNat_lt
     have hcell := (HR.out.ext hE).cell (T_get (.slice (some ⟨p, 0, none⟩) 2 cp) (.slice (some ⟨q, 0, none⟩) 2 cq) (.slice (some ad) 2 ct) ch.toNat hcl)
     have b1 : (k : Int) < s.length := by omega
     have hsk : strokes (s.take k) ≤ k := by
      have := List.length_filter_le (fun c : UInt8 => decide (c = 34 ∨ c = 92)) (s.take k)
      rw [List.length_take] at this
      unfold strokes
      omega
     have HE := Aside0.mk hE
     clear hE hch
     by_cases h34 : ch = 34
     ·
      rw [h34] at hidx hcell hstep
      have hcell' : wr.cell? ⟨B, 34, none⟩ = some (.slice (some ⟨p, 0, none⟩) 2 cp) := hcell
      rw [show (34 : UInt8).toNat = 34 from rfl] at hidx
      rw [if_pos (by decide)] at hstep
      clear hcell
      go_wp2_with fail
      go_roundw
      case rel => exact ⟨HE.out, k + 1, by omega, congrArg (Value.int .i64) (by rw [hstep]; push_cast; omega), by rw [hstep]; simp, rfl⟩
      case measure => simp [intOf]; omega
     ·
      by_cases h92 : ch = 92
      ·
       rw [h92] at hidx hcell hstep
       have hcell' : wr.cell? ⟨B, 92, none⟩ = some (.slice (some ⟨q, 0, none⟩) 2 cq) := hcell
       rw [show (92 : UInt8).toNat = 92 from rfl] at hidx
       rw [if_pos (by decide)] at hstep
       clear hcell
       go_wp2_with fail
       go_roundw
       case rel => exact ⟨HE.out, k + 1, by omega, congrArg (Value.int .i64) (by rw [hstep]; push_cast; omega), by rw [hstep]; simp, rfl⟩
       case measure => simp [intOf]; omega
      ·
       have n34 : ch.toNat ≠ 34 := fun e => h34 (UInt8.toNat_inj.1 e)
       have n92 : ch.toNat ≠ 92 := fun e => h92 (UInt8.toNat_inj.1 e)
       rw [if_neg n34, if_neg n92] at hcell
       rw [if_neg (by simp [h34, h92])] at hstep
       have hcell' : wr.cell? ⟨B, ch.toNat, none⟩ = some (.slice none 0 0) := hcell
       clear hcell
       have b9 : (0 : Int) ≤ (ch.toNat : Int) ∧ (ch.toNat : Int) < 256 := by omega
       go_wp2_with fail
       go_roundw
       case rel => exact ⟨HE.out, k + 1, by omega, by rw [hstep]; rfl, by rw [hstep]; rfl, rfl⟩
       case measure => simp [intOf]; omega
    ·
     obtain rfl : k = s.length := by omega
     rw [List.take_length]
     have HE := Aside0.mk hE
     clear hE
     go_wp2_with fail
     go_meet
     case rel => exact ⟨HE.out, rfl, rfl⟩
 case rest =>
  obtain ⟨hE, rfl, rfl⟩ := hcut
  have HE := Aside0.mk hE
  clear hE
  by_cases h0 : strokes s = 0
  ·
   have hb : decide (strokes s ≠ 0) = false := by simp [h0]
   rw [hb]
   go_wp2_with fail
   go_ret
   exact ⟨by rw [esc_none s h0]; rfl, HE.out⟩
  ·
   have hb : decide (strokes s ≠ 0) = true := by simp [h0]
   rw [hb]
   have hel := esc_length s
   obtain ⟨n, hn⟩ : ∃ n, n = s.length + strokes s := ⟨_, rfl⟩
   rw [← hn] at hel ⊢
   have hnb : n ≤ 2000000000000 := by have := HS.out; have := HSL.out; omega
   have hmk : ∀ W : World, (Instr.makeSlice 95 (.int .i64 (n : Int)) (.int .i64 (n : Int))).run Tryz.prog W = .ok (.slice (some ⟨W.heap.size, 0, none⟩) n n) (W.alloc (.cells (Array.replicate n (Extern.Stop.cell 0)) 5)) := by
    intro W
    obtain ⟨i0, hi, hzz⟩ := Option.map_eq_some_iff.1 info5
    simp only [Prod.mk.injEq] at hzz
    obtain ⟨hz0, hz1, hz2⟩ := hzz
    have hr := run_make (P := Tryz.prog) (w := W) 95 5 i0 (.int .u8 0) Tryz.underlying95 hi hz0 .i64 .i64 (n : Int) (n : Int) (by omega) (by omega) (by rw [hz2]; omega) (by omega)
    rw [hz1, Int.toNat_natCast, Nat.mul_one] at hr
    rw [hr]
    congr 3
    apply Array.ext'
    rw [show (Value.int .u8 0).cells = #[.int .u8 0] from rfl, toList_madeCells_one]
    simp [Extern.Stop.cell]
   have HEL := Aside0.mk hel
   have HN := Aside0.mk hn
   have HNB := Aside0.mk hnb
   clear hel hn hnb hb
   go_wp2_with fail
   have hZ0 : Row (wc.alloc (.cells (Array.replicate n (Extern.Stop.cell 0)) 5)) wc.heap.size ((List.replicate n (0 : UInt8)).map Extern.Stop.cell) 5 := by
    have := Row.alloc wc ((List.replicate n (0 : UInt8)).map Extern.Stop.cell) 5
    simpa using this
   have hE0 : Ext w (wc.alloc (.cells (Array.replicate n (Extern.Stop.cell 0)) 5)) := below_alloc HE.out _
   have hZg : w.heap.size ≤ wc.heap.size := HE.out.size
   generalize hZZ : wc.heap.size = Z at hZ0 hZg ⊢
   generalize hWW : wc.alloc (.cells (Array.replicate n (Extern.Stop.cell 0)) 5) = W0 at hZ0 hE0 ⊢
   clear hWW hZZ hmk
   have HZ0 := Aside0.mk hZ0
   have HE0 := Aside0.mk hE0
   clear hZ0 hE0
   go_loopw [13, 14] (fun j i wr => ∃ k : Nat, k ≤ s.length ∧ i = .int .i64 k ∧ j = .int .i64 ((esc (s.take k)).length : Int) ∧ Ext w wr ∧ Row wr Z ((esc (s.take k) ++ List.replicate (n - (esc (s.take k)).length) (0 : UInt8)).map Extern.Stop.cell) 5) (fun _ i _ => s.length - (intOf i).toNat)
   case atStart => exact ⟨0, by omega, rfl, rfl, HE0.out, by simpa [esc] using HZ0.out⟩
   case round =>
    obtain ⟨k, hk, rfl, rfl, hE, hZ⟩ := hrel
    by_cases hlt : k < s.length
    ·
     obtain ⟨ch, hch⟩ : ∃ c, c = s[k] := ⟨_, rfl⟩
     have hstep := esc_take_succ s k hlt
     rw [← hch] at hstep
     have hidx : ∀ h : k < (strB s).size, ((strB s)[k]'h).toNat = ch.toNat := fun h => by rw [hch]; rfl
     have hcl : ch.toNat < 256 := ch.toNat_lt
     have hcell := (HR.out.ext hE).cell (T_get (.slice (some ⟨p, 0, none⟩) 2 cp) (.slice (some ⟨q, 0, none⟩) 2 cq) (.slice (some ad) 2 ct) ch.toNat hcl)
     have b1 : (k : Int) < s.length := by omega
     have hroom : (esc (s.take k)).length + (esc1 ch).length ≤ n := by
      have h1 : (esc s).length = (esc (s.take (k + 1))).length + (esc (s.drop (k + 1))).length := by
       rw [← List.length_append]
       unfold esc
       rw [← List.flatMap_append, List.take_append_drop]
      rw [hstep, List.length_append, HEL.out] at h1
      omega
     obtain ⟨e, he⟩ : ∃ e, e = esc (s.take k) := ⟨_, rfl⟩
     rw [← he] at hZ hstep hroom ⊢
     have HST := Aside0.mk hstep
     have HE := Aside0.mk hE
     have HZ := Aside0.mk hZ
     clear hE hch hstep he hZ
     by_cases h34 : ch = 34
     ·
      rw [h34] at hidx hcell
      have hcell' : wr.cell? ⟨B, 34, none⟩ = some (.slice (some ⟨p, 0, none⟩) 2 cp) := hcell
      rw [show (34 : UInt8).toNat = 34 from rfl] at hidx
      clear hcell
      have h2 : e.length + 2 ≤ n := by rw [h34] at hroom; exact hroom
      have hcp := run_copy_row (P := Tryz.prog) wr.drew 95 95 3 5 Z e.length (n - e.length) (n - e.length) ⟨p, 0, none⟩ 2 cp ((e ++ List.replicate (n - e.length) (0 : UInt8)).map Extern.Stop.cell).toArray 5 (([92, 34] : List UInt8).map Extern.Stop.cell) Tryz.underlying95 (by kernel_rfl) HZ.out.drew (by show 2 = min 2 (n - e.length); omega) (cells_of_bs ((hp.ext HE.out).below (below_drew (Below.refl _ _)))) (by simp; omega) (by intro v hv; simp at hv; rcases hv with rfl | rfl <;> rfl)
      have hlay := lay_copy e [92, 34] (n - e.length) (by simp; omega)
      rw [show ((([92, 34] : List UInt8).map Extern.Stop.cell).length) = 2 from rfl] at hcp
      rw [show ([92, 34] : List UInt8).length = 2 from rfl] at hlay
      rw [show (((e ++ List.replicate (n - e.length) (0 : UInt8)).map Extern.Stop.cell).toArray.toList) = (e ++ List.replicate (n - e.length) (0 : UInt8)).map Extern.Stop.cell from rfl, hlay] at hcp
      have hZ1 := Row.setRow (L' := ((e ++ [92, 34]) ++ List.replicate (n - e.length - 2) (0 : UInt8)).map Extern.Stop.cell) HZ.out.drew
      have hE1 : Ext w (wr.drew.setRow Z (((e ++ [92, 34]) ++ List.replicate (n - e.length - 2) (0 : UInt8)).map Extern.Stop.cell).toArray) := Below.setRow (below_drew HE.out) hZg _
      generalize hWW : wr.drew.setRow Z (((e ++ [92, 34]) ++ List.replicate (n - e.length - 2) (0 : UInt8)).map Extern.Stop.cell).toArray = W1 at hcp hZ1 hE1
      have HZ1 := Aside0.mk hZ1
      have HE1 := Aside0.mk hE1
      have hw1 : wrap64 ((k : Int) + 1) = ((k + 1 : Nat) : Int) := by rw [show (k : Int) + 1 = ((k + 1 : Nat) : Int) by push_cast; rfl]; exact IntWalk.wrap64_in _ ⟨by omega, by have := HS.out; omega⟩
      have hw2 : wrap64 ((e.length : Int) + 2) = ((e.length + 2 : Nat) : Int) := by rw [show (e.length : Int) + 2 = ((e.length + 2 : Nat) : Int) by push_cast; rfl]; exact IntWalk.wrap64_in _ ⟨by omega, by have := HNB.out; omega⟩
      have hk1 : esc (s.take (k + 1)) = e ++ [92, 34] := by rw [HST.out, h34]; rfl
      have HW1 := Aside0.mk hw1
      have HW2 := Aside0.mk hw2
      have HK1 := Aside0.mk hk1
      clear hWW hZ1 hE1 hlay hw1 hw2 hk1
      go_wp2_with fail
      go_region_with (fail)
      all_goals go_wp2_with fail
      all_goals go_roundw
      all_goals (try (rw [HW1.out]; show s.length - (((k + 1 : Nat) : Int)).toNat < s.length - ((k : Nat) : Int).toNat; rw [Int.toNat_natCast, Int.toNat_natCast]; omega; done))
      all_goals exact ⟨k + 1, by omega, by rw [HW1.out], by (rw [HK1.out, HW2.out]; try simp), HE1.out, by rw [HK1.out, show (e ++ ([92, 34] : List UInt8)).length = e.length + 2 from by simp, ← Nat.sub_sub]; exact HZ1.out⟩
     ·
      by_cases h92 : ch = 92
      ·
       rw [h92] at hidx hcell
       have hcell' : wr.cell? ⟨B, 92, none⟩ = some (.slice (some ⟨q, 0, none⟩) 2 cq) := hcell
       rw [show (92 : UInt8).toNat = 92 from rfl] at hidx
       clear hcell
       have h2 : e.length + 2 ≤ n := by rw [h92] at hroom; exact hroom
       have hcp := run_copy_row (P := Tryz.prog) wr.drew 95 95 3 5 Z e.length (n - e.length) (n - e.length) ⟨q, 0, none⟩ 2 cq ((e ++ List.replicate (n - e.length) (0 : UInt8)).map Extern.Stop.cell).toArray 5 (([92, 92] : List UInt8).map Extern.Stop.cell) Tryz.underlying95 (by kernel_rfl) HZ.out.drew (by show 2 = min 2 (n - e.length); omega) (cells_of_bs ((hq.ext HE.out).below (below_drew (Below.refl _ _)))) (by simp; omega) (by intro v hv; simp at hv; rcases hv with rfl | rfl <;> rfl)
       have hlay := lay_copy e [92, 92] (n - e.length) (by simp; omega)
       rw [show ((([92, 92] : List UInt8).map Extern.Stop.cell).length) = 2 from rfl] at hcp
       rw [show ([92, 92] : List UInt8).length = 2 from rfl] at hlay
       rw [show (((e ++ List.replicate (n - e.length) (0 : UInt8)).map Extern.Stop.cell).toArray.toList) = (e ++ List.replicate (n - e.length) (0 : UInt8)).map Extern.Stop.cell from rfl, hlay] at hcp
       have hZ1 := Row.setRow (L' := ((e ++ [92, 92]) ++ List.replicate (n - e.length - 2) (0 : UInt8)).map Extern.Stop.cell) HZ.out.drew
       have hE1 : Ext w (wr.drew.setRow Z (((e ++ [92, 92]) ++ List.replicate (n - e.length - 2) (0 : UInt8)).map Extern.Stop.cell).toArray) := Below.setRow (below_drew HE.out) hZg _
       generalize hWW : wr.drew.setRow Z (((e ++ [92, 92]) ++ List.replicate (n - e.length - 2) (0 : UInt8)).map Extern.Stop.cell).toArray = W1 at hcp hZ1 hE1
       have HZ1 := Aside0.mk hZ1
       have HE1 := Aside0.mk hE1
       have hw1 : wrap64 ((k : Int) + 1) = ((k + 1 : Nat) : Int) := by rw [show (k : Int) + 1 = ((k + 1 : Nat) : Int) by push_cast; rfl]; exact IntWalk.wrap64_in _ ⟨by omega, by have := HS.out; omega⟩
       have hw2 : wrap64 ((e.length : Int) + 2) = ((e.length + 2 : Nat) : Int) := by rw [show (e.length : Int) + 2 = ((e.length + 2 : Nat) : Int) by push_cast; rfl]; exact IntWalk.wrap64_in _ ⟨by omega, by have := HNB.out; omega⟩
       have hk1 : esc (s.take (k + 1)) = e ++ [92, 92] := by rw [HST.out, h92]; rfl
       have HW1 := Aside0.mk hw1
       have HW2 := Aside0.mk hw2
       have HK1 := Aside0.mk hk1
       clear hWW hZ1 hE1 hlay hw1 hw2 hk1
       go_wp2_with fail
       go_region_with (fail)
       all_goals go_wp2_with fail
       all_goals go_roundw
       all_goals (try (rw [HW1.out]; show s.length - (((k + 1 : Nat) : Int)).toNat < s.length - ((k : Nat) : Int).toNat; rw [Int.toNat_natCast, Int.toNat_natCast]; omega; done))
       all_goals exact ⟨k + 1, by omega, by rw [HW1.out], by (rw [HK1.out, HW2.out]; try simp), HE1.out, by rw [HK1.out, show (e ++ ([92, 92] : List UInt8)).length = e.length + 2 from by simp, ← Nat.sub_sub]; exact HZ1.out⟩
      ·
       have n34 : ch.toNat ≠ 34 := fun e => h34 (UInt8.toNat_inj.1 e)
       have n92 : ch.toNat ≠ 92 := fun e => h92 (UInt8.toNat_inj.1 e)
       rw [if_neg n34, if_neg n92] at hcell
       have hcell' : wr.cell? ⟨B, ch.toNat, none⟩ = some (.slice none 0 0) := hcell
       clear hcell
       have b9 : (0 : Int) ≤ (ch.toNat : Int) ∧ (ch.toNat : Int) < 256 := by omega
       have hk0 : esc1 ch = [ch] := by unfold esc1; rw [if_neg h34, if_neg h92]
       have h2 : e.length + 1 ≤ n := by rw [hk0] at hroom; exact hroom
       have hk1 : esc (s.take (k + 1)) = e ++ [ch] := by rw [HST.out, hk0]
       have hc0 : wr.cell? ⟨Z, e.length, none⟩ = some (.int .u8 0) := by
        have := HZ.out.cell (k := e.length) (v := Extern.Stop.cell 0) (by
         rw [List.getElem?_map, List.getElem?_append_right (Nat.le_refl _), Nat.sub_self, List.getElem?_replicate, if_pos (by omega)]
         rfl)
        exact this
       have hz0 := HZ.out.free e.length
       have hZ1 := HZ.out.set e.length (Extern.Stop.cell ch)
       rw [lay_set e (n - e.length) ch (by omega)] at hZ1
       have HZ1 := Aside0.mk hZ1
       have HK1 := Aside0.mk hk1
       have b10 : (0 : Int) ≤ (e.length : Int) ∧ (e.length : Int) < n := by omega
       have HNB2 := HNB.out
       have HS2 := HS.out
       clear hZ1 hk1 hk0 hroom
       go_wp2_with fail
       go_roundw
       case rel => exact ⟨k + 1, by omega, rfl, by (rw [HK1.out]; try simp), below_set HE.out hZg, by rw [HK1.out, show (e ++ [ch]).length = e.length + 1 from by simp, ← Nat.sub_sub]; exact HZ1.out⟩
       case measure => simp [intOf]; omega
    ·
     obtain rfl : k = s.length := by omega
     have HE := Aside0.mk hE
     rw [List.take_length, HEL.out, Nat.sub_self, List.replicate_zero, List.append_nil] at hZ
     have hcv := conv_str (c := n) (Bs.row hZ (by rw [HEL.out]) (by rw [HEL.out]; have := HNB.out; omega))
     clear hE hZ
     go_wp2_with fail
     go_ret
     exact ⟨rfl, HE.out⟩
end Go.Proofs.YthhemephaabblaaGreatDoor.Hq
namespace Go.Proofs.YthhemephaabblaaGreatDoor.Hq
open Go.RowKit Go.Proofs.YthhemephaabblaaGreatDoorW.PrintWords Go.Proofs.YthhemephaabblaaGreatDoorW.PrintLast Go.Proofs.YthhemephaabblaaGreatDoorW.PrintMore Go.Proofs.YthhemephaabblaaGreatDoor
set_option linter.unusedVariables false
set_option linter.unusedSimpArgs false
set_option maxRecDepth 100000 in
set_option maxHeartbeats 1600000 in
theorem buildOnce_calls (g : Nat) (d st : Int) (A : Option Addr) (c : Nat) (w : World) (h : RepB w g d st .nilIface (.slice A 4 c)) (hr : Kd.C Kd.string w A 4 [s92, s9292, s34, s9234]) :
  Calls Tryz.prog 54 #[.pointer (some ⟨g, 0, none⟩)] w fun e w' => e = .returned (.tuple #[]) ∧ ∃ B, RepB w' g d st (.iface 154 (.pointer (some ⟨B, 0, none⟩))) (.slice none 0 0) ∧ Rpl w.heap.size w' B ∧ Below g w w' := by
 have hlt : g < w.heap.size := blk_lt h
 go_enter Tryz.func54, Tryz.ntmps54
 go_wp2_with (go_at_call 78; refine (build_calls g d st A c _ h hr).mono ?_; rintro e w1 ⟨B, rfl, hRp, hB, hb⟩; have h1 : RepB w1 g d st .nilIface (.slice A 4 c) := (hb.block g hlt).trans h; have k3 := h1.c3; have f3 := h1.fz 3; have h2 := h1.set3 (.iface 154 (.pointer (some ⟨B, 0, none⟩))); have k4 := h2.c4; have f4 := h2.fz 4; have h3 := h2.set4 (.slice none 0 0); have hRp2 := hRp.set (k := 3) hlt (.iface 154 (.pointer (some ⟨B, 0, none⟩))); have hRp3 := hRp2.set (k := 4) hlt (.slice none 0 0); have hb1 : Below g w w1 := Below.mono hb (by omega))
 go_end0
 exact ⟨rfl, B, h3, hRp3, (hb1.setCell (Nat.le_refl _) _).setCell (Nat.le_refl _) _⟩
set_option maxRecDepth 100000 in
set_option maxHeartbeats 1600000 in
theorem replace_calls (g : Nat) (A : Option Addr) (c : Nat) (s : List UInt8) (w : World) (h : RepB w g 0 0 .nilIface (.slice A 4 c)) (hr : Kd.C Kd.string w A 4 [s92, s9292, s34, s9234]) (hA : ∀ ad, A = some ad → ad.block < g) (hs : s.length ≤ 1000000000000) :
  Calls Tryz.prog 29 #[.pointer (some ⟨g, 0, none⟩), .string (strB s)] w fun e w' => e = .returned (.string (strB (esc s))) ∧ Below g w w' := by
 have hlt : g < w.heap.size := blk_lt h
 have hmf : ∀ (fn : Fn) (first cap : Array Value) (w : World), (Instr.makeFunc fn first cap).run Tryz.prog w = .ok (.func fn first cap) w := fun _ _ _ _ => rfl
 have h1 := h.set1 1
 have hr1 : Kd.C Kd.string (w.setCell ⟨g, 1, none⟩ (.int .i32 1)) A 4 [s92, s9292, s34, s9234] := by
  obtain ⟨ad, hA0, _⟩ := Kd.at_string hr 0 (by decide) (by decide)
  obtain ⟨q1, q2, q3⟩ := hr
  refine ⟨q1, q2, ?_⟩
  intro hp
  obtain ⟨a', hA', hc⟩ := q3 hp
  refine ⟨a', hA', fun j p hj => ?_⟩
  obtain ⟨cs, k1, k2, k3⟩ := hc j p hj
  refine ⟨cs, k1, k2, fun i u hu => ?_⟩
  rw [← k3 i u hu]
  unfold World.cell?
  rw [Below.heap_setCell _ _ _ _ (by rw [add_block]; exact Nat.ne_of_lt (hA a' hA'))]
 have hf := (buildOnce_calls g 0 1 A c (w.setCell ⟨g, 1, none⟩ (.int .i32 1)) h1 hr1).mono (R' := fun e w' => e = .returned (.tuple #[]) ∧ ∃ r' on', RepB w' g 0 1 r' on' ∧ (∃ B, r' = .iface 154 (.pointer (some ⟨B, 0, none⟩)) ∧ RepB w' g 0 1 r' on' ∧ Rpl w.heap.size w' B ∧ Below g w w')) (by
  rintro e w' ⟨rfl, B, hR, hRp, hb⟩
  refine ⟨rfl, _, _, hR, B, rfl, hR, ?_, ?_⟩
  ·
   simpa using hRp
  ·
   exact Below.trans ((Below.refl g w).setCell (Nat.le_refl _) _) hb)
 have hdo := do_calls g .nilIface (.slice A 4 c) (fun w' => ∃ B on', RepB w' g 0 1 (.iface 154 (.pointer (some ⟨B, 0, none⟩))) on' ∧ Rpl w.heap.size w' B ∧ Below g w w') w h (hf.mono (by
  rintro e w' ⟨rfl, r', on', hR, B, rfl, hR2, hRp, hb⟩
  exact ⟨rfl, _, _, hR, B, on', hR2, hRp, hb⟩))
 have hm : ∀ (b : Nat) (W : World), (method 337 154 (.pointer (some ⟨b, 0, none⟩)) "Replace").run Tryz.prog W = .ok (162, .pointer (some ⟨b, 0, none⟩)) W := fun _ _ => by kernel_rfl
 go_enter Tryz.func29, Tryz.ntmps29
 go_wp2_with (go_at_call 53; refine hdo.mono ?_; rintro e w3 ⟨rfl, w2, ⟨B, on', hR2, hRp, hb⟩, hw3⟩; have hR3 : RepB w3 g 1 0 (.iface 154 (.pointer (some ⟨B, 0, none⟩))) on' := (by rw [hw3]; exact (hR2.drew.set0 1).set1 0); have k3 := hR3.c3; have hRp3 : Rpl w.heap.size w3 B := (by rw [hw3]; exact ((hRp.ext (below_drew (Below.refl _ _))).set (k := 0) hlt (.int .u32 1)).set (k := 1) hlt (.int .i32 0)); have hb3 : Below g w w3 := (by rw [hw3]; exact (((below_drew hb).setCell (p := ⟨g, 0, none⟩) (Nat.le_refl _) (.int .u32 1))).setCell (p := ⟨g, 1, none⟩) (Nat.le_refl _) (.int .i32 0)); clear hw3 hR2 hRp hb)
 refine (rpl_calls w.heap.size B s w3 hRp3 hs).mono ?_
 rintro e w4 ⟨rfl, hb4⟩
 have hb5 : Below g w w4 := hb3.trans (Below.mono hb4 (by have := hb3.size; omega))
 go_wp2
 go_ret
 exact ⟨rfl, hb5⟩
end Go.Proofs.YthhemephaabblaaGreatDoor.Hq
namespace Go.Proofs.YthhemephaabblaaGreatDoor.Hq
open Go.RowKit Go.Proofs.YthhemephaabblaaGreatDoorW.PrintWords Go.Proofs.YthhemephaabblaaGreatDoorW.PrintLast Go.Proofs.YthhemephaabblaaGreatDoorW.PrintMore Go.Proofs.YthhemephaabblaaGreatDoor Go.Proofs.YthhemephaabblaaGreatDoor.Q
set_option linter.unusedVariables false
set_option linter.unusedSimpArgs false
structure Glob (w : World) : Prop where
 pow10 : Lib.TabIs Tryz.prog w "internal/strconv.uint64pow10" .u64 Lib.pow10Tab
theorem TabIs_below' {P : Program} {n : String} {g : Nat} {k : IntKind} {zs : List Int} {w w' : World} (hg : P.globalNamed n = some g) (h : Lib.TabIs P w n k zs) (hb : Below w.heap.size w w') : Lib.TabIs P w' n k zs := by
 unfold Lib.TabIs World.var? at h ⊢
 rw [hg] at h ⊢
 simp only [Option.bind_some] at h ⊢
 have hlt : g < w.heap.size := by
  by_cases hlt : g < w.heap.size
  ·
   exact hlt
  ·
   rw [Array.getElem?_eq_none (by omega)] at h; cases h
 rw [hb.block g hlt]
 exact h
theorem Glob.of_below {w w' : World} (h : Glob w) (hb : Below w.heap.size w w') : Glob w' := ⟨TabIs_below' (g := 3) (by kernel_rfl) h.1 hb⟩
def query_reader_step.f (k : Nat) (s0_0 : ByteArray) (s0_1 : Int) (s0_2 : Int) (s0_3 : ByteArray) (s0_4 : Int) (s0_5 : Value) (s0_6 : ByteArray) (s0_7 : Value) (s0_8 : ByteArray) (s0_9 : Bool) (s0_10 : Int) : Option (ByteArray × Int × Int × ByteArray × Int × ByteArray × ByteArray × Bool × Int) :=
 if 0 ≤ s0_1 then (if s0_1.toNat ≤ s0_0.data.toList.length then (if s0_0.data.toList.length ≤ 1000000000000 then stepF k s0_0.data.toList s0_1.toNat s0_2 s0_3 s0_4 s0_5 s0_6 s0_7 s0_8 s0_9 s0_10 else none) else none) else none
theorem query_reader_step.calls (k : Nat) (g : Nat) (s0_0 : ByteArray) (s0_1 : Int) (s0_2 : Int) (s0_3 : ByteArray) (s0_4 : Int) (s0_5 : Value) (s0_6 : ByteArray) (s0_7 : Value) (s0_8 : ByteArray) (s0_9 : Bool) (s0_10 : Int) (r1 : ByteArray) (r2 : Int) (r3 : Int) (r4 : ByteArray) (r5 : Int) (r6 : ByteArray) (r7 : ByteArray) (r8 : Bool) (r9 : Int) (w0 w : World) (hI : IsS60 w0 w g s0_0 s0_1 s0_2 s0_3 s0_4 s0_5 s0_6 s0_7 s0_8 s0_9 s0_10) (hB : Below w0.heap.size w0 w) (h : query_reader_step.f k s0_0 s0_1 s0_2 s0_3 s0_4 s0_5 s0_6 s0_7 s0_8 s0_9 s0_10 = some (r1, r2, r3, r4, r5, r6, r7, r8, r9)) :
  Calls Tryz.prog 44 #[.pointer (some ⟨g, 0, none⟩)] w fun e w' => e = .returned (.tuple #[]) ∧ IsS60 w0 w' g r1 r2 r3 r4 r5 s0_5 r6 s0_7 r7 r8 r9 ∧ Below w0.heap.size w0 w' ∧ KeepBut w w' g none := by
 unfold query_reader_step.f at h
 by_cases h0 : 0 ≤ s0_1
 ·
  rw [if_pos h0] at h
  by_cases h1 : s0_1.toNat ≤ s0_0.data.toList.length
  ·
   rw [if_pos h1] at h
   by_cases h2 : s0_0.data.toList.length ≤ 1000000000000
   ·
    rw [if_pos h2] at h
    have e : ((s0_1.toNat : Nat) : Int) = s0_1 := Int.toNat_of_nonneg h0
    refine step_calls k g s0_0.data.toList s0_1.toNat s0_2 s0_3 s0_4 s0_5 s0_6 s0_7 s0_8 s0_9 s0_10 r1 r2 r3 r4 r5 r6 r7 r8 r9 w0 w ?_ hB h1 h2 h
    rw [strB_data, e]
    exact hI
   ·
    rw [if_neg h2] at h; cases h
  ·
   rw [if_neg h1] at h; cases h
 ·
  rw [if_neg h0] at h; cases h
def strconv_Itoa.f (a0 : Int) : Option ByteArray := if 0 ≤ a0 then (if a0 ≤ 999999999 then some (strB (Lib.itoa a0)) else none) else none
theorem strconv_Itoa.calls (a0 : Int) (r : ByteArray) (w : World) (hG : Glob w) (h : strconv_Itoa.f a0 = some r) :
  Calls Tryz.prog 31 #[.int .i64 a0] w fun e w' => e = .returned (.string r) ∧ Below w.heap.size w w' := by
 unfold strconv_Itoa.f at h
 by_cases h0 : 0 ≤ a0
 ·
  rw [if_pos h0] at h
  by_cases h1 : a0 ≤ 999999999
  ·
   rw [if_pos h1] at h
   obtain rfl := Option.some.inj h
   refine (Tryz.strconv_Itoa a0 (by omega) (by omega) w hG.1).mono ?_
   rintro e w' ⟨rfl, k, os, rfl⟩
   refine ⟨rfl, ?_⟩
   exact ⟨rfl, rfl, rfl, by simp [Go.Sort.grow], fun i hi => by simp [Go.Sort.grow, Array.getElem?_append, hi]⟩
  ·
   rw [if_neg h1] at h; cases h
 ·
  rw [if_neg h0] at h; cases h
def strconv_Atoi.f (a0 : ByteArray) : Option (Int × Option Int) := if a0.size ≤ 18 then (Lib.atoi a0.data.toList).map fun n => (n, none) else none
theorem strconv_Atoi.calls (a0 : ByteArray) (r1 : Int) (r2 : Option Int) (w : World) (h : strconv_Atoi.f a0 = some (r1, r2)) :
  Calls Tryz.prog 48 #[.string a0] w fun e w' => e = .returned (.tuple #[.int .i64 r1, errW r2]) ∧ Below w.heap.size w w' := by
 unfold strconv_Atoi.f at h
 by_cases h0 : a0.size ≤ 18
 ·
  rw [if_pos h0] at h
  cases hn : Lib.atoi a0.data.toList with
  | none => rw [hn] at h; cases h
  | some n =>
   rw [hn] at h
   simp only [Option.map_some, Option.some.injEq, Prod.mk.injEq] at h
   obtain ⟨rfl, rfl⟩ := h
   refine (Tryz.strconv_Atoi a0 n h0 hn w).mono ?_
   rintro e w' ⟨rfl, t, rfl⟩
   refine ⟨rfl, ?_⟩
   exact bytes_below (Below.refl _ _) (Nat.le_refl _) _ _
 ·
  rw [if_neg h0] at h; cases h
end Go.Proofs.YthhemephaabblaaGreatDoor.Hq
namespace Go.Proofs.YthhemephaabblaaGreatDoor.Hq
open Go.RowKit Go.Proofs.YthhemephaabblaaGreatDoorW.PrintWords Go.Proofs.YthhemephaabblaaGreatDoorW.PrintLast Go.Proofs.YthhemephaabblaaGreatDoorW.PrintMore Go.Proofs.YthhemephaabblaaGreatDoor Go.Proofs.YthhemephaabblaaGreatDoor.Q
set_option linter.unusedVariables false
set_option linter.unusedSimpArgs false
def quoL : List UInt8 → Option (List UInt8 × Nat)
 | [] => none
 | c :: r =>
  if c = 34 then some ([], 1)
  else if c = 92 then (match r with
   | [] => none
   | d :: r' => if d = 34 ∨ d = 92 then (quoL r').map fun x => (d :: x.1, x.2 + 2) else none)
  else (quoL r).map fun x => (c :: x.1, x.2 + 1)
theorem quoL_cons (c : UInt8) (r : List UInt8) : quoL (c :: r) = if c = 34 then some ([], 1)
  else if c = 92 then (match r with
   | [] => none
   | d :: r' => if d = 34 ∨ d = 92 then (quoL r').map fun x => (d :: x.1, x.2 + 2) else none)
  else (quoL r).map fun x => (c :: x.1, x.2 + 1) := by rw [quoL.eq_def]
def words8 : List (List UInt8) := [[61], [33, 61], [60], [60, 61], [62], [62, 61], [44], [42]]
def better (l : List UInt8) (best w : List UInt8) : List UInt8 := if w.isPrefixOf l ∧ best.length < w.length then w else best
def signOf (l : List UInt8) : List UInt8 := words8.foldl (better l) []
structure Tk where
 kind : Nat
 says : List UInt8
 place : Nat
def tokAt (s : List UInt8) (p : Nat) : Tk × Nat :=
 match s[runEnd isSp s p]? with
 | none => (⟨0, [], runEnd isSp s p⟩, runEnd isSp s p)
 | some c =>
  if isSm c = true then (⟨2, (s.drop (runEnd isSp s p)).takeWhile isWd, runEnd isSp s p⟩, runEnd isWd s (runEnd isSp s p))
  else if isDg c = true then (⟨3, (s.drop (runEnd isSp s p)).takeWhile isDg, runEnd isSp s p⟩, runEnd isDg s (runEnd isSp s p))
  else if c = 34 then (match quoL (s.drop (runEnd isSp s p + 1)) with
   | some x => (⟨4, x.1, runEnd isSp s p⟩, runEnd isSp s p + 1 + x.2)
   | none => (⟨1, [], runEnd isSp s p⟩, runEnd isSp s p))
  else if signOf (s.drop (runEnd isSp s p)) = [] then (⟨1, [], runEnd isSp s p⟩, runEnd isSp s p)
  else (⟨5, signOf (s.drop (runEnd isSp s p)), runEnd isSp s p⟩, runEnd isSp s p + (signOf (s.drop (runEnd isSp s p))).length)
theorem ints_cons (c : UInt8) (b : List UInt8) : ints (c :: b) = (c.toNat : Int) :: ints b := rfl
theorem u8eq (c : UInt8) (k : UInt8) : ((c.toNat : Int) = (k.toNat : Int)) ↔ c = k := by rw [← UInt8.toNat_inj]; omega
def quoR (s : List UInt8) (a i : Nat) (acc : List Int) (s6 s8 : ByteArray) (s9 : Bool) (s10 : Int) : ByteArray × Int × Int × ByteArray × Int × ByteArray × ByteArray × Bool × Int :=
 match quoL (s.drop i) with
 | some x => (strB s, ((i + x.2 : Nat) : Int), 4, strOfNums (acc ++ ints x.1), (a : Int), s6, s8, s9, s10)
 | none => (strB s, (a : Int), 1, strB [], (a : Int), s6, s8, s9, s10)
theorem quoted_l0 (s : List UInt8) (hs : s.length ≤ 1000000000000) (a : Nat) (s5 : Value) (s6 : ByteArray) (s7 : Value) (s8 : ByteArray) (s9 : Bool) (s10 : Int) : ∀ (n k i : Nat) (acc : List Int), s.length - i = n → n < k → i ≤ s.length → acc.length ≤ i →
  query_reader_quoted.l0 k (a : Int) acc (i : Int) (strB s) (a : Int) 1 (strB []) (a : Int) s5 s6 s7 s8 s9 s10 = some (quoR s a i acc s6 s8 s9 s10)
 | n, 0, i, _, _, hk, _, _ => by omega
 | n, k + 1, i, acc, hn, hk, hi, ha => by
  rw [query_reader_quoted.l0, strB_size]
  by_cases hlt : i < s.length
  ·
   rw [if_pos (by omega), if_pos (by omega), bt_strB s i hlt, w64n i (by omega)]
   have e34 : ((s[i].toNat : Int) = 34) ↔ s[i] = 34 := u8eq s[i] 34
   have e92 : ((s[i].toNat : Int) = 92) ↔ s[i] = 92 := u8eq s[i] 92
   have hd := List.drop_eq_getElem_cons hlt
   by_cases h34 : s[i] = 34
   ·
    rw [if_pos (e34.2 h34)]
    unfold quoR
    rw [hd, quoL_cons, if_pos h34]
    simp [ints]
   ·
    rw [if_neg (fun h => h34 (e34.1 h))]
    by_cases h92 : s[i] = 92
    ·
     rw [if_pos (e92.2 h92)]
     by_cases he : i + 1 = s.length
     ·
      rw [if_pos (by omega)]
      unfold quoR
      rw [hd, quoL_cons, if_neg h34, if_pos h92, show s.drop (i + 1) = [] from List.drop_eq_nil_of_le (by omega)]
     ·
      have hlt1 : i + 1 < s.length := by omega
      have f34 : ((s[i + 1].toNat : Int) = 34) ↔ s[i + 1] = 34 := u8eq s[i + 1] 34
      have f92 : ((s[i + 1].toNat : Int) = 92) ↔ s[i + 1] = 92 := u8eq s[i + 1] 92
      have hd1 := List.drop_eq_getElem_cons hlt1
      rw [if_neg (by omega), if_pos (by omega), if_pos (by omega), bt_strB s (i + 1) hlt1, w64n (i + 1) (by omega)]
      have ih := quoted_l0 s hs a s5 s6 s7 s8 s9 s10 (n - 2) k (i + 1 + 1) (acc ++ [(s[i + 1].toNat : Int)]) (by omega) (by omega) (by omega) (by simp; omega)
      have step : quoR s a (i + 1 + 1) (acc ++ [(s[i + 1].toNat : Int)]) s6 s8 s9 s10 = quoR s a i acc s6 s8 s9 s10 ∨ ¬ (s[i + 1] = 34 ∨ s[i + 1] = 92) := by
       by_cases hor : s[i + 1] = 34 ∨ s[i + 1] = 92
       ·
        left
        unfold quoR
        rw [hd, quoL_cons, if_neg h34, if_pos h92, hd1]
        simp only [if_pos hor]
        cases quoL (s.drop (i + 1 + 1)) with
        | none => rfl
        | some x =>
         simp only [Option.map_some, ints_cons, List.append_assoc, List.singleton_append]
         congr 2
         omega
       ·
        right; exact hor
      by_cases g34 : s[i + 1] = 34
      ·
       rw [if_pos (f34.2 g34), if_pos (by omega), ih]
       rcases step with h | h
       ·
        rw [h]
       ·
        exact absurd (.inl g34) h
      ·
       rw [if_neg (fun h => g34 (f34.1 h))]
       by_cases g92 : s[i + 1] = 92
       ·
        rw [if_pos (f92.2 g92), if_pos (by omega), ih]
        rcases step with h | h
        ·
         rw [h]
        ·
         exact absurd (.inr g92) h
       ·
        rw [if_neg (fun h => g92 (f92.1 h))]
        unfold quoR
        rw [hd, quoL_cons, if_neg h34, if_pos h92, hd1]
        simp only [if_neg (fun h => h.elim g34 g92 : ¬ (s[i + 1] = 34 ∨ s[i + 1] = 92))]
    ·
     rw [if_neg (fun h => h92 (e92.1 h)), if_pos (by omega)]
     have ih := quoted_l0 s hs a s5 s6 s7 s8 s9 s10 (n - 1) k (i + 1) (acc ++ [(s[i].toNat : Int)]) (by omega) (by omega) (by omega) (by simp; omega)
     rw [ih]
     congr 1
     unfold quoR
     rw [hd, quoL_cons, if_neg h34, if_neg h92]
     cases quoL (s.drop (i + 1)) with
     | none => rfl
     | some x =>
      simp only [Option.map_some, ints_cons, List.append_assoc, List.singleton_append]
      congr 2
      omega
  ·
   obtain rfl : i = s.length := by omega
   rw [if_neg (by omega)]
   unfold quoR
   rw [List.drop_length]
   rfl
theorem prefix_f (l w : List UInt8) : strings_HasPrefix.f (strB l) (strB w) = some (w.isPrefixOf l) := by
 unfold strings_HasPrefix.f stringslite_HasPrefix.f
 rw [strB_size, strB_size, toList_strB]
 by_cases h : w.length ≤ l.length
 ·
  rw [if_pos (by omega), if_pos (by omega), if_pos (by omega), Int.toNat_natCast]
  have e := extract_strB l 0 w.length
  rw [List.drop_zero, Nat.sub_zero] at e
  rw [e, toList_strB]
  simp only [Option.bind_some]
  congr 1
  rw [Bool.eq_iff_iff, beq_iff_eq, List.isPrefixOf_iff_prefix, List.prefix_iff_eq_take]
  exact eq_comm
 ·
  rw [if_neg (by omega)]
  simp only [Option.bind_some]
  congr 1
  rw [eq_comm, Bool.eq_false_iff]
  intro hp
  exact h (List.isPrefixOf_iff_prefix.1 hp).length_le
theorem signed_l0 (s : List UInt8) (a : Nat) (ha : a ≤ s.length) (x1 : Int) (x2 : Int) (x3 : ByteArray) (x4 : Int) (s5 : Value) (s6 : ByteArray) (s7 : Value) (s8 : ByteArray) (s9 : Bool) (s10 : Int) : ∀ (n k j : Nat) (best : List UInt8), 8 - j = n → n < k → j ≤ 8 →
  query_reader_signed.l0 k (a : Int) (strB best) (words8.map strB) 8 (j : Int) (strB s) x1 x2 x3 x4 s5 s6 s7 s8 s9 s10 =
   query_reader_signed.l0 (k - n) (a : Int) (strB ((words8.drop j).foldl (better (s.drop a)) best)) (words8.map strB) 8 8 (strB s) x1 x2 x3 x4 s5 s6 s7 s8 s9 s10
 | n, 0, j, _, _, hk, _ => by omega
 | n, k + 1, j, best, hn, hk, hj => by
  by_cases hlt : j < 8
  ·
   have hjl : j < words8.length := hlt
   rw [query_reader_signed.l0]
   rw [if_pos (by omega), if_pos (by omega), List.length_map, if_pos (by show (j : Int) < (8 : Nat); omega), if_pos (by omega), strB_size, if_pos (by omega), rdOf_map _ _ hjl, Int.toNat_natCast]
   have e := extract_strB s a s.length
   rw [show (s.drop a).take (s.length - a) = s.drop a from List.take_of_length_le (by simp)] at e
   rw [e, prefix_f, w64n j (by omega), strB_size, strB_size]
   have ih := fun b => signed_l0 s a ha x1 x2 x3 x4 s5 s6 s7 s8 s9 s10 (n - 1) k (j + 1) b (by omega) (by omega) (by omega)
   rw [List.drop_eq_getElem_cons hjl, List.foldl_cons, show k + 1 - n = k - (n - 1) by omega]
   simp only [Option.bind_some]
   have hb : better (s.drop a) best words8[j] = if words8[j].isPrefixOf (s.drop a) ∧ best.length < words8[j].length then words8[j] else best := rfl
   cases hp : words8[j].isPrefixOf (s.drop a) with
   | false =>
    rw [if_neg (by decide), ih, hb, if_neg (by rw [hp]; simp)]
   | true =>
    rw [if_pos rfl]
    by_cases hlen : best.length < words8[j].length
    ·
     rw [if_pos (by omega), ih, hb, if_pos ⟨hp, hlen⟩]
    ·
     rw [if_neg (by omega), ih, hb, if_neg (fun h => hlen h.2)]
  ·
   obtain rfl : j = 8 := by omega
   obtain rfl : n = 0 := by omega
   rfl
theorem signed_f (s : List UInt8) (hs : s.length ≤ 1000000000000) (a : Nat) (ha : a ≤ s.length) (k : Nat) (hk : 9 < k) (x1 : Int) (x2 : Int) (x3 : ByteArray) (x4 : Int) (s5 : Value) (s6 : ByteArray) (s7 : Value) (s8 : ByteArray) (s9 : Bool) (s10 : Int) :
  query_reader_signed.f k (strB s) x1 x2 x3 x4 s5 s6 s7 s8 s9 s10 (a : Int) = some (strB s, ((a + (signOf (s.drop a)).length : Nat) : Int), if signOf (s.drop a) = [] then 1 else 5, strB (signOf (s.drop a)), (a : Int), s6, s8, s9, s10) := by
 unfold query_reader_signed.f
 simp only [query_operators.f, Option.bind_some]
 have h0 := signed_l0 s a ha x1 x2 x3 x4 s5 s6 s7 s8 s9 s10 8 k 0 [] rfl (by omega) (by omega)
 rw [if_pos (by decide)]
 refine Eq.trans h0 ?_
 rw [List.drop_zero]
 obtain ⟨m, hm⟩ : ∃ m, k - 8 = m + 1 := ⟨k - 9, by omega⟩
 rw [hm, query_reader_signed.l0, if_neg (by omega), toList_strB, strB_size]
 have hsl : (signOf (s.drop a)).length ≤ 2 := by
  have key : ∀ (ws : List (List UInt8)) (b : List UInt8), b.length ≤ 2 → (∀ w ∈ ws, w.length ≤ 2) → (ws.foldl (better (s.drop a)) b).length ≤ 2 := by
   intro ws
   induction ws with
   | nil => intro b hb _; exact hb
   | cons w ws ih =>
    intro b hb hw
    rw [List.foldl_cons]
    refine ih _ ?_ (fun x hx => hw x (by simp [hx]))
    unfold better
    split
    ·
     exact hw w (by simp)
    ·
     exact hb
  exact key words8 [] (by simp) (by decide)
 have hw : wrap64 ((a : Int) + ((signOf (s.drop a)).length : Int)) = ((a + (signOf (s.drop a)).length : Nat) : Int) := by unfold wrap64; omega
 show (if signOf (s.drop a) = [] then _ else _) = _
 by_cases he : signOf (s.drop a) = []
 ·
  rw [if_pos he, if_pos he]
  exact congrArg (fun x => some (strB s, x, _)) hw
 ·
  rw [if_neg he, if_neg he]
  exact congrArg (fun x => some (strB s, x, _)) hw
theorem quoted_f (s : List UInt8) (hs : s.length ≤ 1000000000000) (a : Nat) (ha : a < s.length) (k : Nat) (hk : s.length < k) (x1 : Int) (x2 : Int) (x3 : ByteArray) (x4 : Int) (s5 : Value) (s6 : ByteArray) (s7 : Value) (s8 : ByteArray) (s9 : Bool) (s10 : Int) :
  query_reader_quoted.f k (strB s) x1 x2 x3 x4 s5 s6 s7 s8 s9 s10 (a : Int) = some (quoR s a (a + 1) [] s6 s8 s9 s10) := by
 unfold query_reader_quoted.f
 rw [w64n a (by omega)]
 exact quoted_l0 s hs a s5 s6 s7 s8 s9 s10 _ k (a + 1) [] rfl (by omega) (by omega) (by simp)
theorem step_f (s : List UInt8) (hs : s.length ≤ 1000000000000) (p : Nat) (hp : p ≤ s.length) (k : Nat) (hk : s.length + 20 < k) (x2 : Int) (x3 : ByteArray) (x4 : Int) (s5 : Value) (s6 : ByteArray) (s7 : Value) (s8 : ByteArray) (s9 : Bool) (s10 : Int) :
  stepF k s p x2 x3 x4 s5 s6 s7 s8 s9 s10 = some (strB s, ((tokAt s p).2 : Int), ((tokAt s p).1.kind : Int), strB (tokAt s p).1.says, ((tokAt s p).1.place : Int), s6, s8, s9, s10) := by
 unfold stepF tokAt
 have hal := runEnd_le isSp s p hp
 cases hc : s[runEnd isSp s p]? with
 | none => rfl
 | some c =>
  have hlt : runEnd isSp s p < s.length := (List.getElem?_eq_some_iff.1 hc).1
  simp only []
  by_cases h1 : isSm c = true
  ·
   rw [if_pos h1, if_pos h1]; rfl
  ·
   rw [if_neg h1, if_neg h1]
   by_cases h2 : isDg c = true
   ·
    rw [if_pos h2, if_pos h2]; rfl
   ·
    rw [if_neg h2, if_neg h2]
    by_cases h3 : c = 34
    ·
     rw [if_pos h3, if_pos h3, quoted_f s hs _ hlt k (by omega)]
     unfold quoR
     cases quoL (s.drop (runEnd isSp s p + 1)) with
     | none => rfl
     | some x =>
      simp only [List.nil_append, strOf_strB]
      rfl
    ·
     rw [if_neg h3, if_neg h3, signed_f s hs _ hal k (by omega)]
     by_cases h4 : signOf (s.drop (runEnd isSp s p)) = []
     ·
      rw [if_pos h4, if_pos h4, h4]; rfl
     ·
      rw [if_neg h4, if_neg h4]; rfl
end Go.Proofs.YthhemephaabblaaGreatDoor.Hq
namespace Go.Proofs.YthhemephaabblaaGreatDoor.Hq
open Go.RowKit Go.Proofs.YthhemephaabblaaGreatDoorW.PrintWords Go.Proofs.YthhemephaabblaaGreatDoorW.PrintLast Go.Proofs.YthhemephaabblaaGreatDoorW.PrintMore Go.Proofs.YthhemephaabblaaGreatDoor Go.Proofs.YthhemephaabblaaGreatDoor.Q
set_option linter.unusedVariables false
set_option linter.unusedSimpArgs false
def tk (s : List UInt8) (a : Nat) : Tk × Nat :=
 match s[a]? with
 | none => (⟨0, [], a⟩, a)
 | some c =>
  if isSm c = true then (⟨2, (s.drop a).takeWhile isWd, a⟩, runEnd isWd s a)
  else if isDg c = true then (⟨3, (s.drop a).takeWhile isDg, a⟩, runEnd isDg s a)
  else if c = 34 then (match quoL (s.drop (a + 1)) with
   | some x => (⟨4, x.1, a⟩, a + 1 + x.2)
   | none => (⟨1, [], a⟩, a))
  else if signOf (s.drop a) = [] then (⟨1, [], a⟩, a)
  else (⟨5, signOf (s.drop a), a⟩, a + (signOf (s.drop a)).length)
theorem tokAt_tk (s : List UInt8) (p : Nat) : tokAt s p = tk s (runEnd isSp s p) := rfl
set_option maxRecDepth 20000 in
theorem signOf_cons (c : UInt8) (r : List UInt8) : signOf (c :: r) = if c = 44 ∨ c = 42 ∨ c = 61 then [c] else if c = 60 ∨ c = 62 ∨ c = 33 then (if r.head? = some 61 then [c, 61] else if c = 33 then [] else [c]) else [] := by
 by_cases h61 : c = 61
 ·
  subst h61; simp [signOf, words8, better, List.isPrefixOf]
 by_cases h44 : c = 44
 ·
  subst h44; simp [signOf, words8, better, List.isPrefixOf]
 by_cases h42 : c = 42
 ·
  subst h42; simp [signOf, words8, better, List.isPrefixOf]
 by_cases h60 : c = 60
 ·
  subst h60
  cases r with
  | nil => simp [signOf, words8, better, List.isPrefixOf]
  | cons d r =>
   by_cases hd : d = 61
   ·
    subst hd; simp [signOf, words8, better, List.isPrefixOf]
   ·
    simp [signOf, words8, better, List.isPrefixOf, hd, Ne.symm hd]
 by_cases h62 : c = 62
 ·
  subst h62
  cases r with
  | nil => simp [signOf, words8, better, List.isPrefixOf]
  | cons d r =>
   by_cases hd : d = 61
   ·
    subst hd; simp [signOf, words8, better, List.isPrefixOf]
   ·
    simp [signOf, words8, better, List.isPrefixOf, hd, Ne.symm hd]
 by_cases h33 : c = 33
 ·
  subst h33
  cases r with
  | nil => simp [signOf, words8, better, List.isPrefixOf]
  | cons d r =>
   by_cases hd : d = 61
   ·
    subst hd; simp [signOf, words8, better, List.isPrefixOf]
   ·
    simp [signOf, words8, better, List.isPrefixOf, hd, Ne.symm hd]
 simp [signOf, words8, better, List.isPrefixOf, h61, h44, h42, h60, h62, h33, Ne.symm h61, Ne.symm h44, Ne.symm h42, Ne.symm h60, Ne.symm h62, Ne.symm h33]
end Go.Proofs.YthhemephaabblaaGreatDoor.Hq
namespace Go.Proofs.YthhemephaabblaaGreatDoor.Hq
open Go.RowKit Go.Proofs.YthhemephaabblaaGreatDoorW.PrintWords Go.Proofs.YthhemephaabblaaGreatDoorW.PrintLast Go.Proofs.YthhemephaabblaaGreatDoorW.PrintMore Go.Proofs.YthhemephaabblaaGreatDoor Go.Proofs.YthhemephaabblaaGreatDoor.Q
set_option linter.unusedVariables false
set_option linter.unusedSimpArgs false
theorem sm_wd {c : UInt8} (h : isSm c = true) : isWd c = true := by rw [wd95, h]; rfl
end Go.Proofs.YthhemephaabblaaGreatDoor.Hq
namespace Go.Proofs.YthhemephaabblaaGreatDoor.Hq
open Go.RowKit Go.Proofs.YthhemephaabblaaGreatDoorW.PrintWords Go.Proofs.YthhemephaabblaaGreatDoorW.PrintLast Go.Proofs.YthhemephaabblaaGreatDoorW.PrintMore Go.Proofs.YthhemephaabblaaGreatDoor Go.Proofs.YthhemephaabblaaGreatDoor.Q
set_option linter.unusedVariables false
set_option linter.unusedSimpArgs false
theorem quoL_le : ∀ (n : Nat) (l : List UInt8) (x : List UInt8 × Nat), l.length = n → quoL l = some x → 0 < x.2 ∧ x.2 ≤ l.length
 | _, [], x, _, h => by cases h
 | 0, c :: r, x, hn, h => by simp at hn
 | n + 1, c :: r, x, hn, h => by
  rw [quoL_cons] at h
  by_cases h34 : c = 34
  ·
   rw [if_pos h34] at h
   obtain rfl := Option.some.inj h
   simp
  ·
   rw [if_neg h34] at h
   by_cases h92 : c = 92
   ·
    rw [if_pos h92] at h
    match r, hn, h with
    | [], _, h => cases h
    | d :: r', hn, h =>
     simp only at h
     by_cases hd : d = 34 ∨ d = 92
     ·
      rw [if_pos hd] at h
      obtain ⟨y, hy, rfl⟩ := Option.map_eq_some_iff.1 h
      have hn' : r'.length + 1 + 1 = n + 1 := by simpa using hn
      have := quoL_le (n - 1) r' y (by omega) hy
      simp only [List.length_cons]
      omega
     ·
      rw [if_neg hd] at h; cases h
   ·
    rw [if_neg h92] at h
    obtain ⟨y, hy, rfl⟩ := Option.map_eq_some_iff.1 h
    have hn' : r.length + 1 = n + 1 := by simpa using hn
    have := quoL_le n r y (by omega) hy
    simp only [List.length_cons]
    omega
theorem signOf_le (l : List UInt8) : (signOf l).length ≤ l.length := by
 have key : ∀ (ws : List (List UInt8)) (b : List UInt8), b.length ≤ l.length → (ws.foldl (better l) b).length ≤ l.length := by
  intro ws
  induction ws with
  | nil => intro b hb; exact hb
  | cons w ws ih =>
   intro b hb
   rw [List.foldl_cons]
   refine ih _ ?_
   unfold better
   split
   ·
    rename_i h; exact (List.isPrefixOf_iff_prefix.1 h.1).length_le
   ·
    exact hb
 exact key words8 [] (Nat.zero_le _)
theorem tk_le (s : List UInt8) (a : Nat) (h : a ≤ s.length) : a ≤ (tk s a).2 ∧ (tk s a).2 ≤ s.length ∧ ((tk s a).1.kind = 1 ∨ (tk s a).1.kind = 0 ∨ a < (tk s a).2) ∧ ((tk s a).1.kind = 0 ↔ a = s.length) ∧ (tk s a).1.place = a := by
 unfold tk
 cases hc : s[a]? with
 | none =>
  have : s.length ≤ a := List.getElem?_eq_none_iff.1 hc
  simp
  omega
 | some c =>
  have hlt : a < s.length := (List.getElem?_eq_some_iff.1 hc).1
  have hca : s[a] = c := (List.getElem?_eq_some_iff.1 hc).2
  simp only []
  by_cases h1 : isSm c = true
  ·
   rw [if_pos h1]
   have h2 := runEnd_le isWd s a h
   have h3 := runEnd_more isWd s a hlt (by rw [hca]; exact sm_wd h1)
   have h4 : a + 1 ≤ runEnd isWd s (a + 1) := by unfold runEnd; omega
   refine ⟨(by dsimp only; omega), (by dsimp only; omega), .inr (.inr (by dsimp only; omega)), ⟨fun h => absurd h (by simp), fun h => by omega⟩, rfl⟩
  ·
   rw [if_neg h1]
   by_cases h2 : isDg c = true
   ·
    rw [if_pos h2]
    have h2' := runEnd_le isDg s a h
    have h3 := runEnd_more isDg s a hlt (by rw [hca]; exact h2)
    have h4 : a + 1 ≤ runEnd isDg s (a + 1) := by unfold runEnd; omega
    refine ⟨(by dsimp only; omega), (by dsimp only; omega), .inr (.inr (by dsimp only; omega)), ⟨fun h => absurd h (by simp), fun h => by omega⟩, rfl⟩
   ·
    rw [if_neg h2]
    by_cases h3 : c = 34
    ·
     rw [if_pos h3]
     cases hq : quoL (s.drop (a + 1)) with
     | none => exact ⟨Nat.le_refl _, h, .inl rfl, ⟨fun h => absurd h (by simp), fun h => by omega⟩, rfl⟩
     | some x =>
      have := quoL_le _ _ x rfl hq
      rw [List.length_drop] at this
      refine ⟨(by dsimp only; omega), (by dsimp only; omega), .inr (.inr (by dsimp only; omega)), ⟨fun h => absurd h (by simp), fun h => by omega⟩, rfl⟩
    ·
     rw [if_neg h3]
     have hl := signOf_le (s.drop a)
     rw [List.length_drop] at hl
     by_cases h4 : signOf (s.drop a) = []
     ·
      rw [if_pos h4]
      exact ⟨Nat.le_refl _, h, .inl rfl, ⟨fun h => absurd h (by simp), fun h => by omega⟩, rfl⟩
     ·
      rw [if_neg h4]
      have : 0 < (signOf (s.drop a)).length := List.length_pos_iff.2 h4
      refine ⟨(by dsimp only; omega), (by dsimp only; omega), .inr (.inr (by dsimp only; omega)), ⟨fun h => absurd h (by simp), fun h => by omega⟩, rfl⟩
def toksF : Nat → List UInt8 → Nat → List Tk
 | 0, _, _ => []
 | n + 1, s, p => (tokAt s p).1 :: (if (tokAt s p).1.kind ≤ 1 then [] else toksF n s (tokAt s p).2)
def toks (s : List UInt8) (p : Nat) : List Tk := toksF (s.length + 1 - p) s p
theorem toksF_more (s : List UInt8) : ∀ (n p : Nat), p ≤ s.length → s.length + 1 - p ≤ n → toksF n s p = toksF (s.length + 1 - p) s p
 | 0, p, hp, h => by omega
 | n + 1, p, hp, h => by
  obtain ⟨m, hm⟩ : ∃ m, s.length + 1 - p = m + 1 := ⟨s.length - p, by omega⟩
  rw [hm, toksF, toksF]
  by_cases hk : (tokAt s p).1.kind ≤ 1
  ·
   rw [if_pos hk, if_pos hk]
  ·
   rw [if_neg hk, if_neg hk]
   have hr := runEnd_le isSp s p hp
   have hge : p ≤ runEnd isSp s p := by unfold runEnd; omega
   have ht := tk_le s (runEnd isSp s p) hr
   rw [← tokAt_tk] at ht
   rw [toksF_more s n _ ht.2.1 (by omega), toksF_more s m _ ht.2.1 (by omega)]
theorem toks_eq (s : List UInt8) (p : Nat) (hp : p ≤ s.length) : toks s p = (tokAt s p).1 :: (if (tokAt s p).1.kind ≤ 1 then [] else toks s (tokAt s p).2) := by
 unfold toks
 obtain ⟨m, hm⟩ : ∃ m, s.length + 1 - p = m + 1 := ⟨s.length - p, by omega⟩
 rw [hm, toksF]
 by_cases hk : (tokAt s p).1.kind ≤ 1
 ·
  rw [if_pos hk, if_pos hk]
 ·
  rw [if_neg hk, if_neg hk]
  have hr := runEnd_le isSp s p hp
  have hge : p ≤ runEnd isSp s p := by unfold runEnd; omega
  have ht := tk_le s (runEnd isSp s p) hr
  rw [← tokAt_tk] at ht
  rw [toksF_more s m _ ht.2.1 (by omega)]
end Go.Proofs.YthhemephaabblaaGreatDoor.Hq
namespace Go.Proofs.YthhemephaabblaaGreatDoor.Hq
open Go.RowKit Go.Proofs.YthhemephaabblaaGreatDoorW.PrintWords Go.Proofs.YthhemephaabblaaGreatDoorW.PrintLast Go.Proofs.YthhemephaabblaaGreatDoorW.PrintMore Go.Proofs.YthhemephaabblaaGreatDoor Go.Proofs.YthhemephaabblaaGreatDoor.Q
set_option linter.unusedVariables false
set_option linter.unusedSimpArgs false
def sv (x : List UInt8) : Value := .string (strB x)
def Sr (B : Nat) (w : World) (v : Value) (xs : List (List UInt8)) : Prop := w.ownsRow B 9 1 v xs.length (xs.map sv)
theorem own_ext {base e size n : Nat} {w w' : World} {v : Value} {L : List Value} (h : w.ownsRow base e size v n L) (hE : Ext w w') : w'.ownsRow base e size v n L :=
 World.ownsRow.kept h (row := none) ⟨hE.os, hE.tape, hE.output, hE.size, fun k hk _ => hE.block k hk⟩ (by cases hv : v.ownBlock with | none => exact .inl rfl | some _ => exact .inr (by simp))
theorem own_lt {base e size n : Nat} {w : World} {v : Value} {L : List Value} (h : w.ownsRow base e size v n L) : ∀ k, v.ownBlock = some k → base ≤ k ∧ k < w.heap.size := by
 rcases h.2 with ⟨rfl, _⟩ | ⟨g, cap, cur, rfl, hb, hh, _⟩
 ·
  intro k hk; cases hk
 ·
  intro k hk
  have : g = k := by simpa [Value.ownBlock] using hk
  subst this
  refine ⟨hb, ?_⟩
  by_cases hlt : g < w.heap.size
  ·
   exact hlt
  ·
   rw [Array.getElem?_eq_none (by omega)] at hh; cases hh
theorem Sr.ext {B : Nat} {w w' : World} {v : Value} {xs : List (List UInt8)} (h : Sr B w v xs) (hE : Ext w w') : Sr B w' v xs := own_ext h hE
theorem Sr.lit {B : Nat} {w : World} {cs : Array Value} {xs : List (List UInt8)} (hB : B ≤ w.heap.size) (hc : cs.toList = xs.map sv) (hl : xs.length ≤ 9223372036854775807) : Sr B (w.alloc (.cells cs 9)) (.slice (some ⟨w.heap.size, 0, none⟩) xs.length xs.length) xs := by
 have h2 := World.ownsRow_lit (base := B) (e := 9) (size := 1) w cs xs.length hB (by simpa [maxLen] using hl) (by have := congrArg List.length hc; simpa using this)
 unfold Sr
 rw [← hc]
 exact h2
theorem Sr.shape {B : Nat} {w : World} {v : Value} {xs : List (List UInt8)} (h : Sr B w v xs) (hp : 0 < xs.length) : ∃ g c, v = .slice (some ⟨g, 0, none⟩) xs.length c ∧ xs.length ≤ c ∧ B ≤ g ∧ g < w.heap.size ∧ ∀ (j : Nat) x, xs[j]? = some x → w.cell? ⟨g, 0 + j, none⟩ = some (sv x) := by
 rcases h.2 with ⟨_, h0⟩ | ⟨g, cap, cur, rfl, hb, hh, hc, hm, hs, ht⟩
 ·
  omega
 ·
  refine ⟨g, cap, rfl, hc, hb, ?_, fun j x hj => ?_⟩
  ·
   by_cases hlt : g < w.heap.size
   ·
    exact hlt
   ·
    rw [Array.getElem?_eq_none (by omega)] at hh; cases hh
  ·
   have hjl : j < xs.length := (List.getElem?_eq_some_iff.1 hj).1
   have e : cur.toList[j]? = some (sv x) := by
    have h1 := congrArg (fun l => l[j]?) ht
    simp only [Nat.mul_one] at h1
    rw [List.getElem?_take_of_lt hjl, List.getElem?_map, hj] at h1
    exact h1
   rw [cell_of_row w g (0 + j) cur 9 (0, 0) (by simpa using hh), Nat.zero_add]
   simpa using e
section
variable {P : Program} {ops : Array Oper} {rest : List Oper} {o : Oper} {a : Act} {Q : Exit → Act → World → Prop}
theorem own_app_lit {W Wg : World} (base : Nat) (hgd : o.guard = none) (s x : Operand) (t e : TypeId) (z : Value) (size bytes : Nat)
  (ho : o.op = .call { callee := .builtin .append, args := #[s, x], argTypes := #[t, t] })
  (ht : P.underlying t = some (.slice e)) (hinfo : (P.info? e).map (fun i => (i.zero, i.size, i.bytes)) = some (some z, size, bytes)) (hz : z.cells.size = size) (hs0 : 0 < size) (hb0 : 0 < bytes)
  (v : Value) (n m : Nat) (xs : List Value) (cs : Array Value) (hs : a.eval s = v) (hx : a.eval x = .slice (some ⟨W.heap.size, 0, none⟩) m m) (hWg : Wg = W.alloc (.cells cs e)) (hys : cs.size = m * size) (h1 : ∀ u ∈ cs.toList, u.oneCell' = true)
  (HO : W.ownsRow base e size v n xs) (hbase : base ≤ W.heap.size) (hl : (n + m) * bytes ≤ 140737488355328)
  (h : ∀ v1 w1, w1.ownsRow base e size v1 (n + m) (xs ++ cs.toList) → Below base W w1 → W.grownBy w1 v.ownBlock → wpList P ops Q rest (a.put o.dst v1) w1) :
  wpList P ops Q (o :: rest) a Wg := by
 subst hWg
 obtain ⟨i0, hi, hzz⟩ := Option.map_eq_some_iff.1 hinfo
 simp only [Prod.mk.injEq] at hzz
 obtain ⟨hz0, hz1, hz2⟩ := hzz
 have hlen : n + m ≤ 140737488355328 := Nat.le_trans (Nat.le_mul_of_pos_right _ hb0) hl
 refine wpList_append_own_at (W.alloc (.cells cs e)) hgd s x t ho base e i0 z size bytes ht hi hz0 hz1 hz2 hz hs0 v n xs hs (HO.alloc _) ⟨W.heap.size, 0, none⟩ m m cs.toList hx (by simpa using hys)
  (World.news_of_block (cs := cs) (t := e) (fr := (0, 0)) (heap_alloc_new W (.cells cs e))) h1 (by simp only [maxLen]; omega) hl (by simp; omega) ?_
 intro v1 w1 hown hg _ hat
 exact h v1 w1 hown (((Below.refl _ _).alloc hbase _).grown hg (by simp; omega) (own_base HO)) (World.grownBy.trans (World.grownBy_alloc W _ _) hg)
end
theorem sv_one (l : List (List UInt8)) : ∀ u ∈ l.map sv, u.oneCell' = true := by
 intro u hu
 obtain ⟨x, _, rfl⟩ := List.mem_map.1 hu
 rfl
section
variable {ops : Array Oper} {rest : List Oper} {o : Oper} {a : Act} {Q : Exit → Act → World → Prop}
theorem sr_app {W Wg : World} (B : Nat) (hgd : o.guard = none) (s x : Operand)
  (ho : o.op = .call { callee := .builtin .append, args := #[s, x], argTypes := #[22, 22] })
  (v : Value) (xs ys : List (List UInt8)) (cs : Array Value) (hs : a.eval s = v) (hx : a.eval x = .slice (some ⟨W.heap.size, 0, none⟩) ys.length ys.length) (hWg : Wg = W.alloc (.cells cs 9)) (hcs : cs.toList = ys.map sv)
  (HO : Sr B W v xs) (hbase : B ≤ W.heap.size) (hl : (xs.length + ys.length) ≤ 1000000000)
  (h : ∀ v1 w1, Sr B w1 v1 (xs ++ ys) → Below B W w1 → W.grownBy w1 v.ownBlock → wpList Tryz.prog ops Q rest (a.put o.dst v1) w1) :
  wpList Tryz.prog ops Q (o :: rest) a Wg := by
 refine own_app_lit B hgd s x 22 9 (.string ⟨#[]⟩) 1 16 ho Tryz.underlying22 Hq.info9 rfl (by decide) (by decide) v xs.length ys.length (xs.map sv) cs hs hx hWg (by have := congrArg List.length hcs; simpa using this) (by rw [hcs]; exact sv_one ys) HO hbase (by omega) ?_
 intro v1 w1 hO hB hG
 refine h v1 w1 ?_ hB hG
 unfold Sr
 rw [List.length_append, List.map_append, ← hcs]
 exact hO
end
def opT (o : Int) : List UInt8 := if o = 1 then [61] else if o = 2 then [33, 61] else if o = 3 then [60] else if o = 4 then [60, 61] else if o = 5 then [62] else [62, 61]
def testW (i : Nat) (t : Tst) : List (List UInt8) := [if i = 0 then [119, 104, 101, 114, 101] else [97, 110, 100], t.col, opT t.op, [34] ++ esc t.val ++ [34]]
def whW : Nat → List Tst → List (List UInt8)
 | _, [] => []
 | i, t :: l => testW i t ++ whW (i + 1) l
theorem whW_snoc (l : List Tst) (t : Tst) : ∀ i, whW i (l ++ [t]) = whW i l ++ testW (i + l.length) t := by
 induction l with
 | nil => intro i; simp [whW]
 | cons x l ih => intro i; simp only [List.cons_append, whW, ih, List.append_assoc, List.length_cons]; congr 3; omega
theorem whW_length (l : List Tst) : ∀ i, (whW i l).length = 4 * l.length := by
 induction l with
 | nil => intro i; rfl
 | cons x l ih => intro i; simp only [whW, List.length_append, ih, testW, List.length_cons, List.length_nil]; omega
def colsT (l : List (List UInt8)) : List UInt8 := if l = [] then [42] else Lib.join l [44, 32]
def headW (q : Qry) : List (List UInt8) := [[115, 101, 108, 101, 99, 116], colsT q.cols, [102, 114, 111, 109], q.tab]
def ordW (q : Qry) : List (List UInt8) := if q.ord = [] then [] else [[111, 114, 100, 101, 114], [98, 121], q.ord]
def downW (q : Qry) : List (List UInt8) := if q.down then [[100, 111, 119, 110]] else []
def limW (q : Qry) : List (List UInt8) := if 0 < q.lim then [[108, 105, 109, 105, 116], Lib.itoa q.lim] else []
def wordsQ (q : Qry) : List (List UInt8) := headW q ++ whW 0 q.wh ++ ordW q ++ downW q ++ limW q
def textQ (q : Qry) : List UInt8 := Lib.join (wordsQ q) [32]
def qOf (l0_0 : List ByteArray) (a0_1 : ByteArray) (l0_2 : List S37) (a0_3 : ByteArray) (a0_4 : Bool) (a0_5 : Int) : Qry :=
 ⟨l0_0.map (·.data.toList), a0_1.data.toList, l0_2.map fun t => ⟨t.f0.data.toList, t.f1, t.f2.data.toList⟩, a0_3.data.toList, a0_4, a0_5⟩
theorem qOf_cols (l0_0 : List ByteArray) (a0_1 : ByteArray) (l0_2 : List S37) (a0_3 : ByteArray) (a0_4 : Bool) (a0_5 : Int) : (qOf l0_0 a0_1 l0_2 a0_3 a0_4 a0_5).cols.map strB = l0_0 := by
 show (l0_0.map _).map strB = l0_0
 rw [List.map_map]
 exact (List.map_congr_left (fun b _ => strB_data b)).trans (List.map_id _)
theorem qOf_wh (l0_0 : List ByteArray) (a0_1 : ByteArray) (l0_2 : List S37) (a0_3 : ByteArray) (a0_4 : Bool) (a0_5 : Int) : (qOf l0_0 a0_1 l0_2 a0_3 a0_4 a0_5).wh.map t37 = l0_2 := by
 show (l0_2.map _).map t37 = l0_2
 rw [List.map_map]
 refine (List.map_congr_left (fun b _ => ?_)).trans (List.map_id _)
 show (⟨strB b.f0.data.toList, b.f1, strB b.f2.data.toList⟩ : S37) = b
 rw [strB_data, strB_data]
theorem qOf_q (q : Qry) : qOf (q.cols.map strB) (strB q.tab) (q.wh.map t37) (strB q.ord) q.down q.lim = q := by
 unfold qOf
 have e1 : (q.cols.map strB).map (·.data.toList) = q.cols := by
  rw [List.map_map]; exact (List.map_congr_left (fun b _ => rfl)).trans (List.map_id _)
 have e2 : ((q.wh.map t37).map fun t => (⟨t.f0.data.toList, t.f1, t.f2.data.toList⟩ : Tst)) = q.wh := by
  rw [List.map_map]; exact (List.map_congr_left (fun b _ => rfl)).trans (List.map_id _)
 rw [e1, e2]
 rfl
def printQ (q : Qry) : List UInt8 × Int := if mayQ q then (if (textQ q).length ≤ 1024 then (textQ q, 0) else ([], 320)) else ([], 320)
instance okQ_dec (q : Qry) : Decidable (okQ q) := by unfold okQ; infer_instance
def query_Print.f (k : Nat) (l0_0 : List ByteArray) (a0_1 : ByteArray) (l0_2 : List S37) (a0_3 : ByteArray) (a0_4 : Bool) (a0_5 : Int) : Option (ByteArray × Int) :=
 if okQ (qOf l0_0 a0_1 l0_2 a0_3 a0_4 a0_5) then (if mayQ (qOf l0_0 a0_1 l0_2 a0_3 a0_4 a0_5) then (if (textQ (qOf l0_0 a0_1 l0_2 a0_3 a0_4 a0_5)).length ≤ 1024 then some (strB (textQ (qOf l0_0 a0_1 l0_2 a0_3 a0_4 a0_5)), 0) else some (strB [], 320)) else some (strB [], 320)) else none
theorem print_f (q : Qry) (hq : okQ q) (k : Nat) (hk : q.cols.length + q.wh.length + 50 < k) : query_Print.f k (q.cols.map strB) (strB q.tab) (q.wh.map t37) (strB q.ord) q.down q.lim = some (strB (printQ q).1, (printQ q).2) := by
 unfold query_Print.f printQ
 rw [qOf_q, if_pos hq]
 cases mayQ q with
 | false => rfl
 | true =>
  by_cases h : (textQ q).length ≤ 1024
  ·
   simp [h]
  ·
   simp [h]
theorem join_le (xs : List (List UInt8)) (sep : List UInt8) (M : Nat) (h : ∀ x ∈ xs, x.length ≤ M) : (Lib.join xs sep).length ≤ xs.length * (M + sep.length) := by
 match xs, h with
 | [], _ => simp [Lib.join_nil]
 | x :: r, h =>
  rw [Lib.join_cons, List.length_append, List.length_cons, Nat.add_mul, Nat.one_mul]
  have hx := h x (by simp)
  have ht : (Lib.joinTail sep r).length ≤ r.length * (M + sep.length) := by
   unfold Lib.joinTail
   have hr : ∀ y ∈ r, y.length ≤ M := fun y hy => h y (by simp [hy])
   clear h hx
   induction r with
   | nil => simp
   | cons y r ih =>
    have := hr y (by simp)
    have := ih (fun z hz => hr z (by simp [hz]))
    simp only [List.map_cons, List.flatten_cons, List.length_append, List.length_cons, Nat.add_mul, Nat.one_mul] at this ⊢
    omega
  omega
theorem esc_le (l : List UInt8) : (esc l).length ≤ 2 * l.length := by
 rw [esc_length]
 have : strokes l ≤ l.length := List.length_filter_le _ _
 omega
theorem nm_len {s : List UInt8} (h : nmB s = true) : s.length ≤ 16 := by
 match s, h with
 | c :: l, h =>
  simp only [nmB, Bool.and_eq_true, decide_eq_true_eq] at h
  exact h.1.1
structure MayP (q : Qry) : Prop where
 cols : q.cols.length ≤ 8
 wh : q.wh.length ≤ 8
 tab : nmB q.tab = true
 colsB : ∀ c ∈ q.cols, nmB c = true
 whB : ∀ t ∈ q.wh, nmB t.col = true ∧ 1 ≤ t.op ∧ t.op ≤ 6 ∧ t.val.length ≤ 1024
 ord : q.ord = [] ∨ nmB q.ord = true
 lim0 : 0 ≤ q.lim
 lim1 : q.lim ≤ 999999999
theorem mayP {q : Qry} (h : mayQ q = true) : MayP q := by
 unfold mayQ at h
 simp only [Bool.and_eq_true, decide_eq_true_eq, List.all_eq_true] at h
 obtain ⟨⟨⟨⟨⟨⟨⟨h1, h2⟩, h3⟩, h4⟩, h5⟩, h6⟩, h7⟩, h8⟩ := h
 refine ⟨h1, h2, h3, h4, fun t ht => ?_, ?_, h7, h8⟩
 ·
  have := h5 t ht
  simp only [tstB, Bool.and_eq_true, decide_eq_true_eq] at this
  exact ⟨this.1.1.1, this.1.1.2, this.1.2, this.2⟩
 ·
  by_cases ho : q.ord = []
  ·
   exact .inl ho
  ·
   rw [if_neg ho] at h6; exact .inr h6
theorem ord_le {q : Qry} (h : MayP q) : q.ord.length ≤ 16 := by
 rcases h.ord with e | e
 ·
  rw [e]; simp
 ·
  exact nm_len e
end Go.Proofs.YthhemephaabblaaGreatDoor.Hq
namespace Go.Proofs.YthhemephaabblaaGreatDoor.Hq
open Go.RowKit Go.Proofs.YthhemephaabblaaGreatDoorW.PrintWords Go.Proofs.YthhemephaabblaaGreatDoorW.PrintLast Go.Proofs.YthhemephaabblaaGreatDoorW.PrintMore Go.Proofs.YthhemephaabblaaGreatDoor Go.Proofs.YthhemephaabblaaGreatDoor.Q
set_option linter.unusedVariables false
set_option linter.unusedSimpArgs false
theorem ext_drewN {a w : World} (h : Ext a w) (n : Nat) : Ext a (w.drewN n) := below_drewN h n
theorem ext_drawn {w w' : World} (h : Drawn0 w w') : Ext w w' := by
 obtain ⟨n, rfl⟩ := h
 exact ext_drewN (Ext.refl _) n
theorem opsx_calls (w : World) : Calls Tryz.prog 30 #[] w fun e w' => ∃ b c, e = .returned (.slice b 6 c) ∧ Ext w w' := by
 refine (query_operators.calls _ w rfl).mono ?_
 rintro e w' ⟨v, rfl, hR, hB⟩
 obtain ⟨A, c, rfl⟩ := Kd.R_slice hR
 exact ⟨A, c, rfl, hB⟩
set_option maxRecDepth 100000 in
set_option maxHeartbeats 3200000 in
theorem may_calls (q : Qry) (hq : okQ q) (A5 : Option Addr) (c5 : Nat) (A7 : Option Addr) (c7 : Nat) (w : World) (h5 : Kd.C Kd.string w A5 q.cols.length (q.cols.map strB)) (hc5 : q.cols.length ≤ c5) (h7 : Kd.C k37 w A7 q.wh.length (q.wh.map t37)) (hc7 : q.wh.length ≤ c7) :
  Calls Tryz.prog 26 #[.agg #[.slice A5 q.cols.length c5, .string (strB q.tab), .slice A7 q.wh.length c7, .string (strB q.ord), .bool q.down, .int .i64 q.lim]] w fun e w' => e = .returned (.bool (mayQ q)) ∧ Ext w w' := by
 have H5 := Aside0.mk h5
 have H7 := Aside0.mk h7
 have HQ := Aside0.mk hq
 clear h5 h7 hq
 go_enter Tryz.func26, Tryz.ntmps26
 go_upto_region 1 with fail
 obtain ⟨w2, hw2⟩ : ∃ W, W = w.alloc (.cells #[.slice A5 q.cols.length c5, .string (strB q.tab), .slice A7 q.wh.length c7, .string (strB q.ord), .bool q.down, .int .i64 q.lim] 25) := ⟨_, rfl⟩
 have hzp : w2.heap[w.heap.size]? = some (.cells #[.slice A5 q.cols.length c5, .string (strB q.tab), .slice A7 q.wh.length c7, .string (strB q.ord), .bool q.down, .int .i64 q.lim] 25 (0, 0)) := by rw [hw2]; exact heap_alloc_new _ _
 have hE2 : Ext w w2 := by rw [hw2]; exact (Ext.refl w).alloc _
 rw [← hw2]
 obtain ⟨pb, hpb⟩ : ∃ n, n = w.heap.size := ⟨_, rfl⟩
 rw [← hpb]
 rw [← hpb] at hzp
 have HE2 := Aside0.mk hE2
 have HZP := Aside0.mk hzp
 have z0 := blk_cell hzp 0
 have z1 := blk_cell hzp 1
 have z2 := blk_cell hzp 2
 have z3 := blk_cell hzp 3
 have z4 := blk_cell hzp 4
 have z5 := blk_cell hzp 5
 clear hw2 hpb hzp hE2
 by_cases h8 : q.cols.length ≤ 8
 rotate_left
 ·
  have hb : (8 : Int) < q.cols.length := by omega
  have hr : mayQ q = false := by simp [mayQ, h8]
  clear h8
  go_wp2_with fail
  go_ret
  exact ⟨by first | rfl | (rw [hr]; rfl), HE2.out⟩
 by_cases h8b : q.wh.length ≤ 8
 rotate_left
 ·
  have hb : ¬ (8 : Int) < q.cols.length := by omega
  have hb2 : (8 : Int) < q.wh.length := by omega
  have hr : mayQ q = false := by simp [mayQ, h8b]
  clear h8 h8b
  go_wp2_with fail
  go_ret
  exact ⟨by first | rfl | (rw [hr]; rfl), HE2.out⟩
 have hb : ¬ (8 : Int) < q.cols.length := by omega
 have hb2 : ¬ (8 : Int) < q.wh.length := by omega
 cases hnt : nmB q.tab
 ·
  have HN := Aside0.mk (named_f q.tab HQ.out.2.1 30 (by decide))
  rw [hnt] at HN
  have hr : mayQ q = false := by simp [mayQ, hnt]
  clear hnt
  go_wp2_with (first | (go_at_call 49; (with_reducible refine (query_named.calls 30 _ _ _ HN.out).mono ?_); rintro e w' ⟨rfl, ⟨nd, rfl⟩⟩))
  go_ret
  exact ⟨by first | rfl | (rw [hr]; rfl), ext_drewN HE2.out _⟩
 have HN := Aside0.mk (named_f q.tab HQ.out.2.1 30 (by decide))
 rw [hnt] at HN
 have HNT := Aside0.mk hnt
 have H8 := Aside0.mk (And.intro h8 h8b)
 clear hnt
 go_wp2_with (first | (go_at_call 49; (with_reducible refine (query_named.calls 30 _ _ _ HN.out).mono ?_); rintro e w' ⟨rfl, ⟨nd, rfl⟩⟩))
 clear hb hb2 h8 h8b HN
 go_loopw [26] (fun s26 W => ∃ j : Nat, j ≤ q.cols.length ∧ s26 = .int .i64 j ∧ Ext w2 W ∧ (q.cols.take j).all nmB = true) (fun v _ => q.cols.length - (intOf v).toNat)
 case atStart => exact ⟨0, by omega, rfl, ext_drewN (Ext.refl _) _, rfl⟩
 case round =>
 clear z0 z1 z2 z3 z4 z5
 obtain ⟨wo, hwo⟩ : ∃ wo : World, wo = wr := ⟨_, rfl⟩
 subst hwo
 obtain ⟨j, hj, rfl, hX, hall⟩ := hrel
 have HX := Aside0.mk hX
 have HXX := Aside0.mk (HE2.out.trans hX)
 have HALL := Aside0.mk hall
 clear hX hall
 by_cases hlt : j < q.cols.length
 ·
  have hb : (j : Int) < q.cols.length := by omega
  obtain ⟨ad, hA, hcj⟩ := Kd.at_string (Kd.C_below H5.out HXX.out) (j : Int) (by omega) (by omega)
  obtain ⟨x, hx⟩ : ∃ x, x = q.cols[j] := ⟨_, rfl⟩
  rw [rdOf_map _ _ hlt, ← hx, Int.toNat_natCast] at hcj
  subst hA
  have hxl : x.length ≤ 1000000000000 := HQ.out.1 x (by rw [hx]; exact List.getElem_mem hlt)
  have hb0 : (0 : Int) ≤ j := by omega
  have hln := HQ.out.2.2.2.2.1
  have HN := Aside0.mk (named_f x hxl 30 (by decide))
  clear hxl
  cases hnx : nmB x
  ·
   rw [hnx] at HN
   have hr : mayQ q = false := by
    have : q.cols.all nmB = false := by
     rw [List.all_eq_false]
     exact ⟨x, by rw [hx]; exact List.getElem_mem hlt, by simp [hnx]⟩
    simp [mayQ, this]
   clear hnx hx
   go_wp2_with (first | (go_at_call 49; (with_reducible refine (query_named.calls 30 _ _ _ HN.out).mono ?_); rintro e w' ⟨rfl, ⟨nd, rfl⟩⟩))
   go_ret
   exact ⟨by first | rfl | (rw [hr]; rfl), ext_drewN (HE2.out.trans HX.out) _⟩
  ·
   rw [hnx] at HN
   have ha : (q.cols.take (j + 1)).all nmB = true := by
    rw [List.take_succ_eq_append_getElem hlt, List.all_append, HALL.out, ← hx]
    simp [hnx]
   have HA := Aside0.mk ha
   clear hnx hx ha
   go_wp2_with (first | (go_at_call 49; (with_reducible refine (query_named.calls 30 _ _ _ HN.out).mono ?_); rintro e w' ⟨rfl, ⟨nd, rfl⟩⟩))
   go_roundw
   case rel => exact ⟨j + 1, by omega, by go_num, ext_drewN HX.out _, HA.out⟩
   case measure => simp [intOf]; omega
 obtain rfl : j = q.cols.length := by omega
 have hall : q.cols.all nmB = true := by have := HALL.out; rwa [List.take_length] at this
 have HCA := Aside0.mk hall
 have hb : ¬ ((q.cols.length : Int) < q.cols.length) := by omega
 have z2 : wo.cell? ⟨pb, 2, none⟩ = some (.slice A7 q.wh.length c7) := cell_ext HX.out (blk_cell HZP.out 2)
 clear HALL hall hlt hj
 go_wp2_with fail
 clear hb z2
 go_loopw [37] (fun s37 W => ∃ j : Nat, j ≤ q.wh.length ∧ s37 = .int .i64 j ∧ Ext w2 W ∧ (q.wh.take j).all tstB = true) (fun v _ => q.wh.length - (intOf v).toNat)
 case atStart => exact ⟨0, by omega, rfl, HX.out, rfl⟩
 case round =>
 clear HX HXX
 obtain ⟨wp, hwp⟩ : ∃ wp : World, wp = wr := ⟨_, rfl⟩
 subst hwp
 obtain ⟨j, hj, rfl, hX, hall⟩ := hrel
 have HX := Aside0.mk hX
 have HXX := Aside0.mk (HE2.out.trans hX)
 have HALL := Aside0.mk hall
 clear hX hall
 by_cases hlt : j < q.wh.length
 ·
  have hb : (j : Int) < q.wh.length := by omega
  have hb0 : (0 : Int) ≤ j := by omega
  obtain ⟨t, ht⟩ : ∃ t, t = q.wh[j] := ⟨_, rfl⟩
  have hmem : t ∈ q.wh := by rw [ht]; exact List.getElem_mem hlt
  have hxl := HQ.out.2.2.1 t hmem
  obtain ⟨ad, hA, d1, d2, d3⟩ := at_T37 (Kd.C_below H7.out HXX.out) (j : Int) (by omega) hb
  rw [rd37 _ _ hlt, ← ht] at d1 d2 d3
  simp only [t37, Int.toNat_natCast] at d1 d2 d3
  subst hA
  have HN := Aside0.mk (named_f t.col hxl.1 30 (by decide))
  obtain ⟨nb, hnb⟩ : ∃ b, b = nmB t.col := ⟨_, rfl⟩
  rw [← hnb] at HN
  have HLT := Aside0.mk hlt
  have HT := Aside0.mk ht
  have HNB := Aside0.mk hnb
  have HXL := Aside0.mk hxl
  clear hmem hxl hnb ht
  go_upto_region 12 with fail
  obtain ⟨wt, hwt⟩ : ∃ W, W = wp.alloc (.cells #[.string (strB t.col), .int .i64 t.op, .string (strB t.val)] 37) := ⟨_, rfl⟩
  have hE1 : Ext wp wt := by rw [hwt]; exact (Ext.refl _).alloc _
  have hzt : wt.heap[wp.heap.size]? = some (.cells #[.string (strB t.col), .int .i64 t.op, .string (strB t.val)] 37 (0, 0)) := by rw [hwt]; exact heap_alloc_new _ _
  obtain ⟨tb, htb⟩ : ∃ n, n = wp.heap.size := ⟨_, rfl⟩
  rw [← htb] at hzt
  rw [← hwt, ← htb]
  have HT0 : Aside0 (wt.cell? ⟨tb, 0, none⟩ = some (.string (strB t.col))) := ⟨blk_cell hzt 0⟩
  have HT1 : Aside0 (wt.cell? ⟨tb, 1, none⟩ = some (.int .i64 t.op)) := ⟨blk_cell hzt 1⟩
  have HT2 : Aside0 (wt.cell? ⟨tb, 2, none⟩ = some (.string (strB t.val))) := ⟨blk_cell hzt 2⟩
  have HXt := Aside0.mk (HX.out.trans hE1)
  obtain ⟨m1, hm1⟩ : ∃ m, m = !nb := ⟨_, rfl⟩
  obtain ⟨D1, hd1⟩ : ∃ m, m = decide (t.op < 1) := ⟨_, rfl⟩
  obtain ⟨D2, hd2⟩ : ∃ m, m = decide (6 < t.op) := ⟨_, rfl⟩
  obtain ⟨D3, hd3⟩ : ∃ m, m = decide (1024 < (t.val.length : Int)) := ⟨_, rfl⟩
  obtain ⟨m2, hm2⟩ : ∃ m, m = (m1 || D1) := ⟨_, rfl⟩
  obtain ⟨m3, hm3⟩ : ∃ m, m = (m2 || D2) := ⟨_, rfl⟩
  obtain ⟨m4, hm4⟩ : ∃ m, m = (m3 || D3) := ⟨_, rfl⟩
  have ht4 : tstB t = !m4 := by
   rw [hm4, hm3, hm2, hm1, hd1, hd2, hd3, HNB.out]
   unfold tstB
   cases nmB t.col
   ·
    simp
   ·
    by_cases g1 : t.op < 1
    ·
     simp [g1, show ¬ 1 ≤ t.op by omega]
    ·
     by_cases g2 : 6 < t.op
     ·
      simp [g1, g2, show ¬ t.op ≤ 6 by omega]
     ·
      by_cases g3 : 1024 < (t.val.length : Int)
      ·
       simp [g1, g2, g3, show ¬ t.val.length ≤ 1024 by omega]
      ·
       simp [g1, g2, g3, show 1 ≤ t.op by omega, show t.op ≤ 6 by omega, show t.val.length ≤ 1024 by omega]
  have HM1 := Aside0.mk hm1
  have HM2 := Aside0.mk hm2
  have HM3 := Aside0.mk hm3
  have HM4 := Aside0.mk hm4
  have HD1 := Aside0.mk hd1.symm
  have HD2 := Aside0.mk hd2.symm
  have HD3 := Aside0.mk hd3.symm
  have HT4 := Aside0.mk ht4
  clear hwt hE1 hzt htb hm1 hm2 hm3 hm4 hd1 hd2 hd3 ht4 d1 d2 d3
  refine ext_region 22 [(0, 41), (1, 42), (2, 43), (3, 44), (4, 45), (5, 46), (6, 47), (7, 48), (8, 49), (9, 50), (10, 51), (11, 52), (12, 53), (13, 54), (14, 55), (15, 56), (16, 57), (17, 58), (18, 59), (19, 60), (20, 61), (21, 62)] [0, 1, 2, 3, 4, 5, 6, 7, 8, 9, 10, 11, 12, 13, 14, 15, 16, 17, 18, 19, 20, 21] (fun i w v => match i with | 0 => v = .pointer (some ⟨tb, 0, none⟩) | 1 => v = .string (strB t.col) | 2 => v = .bool nb | 3 => v = .bool m1 | 4 => v = .bool m1 | 5 => v = if m1 then undef else .pointer (some ⟨tb, 1, none⟩) | 6 => v = if m1 then undef else .int .i64 t.op | 7 => v = if m1 then undef else .bool D1 | 8 => v = .bool m2 | 9 => v = .bool m2 | 10 => v = if m2 then undef else .pointer (some ⟨tb, 1, none⟩) | 11 => v = if m2 then undef else .int .i64 t.op | 12 => if m2 then v = undef else ∃ b c, v = .slice b 6 c | 13 => v = if m2 then undef else .int .i64 6 | 14 => v = if m2 then undef else .bool D2 | 15 => v = .bool m3 | 16 => v = .bool m3 | 17 => v = if m3 then undef else .pointer (some ⟨tb, 2, none⟩) | 18 => v = if m3 then undef else .string (strB t.val) | 19 => v = if m3 then undef else .int .i64 (t.val.length : Nat) | 20 => v = if m3 then undef else .bool D3 | 21 => v = .bool m4 | _ => True) (by kernel_rfl) (by kernel_rfl) (by rfl) rfl ?mono12 ?steps12 ?fin12
  case mono12 =>
   intro i w w' v h hE
   match i with
   | 0 => exact h
   | 1 => exact h
   | 2 => exact h
   | 3 => exact h
   | 4 => exact h
   | 5 => exact h
   | 6 => exact h
   | 7 => exact h
   | 8 => exact h
   | 9 => exact h
   | 10 => exact h
   | 11 => exact h
   | 12 => exact h
   | 13 => exact h
   | 14 => exact h
   | 15 => exact h
   | 16 => exact h
   | 17 => exact h
   | 18 => exact h
   | 19 => exact h
   | 20 => exact h
   | 21 => exact h
   | _ + 22 => trivial
  case steps12 =>
   refine stepE_cons ⟨_, rfl, fun a w hE hH => ?_⟩ ?_
   ·
    have e6 : a.tmps[6]? = some (.pointer (some ⟨tb, 0, none⟩)) := hH.old 6 rfl
    exact Or.inl ⟨rfl, goodE_val (.pointer (some ⟨tb, 0, none⟩)) (by simp [execOp, Act.eval, e6, go_sem]) rfl⟩
   refine stepE_cons ⟨_, rfl, fun a w hE hH => ?_⟩ ?_
   ·
    obtain ⟨v41, e41, g41⟩ := hH.dep 0 41 rfl (by kernel_rfl)
    have q41 : v41 = .pointer (some ⟨tb, 0, none⟩) := g41
    subst q41
    have hc := cell_ext ((Ext.to_drew _).trans hE) HT0.out
    exact Or.inl ⟨(rfl), goodE_val (.string (strB t.col)) (by simp [execOp, Act.eval, e41, hc, go_sem]) rfl⟩
   refine stepE_cons ⟨_, rfl, fun a w hE hH => ?_⟩ ?_
   ·
    obtain ⟨v42, e42, g42⟩ := hH.dep 1 42 rfl (by kernel_rfl)
    have q42 : v42 = .string (strB t.col) := g42
    subst q42
    exact Or.inl ⟨(rfl), goodE_call rfl #[.string (strB t.col)] (by simp [Act.eval, e42]) _ Tryz.func49 (by kernel_rfl) (by kernel_rfl) ((query_named.calls 30 _ _ w HN.out).mono (fun e w' h => ⟨_, h.1, ext_drawn h.2, rfl⟩))⟩
   refine stepE_cons ⟨_, rfl, fun a w hE hH => ?_⟩ ?_
   ·
    obtain ⟨v43, e43, g43⟩ := hH.dep 2 43 rfl (by kernel_rfl)
    have q43 : v43 = .bool nb := g43
    subst q43
    have hm := HM1.out
    exact Or.inl ⟨(rfl), goodE_val (.bool m1) (by subst hm; simp [execOp, Act.eval, e43, go_sem]) rfl⟩
   refine stepE_cons ⟨_, rfl, fun a w hE hH => ?_⟩ ?_
   ·
    obtain ⟨v44, e44, g44⟩ := hH.dep 3 44 rfl (by kernel_rfl)
    exact Or.inl ⟨rfl, goodE_move v44 rfl (eval_of e44) g44⟩
   refine stepE_cons ⟨_, rfl, fun a w hE hH => ?_⟩ ?_
   ·
    have e6 : a.tmps[6]? = some (.pointer (some ⟨tb, 0, none⟩)) := hH.old 6 rfl
    obtain ⟨v45, e45, g45⟩ := hH.dep 4 45 rfl (by kernel_rfl)
    have q45 : v45 = .bool m1 := g45
    subst q45
    cases m1 with
    | true => exact Or.inr ⟨wanted_off rfl rfl rfl e45, rfl⟩
    | false => exact Or.inl ⟨wanted_on rfl rfl rfl e45, goodE_val (.pointer (some ⟨tb, 1, none⟩)) (by simp [execOp, Act.eval, e6, go_sem]) rfl⟩
   refine stepE_cons ⟨_, rfl, fun a w hE hH => ?_⟩ ?_
   ·
    obtain ⟨v46, e46, g46⟩ := hH.dep 5 46 rfl (by kernel_rfl)
    have q46 : v46 = if m1 then undef else .pointer (some ⟨tb, 1, none⟩) := g46
    subst q46
    obtain ⟨v45, e45, g45⟩ := hH.dep 4 45 rfl (by kernel_rfl)
    have q45 : v45 = .bool m1 := g45
    subst q45
    have hc := cell_ext ((Ext.to_drew _).trans hE) HT1.out
    cases m1 with
    | true => exact Or.inr ⟨wanted_off rfl rfl rfl e45, rfl⟩
    | false => exact Or.inl ⟨wanted_on rfl rfl rfl e45, goodE_val (.int .i64 t.op) (by simp [execOp, Act.eval, e46, hc, go_sem]) rfl⟩
   refine stepE_cons ⟨_, rfl, fun a w hE hH => ?_⟩ ?_
   ·
    obtain ⟨v47, e47, g47⟩ := hH.dep 6 47 rfl (by kernel_rfl)
    have q47 : v47 = if m1 then undef else .int .i64 t.op := g47
    subst q47
    obtain ⟨v45, e45, g45⟩ := hH.dep 4 45 rfl (by kernel_rfl)
    have q45 : v45 = .bool m1 := g45
    subst q45
    have hd := HD1.out
    cases m1 with
    | true => exact Or.inr ⟨wanted_off rfl rfl rfl e45, rfl⟩
    | false => exact Or.inl ⟨wanted_on rfl rfl rfl e45, goodE_val (.bool D1) (by simp [execOp, Act.eval, e47, hd, go_sem]) rfl⟩
   refine stepE_cons ⟨_, rfl, fun a w hE hH => ?_⟩ ?_
   ·
    obtain ⟨v45, e45, g45⟩ := hH.dep 4 45 rfl (by kernel_rfl)
    have q45 : v45 = .bool m1 := g45
    subst q45
    obtain ⟨v48, e48, g48⟩ := hH.dep 7 48 rfl (by kernel_rfl)
    have q48 : v48 = if m1 then undef else .bool D1 := g48
    subst q48
    have hm := HM2.out
    exact Or.inl ⟨(rfl), goodE_pick m1 (.bool m2) rfl (eval_of e45) (by subst hm; cases m1 <;> simp [Act.eval, e48]) rfl⟩
   refine stepE_cons ⟨_, rfl, fun a w hE hH => ?_⟩ ?_
   ·
    obtain ⟨v49, e49, g49⟩ := hH.dep 8 49 rfl (by kernel_rfl)
    exact Or.inl ⟨rfl, goodE_move v49 rfl (eval_of e49) g49⟩
   refine stepE_cons ⟨_, rfl, fun a w hE hH => ?_⟩ ?_
   ·
    have e6 : a.tmps[6]? = some (.pointer (some ⟨tb, 0, none⟩)) := hH.old 6 rfl
    obtain ⟨v50, e50, g50⟩ := hH.dep 9 50 rfl (by kernel_rfl)
    have q50 : v50 = .bool m2 := g50
    subst q50
    cases m2 with
    | true => exact Or.inr ⟨wanted_off rfl rfl rfl e50, rfl⟩
    | false => exact Or.inl ⟨wanted_on rfl rfl rfl e50, goodE_val (.pointer (some ⟨tb, 1, none⟩)) (by simp [execOp, Act.eval, e6, go_sem]) rfl⟩
   refine stepE_cons ⟨_, rfl, fun a w hE hH => ?_⟩ ?_
   ·
    obtain ⟨v51, e51, g51⟩ := hH.dep 10 51 rfl (by kernel_rfl)
    have q51 : v51 = if m2 then undef else .pointer (some ⟨tb, 1, none⟩) := g51
    subst q51
    obtain ⟨v50, e50, g50⟩ := hH.dep 9 50 rfl (by kernel_rfl)
    have q50 : v50 = .bool m2 := g50
    subst q50
    have hc := cell_ext ((Ext.to_drew _).trans hE) HT1.out
    cases m2 with
    | true => exact Or.inr ⟨wanted_off rfl rfl rfl e50, rfl⟩
    | false => exact Or.inl ⟨wanted_on rfl rfl rfl e50, goodE_val (.int .i64 t.op) (by simp [execOp, Act.eval, e51, hc, go_sem]) rfl⟩
   refine stepE_cons ⟨_, rfl, fun a w hE hH => ?_⟩ ?_
   ·
    obtain ⟨v50, e50, g50⟩ := hH.dep 9 50 rfl (by kernel_rfl)
    have q50 : v50 = .bool m2 := g50
    subst q50
    cases m2 with
    | true => exact Or.inr ⟨wanted_off rfl rfl rfl e50, rfl⟩
    | false => exact Or.inl ⟨wanted_on rfl rfl rfl e50, goodE_call rfl #[] (by simp) _ Tryz.func30 (by kernel_rfl) (by kernel_rfl) ((opsx_calls w).mono (fun e w' ⟨b, c, h1, h2⟩ => ⟨_, h1, h2, ⟨b, c, rfl⟩⟩))⟩
   refine stepE_cons ⟨_, rfl, fun a w hE hH => ?_⟩ ?_
   ·
    obtain ⟨v53, e53, g53⟩ := hH.dep 12 53 rfl (by kernel_rfl)
    obtain ⟨v50, e50, g50⟩ := hH.dep 9 50 rfl (by kernel_rfl)
    have q50 : v50 = .bool m2 := g50
    subst q50
    cases m2 with
    | true => exact Or.inr ⟨wanted_off rfl rfl rfl e50, rfl⟩
    | false =>
     obtain ⟨b, c, rfl⟩ := g53
     exact Or.inl ⟨wanted_on rfl rfl rfl e50, goodE_val (.int .i64 6) (by simp [execOp, Act.eval, e53, go_sem]) rfl⟩
   refine stepE_cons ⟨_, rfl, fun a w hE hH => ?_⟩ ?_
   ·
    obtain ⟨v52, e52, g52⟩ := hH.dep 11 52 rfl (by kernel_rfl)
    have q52 : v52 = if m2 then undef else .int .i64 t.op := g52
    subst q52
    obtain ⟨v54, e54, g54⟩ := hH.dep 13 54 rfl (by kernel_rfl)
    have q54 : v54 = if m2 then undef else .int .i64 6 := g54
    subst q54
    obtain ⟨v50, e50, g50⟩ := hH.dep 9 50 rfl (by kernel_rfl)
    have q50 : v50 = .bool m2 := g50
    subst q50
    have hd := HD2.out
    cases m2 with
    | true => exact Or.inr ⟨wanted_off rfl rfl rfl e50, rfl⟩
    | false => exact Or.inl ⟨wanted_on rfl rfl rfl e50, goodE_val (.bool D2) (by simp [execOp, Act.eval, e52, e54, hd, go_sem]) rfl⟩
   refine stepE_cons ⟨_, rfl, fun a w hE hH => ?_⟩ ?_
   ·
    obtain ⟨v50, e50, g50⟩ := hH.dep 9 50 rfl (by kernel_rfl)
    have q50 : v50 = .bool m2 := g50
    subst q50
    obtain ⟨v55, e55, g55⟩ := hH.dep 14 55 rfl (by kernel_rfl)
    have q55 : v55 = if m2 then undef else .bool D2 := g55
    subst q55
    have hm := HM3.out
    exact Or.inl ⟨(rfl), goodE_pick m2 (.bool m3) rfl (eval_of e50) (by subst hm; cases m2 <;> simp [Act.eval, e55]) rfl⟩
   refine stepE_cons ⟨_, rfl, fun a w hE hH => ?_⟩ ?_
   ·
    obtain ⟨v56, e56, g56⟩ := hH.dep 15 56 rfl (by kernel_rfl)
    exact Or.inl ⟨rfl, goodE_move v56 rfl (eval_of e56) g56⟩
   refine stepE_cons ⟨_, rfl, fun a w hE hH => ?_⟩ ?_
   ·
    have e6 : a.tmps[6]? = some (.pointer (some ⟨tb, 0, none⟩)) := hH.old 6 rfl
    obtain ⟨v57, e57, g57⟩ := hH.dep 16 57 rfl (by kernel_rfl)
    have q57 : v57 = .bool m3 := g57
    subst q57
    cases m3 with
    | true => exact Or.inr ⟨wanted_off rfl rfl rfl e57, rfl⟩
    | false => exact Or.inl ⟨wanted_on rfl rfl rfl e57, goodE_val (.pointer (some ⟨tb, 2, none⟩)) (by simp [execOp, Act.eval, e6, go_sem]) rfl⟩
   refine stepE_cons ⟨_, rfl, fun a w hE hH => ?_⟩ ?_
   ·
    obtain ⟨v58, e58, g58⟩ := hH.dep 17 58 rfl (by kernel_rfl)
    have q58 : v58 = if m3 then undef else .pointer (some ⟨tb, 2, none⟩) := g58
    subst q58
    obtain ⟨v57, e57, g57⟩ := hH.dep 16 57 rfl (by kernel_rfl)
    have q57 : v57 = .bool m3 := g57
    subst q57
    have hc := cell_ext ((Ext.to_drew _).trans hE) HT2.out
    cases m3 with
    | true => exact Or.inr ⟨wanted_off rfl rfl rfl e57, rfl⟩
    | false => exact Or.inl ⟨wanted_on rfl rfl rfl e57, goodE_val (.string (strB t.val)) (by simp [execOp, Act.eval, e58, hc, go_sem]) rfl⟩
   refine stepE_cons ⟨_, rfl, fun a w hE hH => ?_⟩ ?_
   ·
    obtain ⟨v59, e59, g59⟩ := hH.dep 18 59 rfl (by kernel_rfl)
    have q59 : v59 = if m3 then undef else .string (strB t.val) := g59
    subst q59
    obtain ⟨v57, e57, g57⟩ := hH.dep 16 57 rfl (by kernel_rfl)
    have q57 : v57 = .bool m3 := g57
    subst q57
    cases m3 with
    | true => exact Or.inr ⟨wanted_off rfl rfl rfl e57, rfl⟩
    | false => exact Or.inl ⟨wanted_on rfl rfl rfl e57, goodE_val (.int .i64 (t.val.length : Nat)) (by simp [execOp, Act.eval, e59, strB_size, go_sem]) rfl⟩
   refine stepE_cons ⟨_, rfl, fun a w hE hH => ?_⟩ ?_
   ·
    obtain ⟨v60, e60, g60⟩ := hH.dep 19 60 rfl (by kernel_rfl)
    have q60 : v60 = if m3 then undef else .int .i64 (t.val.length : Nat) := g60
    subst q60
    obtain ⟨v57, e57, g57⟩ := hH.dep 16 57 rfl (by kernel_rfl)
    have q57 : v57 = .bool m3 := g57
    subst q57
    have hd := HD3.out
    cases m3 with
    | true => exact Or.inr ⟨wanted_off rfl rfl rfl e57, rfl⟩
    | false => exact Or.inl ⟨wanted_on rfl rfl rfl e57, goodE_val (.bool D3) (by simp [execOp, Act.eval, e60, hd, go_sem]) rfl⟩
   refine stepE_cons ⟨_, rfl, fun a w hE hH => ?_⟩ ?_
   ·
    obtain ⟨v57, e57, g57⟩ := hH.dep 16 57 rfl (by kernel_rfl)
    have q57 : v57 = .bool m3 := g57
    subst q57
    obtain ⟨v61, e61, g61⟩ := hH.dep 20 61 rfl (by kernel_rfl)
    have q61 : v61 = if m3 then undef else .bool D3 := g61
    subst q61
    have hm := HM4.out
    exact Or.inl ⟨(rfl), goodE_pick m3 (.bool m4) rfl (eval_of e57) (by subst hm; cases m3 <;> simp [Act.eval, e61]) rfl⟩
   exact stepE_nil
  rintro vals wz hE hV
  have k62 : vals 21 = .bool m4 := hV 21 (by simp) rfl
  simp only [List.map_cons, List.map_nil, putAll, Act.put, List.setIfInBounds_toArray, List.set_cons_zero, List.set_cons_succ, k62]
  have HX2 : Aside0 (Ext w2 wz) := ⟨HXt.out.trans ((Ext.to_drew _).trans hE)⟩
  have ht4 := HT4.out
  clear hE hV HM1 HM2 HM3 HM4 HD1 HD2 HD3 HT4 k62
  cases m4 with
  | true =>
   have hr : mayQ q = false := by
    have : q.wh.all tstB = false := by
     rw [List.all_eq_false]
     exact ⟨t, by rw [HT.out]; exact List.getElem_mem hlt, by simp [ht4]⟩
    simp [mayQ, this]
   clear ht4
   go_wp2_with fail
   go_ret
   exact ⟨by first | rfl | (rw [hr]; rfl), HE2.out.trans HX2.out⟩
  | false =>
   have HA : Aside0 ((q.wh.take (j + 1)).all tstB = true) := ⟨by
    rw [List.take_succ_eq_append_getElem hlt, List.all_append, HALL.out, ← HT.out]
    simp [ht4]⟩
   clear ht4
   have hln := HQ.out.2.2.2.2.2
   go_wp2_with fail
   go_roundw
   case rel => exact ⟨j + 1, by omega, by go_num, HX2.out, HA.out⟩
   case measure => simp [intOf]; omega
 obtain rfl : j = q.wh.length := by omega
 have hall : q.wh.all tstB = true := by have := HALL.out; rwa [List.take_length] at this
 have hm : mayQ q = ((if q.ord = [] then !q.down else nmB q.ord) && decide (0 ≤ q.lim) && decide (q.lim ≤ 999999999)) := by
  simp [mayQ, hall, HCA.out, H8.out.1, H8.out.2, HNT.out]
 have HM := Aside0.mk hm
 have hb : ¬ ((q.wh.length : Int) < q.wh.length) := by omega
 have z3 : wp.cell? ⟨pb, 3, none⟩ = some (.string (strB q.ord)) := cell_ext HX.out (blk_cell HZP.out 3)
 have z4 : wp.cell? ⟨pb, 4, none⟩ = some (.bool q.down) := cell_ext HX.out (blk_cell HZP.out 4)
 have z5 : wp.cell? ⟨pb, 5, none⟩ = some (.int .i64 q.lim) := cell_ext HX.out (blk_cell HZP.out 5)
 clear HALL hall hlt hj hm
 have hlim : (¬ 0 ≤ q.lim ∧ True) ∨ (0 ≤ q.lim ∧ q.lim ≤ 999999999) ∨ (0 ≤ q.lim ∧ ¬ q.lim ≤ 999999999) := by
  by_cases h : 0 ≤ q.lim <;> by_cases h' : q.lim ≤ 999999999 <;> simp [h, h'] <;> omega
 by_cases ho : q.ord = []
 ·
  have ho0 : ((strB q.ord).toList == ([] : List UInt8)) = true := by simp [toList_strB, ho]
  have ho1 : ((strB q.ord).toList != ([] : List UInt8)) = false := by simp [toList_strB, ho]
  cases hdn : q.down
  ·
   rw [hdn] at z4
   rcases hlim with ⟨h, h'⟩ | ⟨h, h'⟩ | ⟨h, h'⟩
   all_goals
    have hr := HM.out
    simp [ho, hdn, h, h'] at hr
    have HR := Aside0.mk hr
    clear hr hdn ho
    go_wp2_with fail
    go_ret
    exact ⟨by first | rfl | (rw [HR.out]; rfl) | exact congrArg (fun b => Ending.returned (Value.bool b)) ((decide_eq_false (by omega)).trans HR.out.symm) | exact congrArg (fun b => Ending.returned (Value.bool b)) ((decide_eq_true (by omega)).trans HR.out.symm), by first | exact HE2.out.trans HX.out | exact ext_drewN (HE2.out.trans HX.out) _⟩
  ·
   rw [hdn] at z4
   have hr := HM.out
   simp [ho, hdn] at hr
   have HR := Aside0.mk hr
   clear hr hdn ho
   go_wp2_with fail
   go_ret
   exact ⟨by first | rfl | (rw [HR.out]; rfl) | exact congrArg (fun b => Ending.returned (Value.bool b)) ((decide_eq_false (by omega)).trans HR.out.symm) | exact congrArg (fun b => Ending.returned (Value.bool b)) ((decide_eq_true (by omega)).trans HR.out.symm), by first | exact HE2.out.trans HX.out | exact ext_drewN (HE2.out.trans HX.out) _⟩
 ·
  have ho0 : ((strB q.ord).toList == ([] : List UInt8)) = false := by simp [toList_strB, ho]
  have ho1 : ((strB q.ord).toList != ([] : List UInt8)) = true := by simp [toList_strB, ho]
  have HN := Aside0.mk (named_f q.ord HQ.out.2.2.2.1 30 (by decide))
  cases hno : nmB q.ord
  ·
   rw [hno] at HN
   have hr := HM.out
   simp [ho, hno] at hr
   have HR := Aside0.mk hr
   clear hr hno ho
   go_wp2_with (first | (go_at_call 49; (with_reducible refine (query_named.calls 30 _ _ _ HN.out).mono ?_); rintro e w' ⟨rfl, ⟨nd, rfl⟩⟩))
   go_ret
   exact ⟨by first | rfl | (rw [HR.out]; rfl) | exact congrArg (fun b => Ending.returned (Value.bool b)) ((decide_eq_false (by omega)).trans HR.out.symm) | exact congrArg (fun b => Ending.returned (Value.bool b)) ((decide_eq_true (by omega)).trans HR.out.symm), by first | exact HE2.out.trans HX.out | exact ext_drewN (HE2.out.trans HX.out) _⟩
  ·
   rw [hno] at HN
   rcases hlim with ⟨h, h'⟩ | ⟨h, h'⟩ | ⟨h, h'⟩
   all_goals
    have hr := HM.out
    simp [ho, hno, h, h'] at hr
    have HR := Aside0.mk hr
    clear hr hno ho
    go_wp2_with (first | (go_at_call 49; (with_reducible refine (query_named.calls 30 _ _ _ HN.out).mono ?_); rintro e w' ⟨rfl, ⟨nd, rfl⟩⟩))
    go_ret
    exact ⟨by first | rfl | (rw [HR.out]; rfl) | exact congrArg (fun b => Ending.returned (Value.bool b)) ((decide_eq_false (by omega)).trans HR.out.symm) | exact congrArg (fun b => Ending.returned (Value.bool b)) ((decide_eq_true (by omega)).trans HR.out.symm), by first | exact HE2.out.trans HX.out | exact ext_drewN (HE2.out.trans HX.out) _⟩
end Go.Proofs.YthhemephaabblaaGreatDoor.Hq
