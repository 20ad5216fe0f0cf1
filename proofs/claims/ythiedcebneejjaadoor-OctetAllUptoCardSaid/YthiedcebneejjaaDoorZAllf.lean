/- cairnlaw01.OctetAll: for every input of bulk at most 1048576 (the second form) the call returns true and the argument reads afterwards as before, in whatever memory in which the package-level table of digits holds what the program's text lays in it (the card ties that). -/
import Derived.Test.YthiedcebneejjaaDoorZAlla
import Derived.Test.YthiedcebneejjaaDoorZAlle
import Derived.Test.YthiedcebneejjaaDoorZAlld
import Derived.Deep.RegionWith
import Derived.Deep.CutBlock
import Derived.Deep.CutRange
import Derived.Test.YthiedcebneejjaaDoorRows
import Derived.Test.YthiedcebneejjaaDoorWWords
import Derived.ProofKit
import Derived.OpenShut
import Derived.Test.YthiedcebneejjaaDoorCards
import Derived.Test.YthiedcebneejjaaDoorTie
import Derived.WalkKit
import Derived.Deep.DeepHandedRow
import Derived.Lib.LaidTab
set_option linter.unusedVariables false
set_option linter.unusedSimpArgs false
namespace Go.Proofs.YthiedcebneejjaaDoor
open Go.RowKit Go.Proofs.YthiedcebneejjaaDoorW.PrintWords Go.Proofs.YthiedcebneejjaaDoorW.PrintLast Go.Proofs.YthiedcebneejjaaDoorW.PrintMore
open Extern.Stop (cell)

theorem fl_put (i n j : Nat) (q : List UInt8) (hq : q.length = n) (hj : j < n) (h : q.take j = fl i j) : (q.set j (UInt8.ofNat (i + 1))).take (j + 1) = fl i (j + 1) := by
  have hl : j < (q.set j (UInt8.ofNat (i + 1))).length := by simp; omega
  rw [List.take_succ_eq_append_getElem hl, List.getElem_set_self, List.take_set_of_le (by omega), h, fl_snoc]
/-- the state behind i rounds of the second loop -/
structure ApY (B B2 : Nat) (w : World) (LB : Nat) (v : Nat → Value) (n : Nat → Nat) (s : Value) (Y : Nat → Value) (i : Nat) : Prop where
  ap : ApS B w LB v (fun m => fl m (n m))
  lo : w.ownsRow B2 22 1 s ((List.range i).map Y).length ((List.range i).map Y)
  ow : ∀ j, j < i → Ob B w (Y j) (fl j (n j + 80))
  s1 : ∀ j m, j < i → m < 6 → j ≠ m → Sep (Y j) (v m)
  s2 : ∀ j m, j < i → m < i → j ≠ m → Sep (Y j) (Y m)
theorem map_range_snoc (Y : Nat → Value) (i : Nat) (y : Value) : (List.range i).map Y ++ [y] = (List.range (i + 1)).map (fun j => if j = i then y else Y j) := by
  rw [List.range_succ, List.map_append, List.map_singleton, if_pos rfl]
  congr 1
  refine List.map_congr_left fun j hj => ?_
  have : j ≠ i := by have := List.mem_range.1 hj; omega
  rw [if_neg this]
theorem own22_ne {B B2 k : Nat} {w : World} {s : Value} {ys : List Value} {u : Value} {al : List UInt8} (h : w.ownsRow B2 22 1 s ys.length ys) (ho : Ob B w u al) (hs : s.ownBlock = some k) : u.ownBlock ≠ some k := by
  intro hu
  obtain ⟨c1, h1⟩ := own_typed h k hs
  obtain ⟨c2, h2⟩ := own_typed ho k hu
  rw [h1] at h2
  injection h2 with h2
  injection h2 with _ h2
  cases h2
section
variable {B B2 LB i k : Nat} {W w1 : World} {v Y : Nat → Value} {n : Nat → Nat} {s u v1 : Value} {q : List UInt8}
theorem ApY.ext (h : ApY B B2 W LB v n s Y i) (hE : Ext W w1) : ApY B B2 w1 LB v n s Y i := ⟨h.ap.ext hE, pw_own_below h.lo hE, fun j hj => (h.ow j hj).ext hE, h.s1, h.s2⟩
theorem ApY.push (h : ApY B B2 W LB v n s Y i) (hu : Ob B W u q) (hi : i < 6) (hq : n i ≤ q.length) (hs1 : ∀ m, m < 6 → m ≠ i → Sep u (v m)) (hs2 : ∀ j, j < i → Sep u (Y j)) (hg : W.grownBy w1 u.ownBlock)
    (hat : v1.ownBlock = u.ownBlock ∨ v1.ownBlock = some W.heap.size) (hkeep : ∀ u' q', q'.length ≤ q.length → Ob B W u' q' → Ob B w1 u' q') :
    ApY B B2 w1 LB v n s Y i ∧ (∀ m, m < 6 → m ≠ i → Sep v1 (v m)) ∧ ∀ j, j < i → Sep v1 (Y j) := by
  refine ⟨⟨⟨row_grown h.ap.hdr hg (fun e => hu.row_ne h.ap.hdr LB e rfl), fun m hm => ?_, h.ap.sep, h.ap.hB⟩, World.ownsRow.kept h.lo hg ?_, fun j hj => (h.ow j hj).grown hg (fun k hk e => hs2 j hj k e hk), h.s1, h.s2⟩, fun m hm hmi k hk => ?_, fun j hj k hk => ?_⟩
  · by_cases hmi : m = i
    · subst hmi; exact hkeep _ _ (by rw [fl_length]; exact hq) (h.ap.own m hm)
    · exact (h.ap.own m hm).grown hg (fun k hk e => hs1 m hm hmi k e hk)
  · cases hb : s.ownBlock with
    | none => exact .inl rfl
    | some k => exact .inr (fun e => own22_ne h.lo hu hb e.symm)
  · rcases hat with e | e
    · exact hs1 m hm hmi k (by rw [← e]; exact hk)
    · rw [e] at hk; injection hk with hk; subst hk; exact fun e2 => by have := (h.ap.own m hm).lt _ e2; omega
  · rcases hat with e | e
    · exact hs2 j hj k (by rw [← e]; exact hk)
    · rw [e] at hk; injection hk with hk; subst hk; exact fun e2 => by have := (h.ow j hj).lt _ e2; omega
theorem ApY.more (h : ApY B B2 W LB v n s Y i) (hi : i < 6) (hu : Ob B W u (fl i (n i + 80))) (hs1 : ∀ m, m < 6 → m ≠ i → Sep u (v m)) (hs2 : ∀ j, j < i → Sep u (Y j)) (hL : LB < B2) (hg : W.grownBy w1 s.ownBlock)
    (hlo : w1.ownsRow B2 22 1 v1 ((List.range i).map Y ++ [u]).length ((List.range i).map Y ++ [u])) :
    ApY B B2 w1 LB v n v1 (fun j => if j = i then u else Y j) (i + 1) := by
  refine ⟨h.ap.grown hg (fun k hk => ⟨by have := own_base h.lo k hk; omega, fun m hm => own22_ne h.lo (h.ap.own m hm) hk⟩), by rw [map_range_snoc] at hlo; exact hlo, fun j hj => ?_, fun j m hj hm hjm => ?_, fun j m hj hm hjm => ?_⟩
  · by_cases hji : j = i
    · subst hji; simp only [if_true]; exact hu.grown hg (fun k hk e => own22_ne h.lo hu e hk)
    · simp only [if_neg hji]; exact (h.ow j (by omega)).grown hg (fun k hk e => own22_ne h.lo (h.ow j (by omega)) e hk)
  · by_cases hji : j = i
    · subst hji; simp only [if_true]; exact hs1 m hm (fun e => hjm e.symm)
    · simp only [if_neg hji]; exact h.s1 j m (by omega) hm hjm
  · by_cases hji : j = i
    · subst hji; simp only [if_true, if_neg (show m ≠ j from fun e => hjm e.symm)]; exact hs2 m (by omega)
    · simp only [if_neg hji]
      by_cases hmi : m = i
      · subst hmi; simp only [if_true]; exact (hs2 j (by omega)).symm
      · simp only [if_neg hmi]; exact h.s2 j m (by omega) (by omega) hjm
end
set_option maxHeartbeats 4000000 in
set_option maxRecDepth 100000 in
theorem apart_calls (w : World) (B LB : Nat) (v : Nat → Value) (X : Nat → List UInt8) (hA : ApS B w LB v X) (hl : ∀ i, i < 6 → (X i).length ≤ 1000000000) (hBw : B ≤ w.heap.size) :
    Calls Tryd.prog 24 #[.slice (some ⟨LB, 0, none⟩) 6 6] w (fun e w' => e = .returned (.bool true) ∧ KB w w' (blocksOf v)) := by
  have HA := Aside0.mk hA
  have HL := Aside0.mk hl
  clear hA hl
  go_enter Tryd.func24, Tryd.ntmps24
  go_wp2_with fail
  go_loopw [3, 4] (fun s3 s4 wr => ∃ (i : Nat) (X' : Nat → List UInt8), i ≤ 6 ∧ s3 = .int .i64 i ∧ ApS B wr LB v X' ∧ KB w wr (blocksOf v) ∧ (∀ m, m < 6 → (X' m).length = (X m).length) ∧ ∀ m, m < i → X' m = fl m (X m).length) (fun s3 _ _ => 6 - (intOf s3).toNat)
  case atStart => exact ⟨0, X, by omega, rfl, HA.out, KB.refl _ _, fun m _ => rfl, fun m hm => by omega⟩
  case round =>
    obtain ⟨i, X', hi, rfl, hA, hK, hx, hd⟩ := hrel
    have HAi := Aside0.mk hA
    have HKi := Aside0.mk hK
    have HXi := Aside0.mk hx
    have HDi := Aside0.mk hd
    clear hA hK hx hd
    by_cases hi6 : i < 6
    · have b4 : (0 : Int) ≤ i ∧ (i : Int) < 6 := by omega
      obtain ⟨Ai, ci, hvi, _, _⟩ := (HAi.out.own i hi6).open
      rw [HXi.out i hi6] at hvi
      obtain ⟨n, hn⟩ : ∃ n, n = (X i).length := ⟨_, rfl⟩
      rw [← hn] at hvi
      have hnl : n ≤ 1000000000 := by rw [hn]; exact HL.out i hi6
      have HVI := Aside0.mk hvi
      have HN := Aside0.mk hn
      obtain ⟨wo, hwo⟩ : ∃ wo, wo = wr := ⟨_, rfl⟩
      have HWO := Aside0.mk hwo
      clear hvi hn hwo
      go_wp2_with fail
      go_loopw [4] (fun s4 wr => ∃ (j : Nat) (X'' : Nat → List UInt8), j ≤ n ∧ s4 = .int .i64 j ∧ ApS B wr LB v X'' ∧ KB w wr (blocksOf v) ∧ (∀ m, m < 6 → (X'' m).length = (X m).length) ∧ (∀ m, m < i → X'' m = fl m (X m).length) ∧ (X'' i).take j = fl i j) (fun s4 _ => n - (intOf s4).toNat)
      case atStart => exact ⟨0, X', by omega, rfl, HAi.out, HKi.out, HXi.out, HDi.out, by simp [fl]⟩
      case round =>
        clear HAi HKi HXi HDi
        obtain ⟨j, X'', hj, rfl, hA, hK, hx, hd, ht⟩ := hrel
        have HA2 := Aside0.mk hA
        have HK2 := Aside0.mk hK
        have HX2 := Aside0.mk hx
        have HD2 := Aside0.mk hd
        have HT2 := Aside0.mk ht
        have cy : wr.cell? ⟨LB, i, none⟩ = some (.slice Ai n ci) := by rw [← HVI.out]; exact hA.hdr.cell (vs6_at v i hi6)
        clear hA hK hx hd ht
        by_cases hjn : j < n
        · have b5 : (0 : Int) ≤ j ∧ (j : Int) < n ∧ (j : Int) < 1000000000 := by omega
          have hAg : ∃ g, Ai = some ⟨g, 0, none⟩ := by
            rcases (HA2.out.own i hi6).2 with ⟨h1, _⟩ | ⟨g, cap, cur, h1, _⟩
            · rw [HVI.out] at h1; injection h1 with _ h1 _; omega
            · rw [HVI.out] at h1; injection h1 with h1 _ _; exact ⟨g, h1⟩
          obtain ⟨g, rfl⟩ := hAg
          obtain ⟨c1, f1, ha1, hg1⟩ := HA2.out.put (y := UInt8.ofNat (i + 1)) hi6 HVI.out (by rw [HX2.out i hi6, ← HN.out]; exact hjn)
          rw [n8_of i hi6] at ha1 hg1
          have HA3 := Aside0.mk ha1
          have HK3 := Aside0.mk (HK2.out.grown hg1 (fun k hk => by injection hk with hk; subst hk; exact .inl ⟨i, hi6, by rw [HVI.out]; rfl⟩))
          clear ha1 hg1
          go_wp2
          go_roundw
          case rel =>
            refine ⟨j + 1, _, by omega, by simp, HA3.out, HK3.out, fun m hm => ?_, fun m hm => ?_, ?_⟩
            · by_cases hmi : m = i
              · subst hmi; simp only [if_true, List.length_set]; exact HX2.out m hm
              · simp only [if_neg hmi]; exact HX2.out m hm
            · simp only [if_neg (show m ≠ i by omega)]; exact HD2.out m hm
            · simp only [if_true]
              exact fl_put i n j _ (by rw [HX2.out i hi6, ← HN.out]) hjn HT2.out
          case measure => simp [intOf]; omega
        · obtain rfl : j = n := by omega
          have HFI := Aside0.mk (show X'' i = fl i (X i).length by
            have h1 := HT2.out
            rw [List.take_of_length_le (by rw [HX2.out i hi6, ← HN.out]; exact Nat.le_refl _)] at h1
            rw [h1, HN.out])
          go_wp2
          go_roundw
          case rel => exact ⟨i + 1, X'', by omega, by simp, HA2.out, HK2.out, HX2.out, fun m hm => by
            by_cases hmi : m = i
            · subst hmi; exact HFI.out
            · exact HD2.out m (by omega)⟩
          case measure => simp [intOf]; omega
    · obtain rfl : i = 6 := by omega
      rw [show ((6 : Nat) : Int) = 6 from rfl]
      obtain ⟨n, hn⟩ : ∃ n : Nat → Nat, n = fun m => (X m).length := ⟨_, rfl⟩
      have HA0 := Aside0.mk (show ApS B wr LB v (fun m => fl m (n m)) from ⟨HAi.out.hdr, fun m hm => by have h1 := HAi.out.own m hm; rw [HDi.out m hm] at h1; rw [hn]; exact h1, HAi.out.sep, HAi.out.hB⟩)
      have HN := Aside0.mk (show ∀ m, m < 6 → n m ≤ 1000000000 from fun m hm => by rw [hn]; exact HL.out m hm)
      have HLB := Aside0.mk (show LB < w.heap.size from HA.out.hdr.lt)
      clear HAi HXi HDi hn
      go_wp2_with fail
      go_loopw [5, 6, 7, 8] (fun s5 s6 s7 s8 wr => ∃ (i : Nat) (Y : Nat → Value), i ≤ 6 ∧ s6 = .int .i64 i ∧ ApY B w.heap.size wr LB v n s5 Y i ∧ KB w wr (blocksOf v)) (fun _ s6 _ _ _ => 6 - (intOf s6).toNat)
      case atStart => exact ⟨0, fun _ => .slice none 0 0, by omega, rfl, ⟨HA0.out, own_nil _ _ _ _, fun j hj => by omega, fun j m hj => by omega, fun j m hj => by omega⟩, HKi.out⟩
      case round =>
        clear HA0 HKi
        obtain ⟨i, Y, hi, rfl, hY, hK⟩ := hrel
        have HY := Aside0.mk hY
        have HK := Aside0.mk hK
        clear hK
        by_cases hi6 : i < 6
        · have b4 : (0 : Int) ≤ i ∧ (i : Int) < 6 := by omega
          have cy : wr.cell? ⟨LB, i, none⟩ = some (v i) := hY.ap.hdr.cell (vs6_at v i hi6)
          clear hY
          obtain ⟨wo, hwo⟩ : ∃ wo, wo = wr := ⟨_, rfl⟩
          have HWO := Aside0.mk hwo
          clear hwo
          go_wp2_with fail
          go_loopw [7, 8] (fun s7 s8 wr => ∃ (k : Nat), k ≤ 80 ∧ s8 = .int .i64 k ∧ ApY B w.heap.size wr LB v n u5 Y i ∧ KB w wr (blocksOf v) ∧ Ob B wr s7 (fl i (n i + k)) ∧ (∀ m, m < 6 → m ≠ i → Sep s7 (v m)) ∧ (∀ j, j < i → Sep s7 (Y j)) ∧ ∀ k, s7.ownBlock = some k → blocksOf v k ∨ w.heap.size ≤ k) (fun _ s8 _ => 80 - (intOf s8).toNat)
          case atStart =>
            refine ⟨0, by omega, rfl, HY.out, HK.out, by rw [Nat.add_zero]; exact HY.out.ap.own i hi6, fun m hm hmi => HY.out.ap.sep i m hi6 hm (fun e => hmi e.symm), fun j hj => (HY.out.s1 j i hj hi6 (by omega)).symm, fun k hk => .inl ⟨i, hi6, hk⟩⟩
          case round =>
            clear HY HK
            obtain ⟨k, hk, rfl, hY, hK, hu, hs1, hs2, hf⟩ := hrel
            have HY := Aside0.mk hY
            have HK := Aside0.mk hK
            have HU := Aside0.mk hu
            have HS1 := Aside0.mk hs1
            have HS2 := Aside0.mk hs2
            have HF := Aside0.mk hf
            clear hY hK hu hs1 hs2 hf
            by_cases hk8 : k < 80
            · have b5 : (0 : Int) ≤ k ∧ (k : Int) < 80 := by omega
              go_wp2_with (with_reducible refine gate_dst (N := 54) rfl ?_; refine Aside0.out ?_)
              refine Aside0.mk ?_
              have hn8 := n8_of i hi6
              have hEm : Ext wr (wr.alloc (.cells #[.int .u8 ((i : Int) + 1)] 5)) := (Ext.refl _).alloc _
              have hbs : Bs (wr.alloc (.cells #[.int .u8 ((i : Int) + 1)] 5)) (some ⟨wr.heap.size, 0, none⟩) 1 [UInt8.ofNat (i + 1)] := by rw [← hn8]; exact Bs.one wr _
              refine wpL_append (F := fun v1 w1 => Ob B w1 v1 (fl i (n i + (k + 1))) ∧ ApY B w.heap.size w1 LB v n u5 Y i ∧ KB w w1 (blocksOf v) ∧ (∀ m, m < 6 → m ≠ i → Sep v1 (v m)) ∧ (∀ j, j < i → Sep v1 (Y j)) ∧ ∀ k, v1.ownBlock = some k → blocksOf v k ∨ w.heap.size ≤ k) rfl ?_ ?_
              · obtain ⟨v1, w1, hr, hO, hg, hat, hkp⟩ := run_push 22 (c := 1) (HU.out.ext hEm) hbs (Nat.le_trans hBw (HK.out.ext hEm).size) (by rw [fl_length]; have := HN.out i hi6; omega)
                obtain ⟨h1, h2, h3⟩ := (HY.out.ext hEm).push (v1 := v1) (HU.out.ext hEm) hi6 (by rw [fl_length]; omega) HS1.out HS2.out hg hat hkp
                refine ⟨v1, w1, hr, by rw [fl_snoc] at hO; exact hO, h1, (HK.out.ext hEm).grown hg HF.out, h2, h3, fun k' hk' => ?_⟩
                rcases hat with e | e
                · exact HF.out k' (by rw [← e]; exact hk')
                · rw [e] at hk'; injection hk' with hk'; subst hk'; exact .inr (HK.out.ext hEm).size
              rintro v1 w1 ⟨hO, h1, h2, h3, h4, h5⟩
              have HO := Aside0.mk hO
              have H1 := Aside0.mk h1
              have H2 := Aside0.mk h2
              have H3 := Aside0.mk h3
              have H4 := Aside0.mk h4
              have H5 := Aside0.mk h5
              clear hO h1 h2 h3 h4 h5 hn8 hEm hbs
              go_wp2
              go_roundw
              case rel => exact ⟨k + 1, by omega, by simp, H1.out, H2.out, HO.out, H3.out, H4.out, H5.out⟩
              case measure => simp [intOf]; omega
            · obtain rfl : k = 80 := by omega
              obtain ⟨A7, c7, e7, _, _⟩ := HU.out.open
              rw [fl_length] at e7
              subst e7
              rw [show ((80 : Nat) : Int) = 80 from rfl]
              have HM7 := Aside0.mk (HN.out i hi6)
              have hEm : Ext wr (wr.alloc (.cells #[.slice A7 (n i + 80) c7] 22)) := (Ext.refl _).alloc _
              have hu1 : (Value.slice A7 (n i + 80) c7).oneCell' = true := rfl
              have hcell : (wr.alloc (.cells #[.slice A7 (n i + 80) c7] 22)).cell? ⟨wr.heap.size, 0, none⟩ = some (.slice A7 (n i + 80) c7) := (Row.alloc wr [.slice A7 (n i + 80) c7] 22).cell rfl
              have HEM := Aside0.mk hEm
              have HU1 := Aside0.mk hu1
              have HCELL := Aside0.mk hcell
              clear hEm hu1 hcell
              go_wp2_with (with_reducible refine gate_dst (N := 58) rfl ?_; refine Aside0.out ?_)
              refine Aside0.mk ?_
              refine wpL_append (F := fun v1 w1 => ApY B w.heap.size w1 LB v n v1 (fun j => if j = i then .slice A7 (n i + 80) c7 else Y j) (i + 1) ∧ KB w w1 (blocksOf v)) rfl ?_ ?_
              · obtain ⟨v1, w1, hr, hO, hg⟩ := run_more 42 (c := 1) (HY.out.ext HEM.out).lo HCELL.out HU1.out (HK.out.ext HEM.out).size (by simp; omega)
                exact ⟨v1, w1, hr, (HY.out.ext HEM.out).more hi6 (HU.out.ext HEM.out) HS1.out HS2.out HLB.out hg hO, (HK.out.ext HEM.out).grown hg (fun k' hk' => .inr (own_base (HY.out.ext HEM.out).lo k' hk'))⟩
              rintro v1 w1 ⟨h1, h2⟩
              have H1 := Aside0.mk h1
              have H2 := Aside0.mk h2
              clear h1 h2
              go_wp2
              go_roundw
              case rel => exact ⟨i + 1, _, by omega, by simp, H1.out, H2.out⟩
              case measure => simp [intOf]; omega
        · obtain rfl : i = 6 := by omega
          rw [show ((6 : Nat) : Int) = 6 from rfl]
          have hLo : ∃ gL cL, u5 = .slice (some ⟨gL, 0, none⟩) 6 cL ∧ ∀ j, j < 6 → wr.cell? ⟨gL, j, none⟩ = some (Y j) := by
            have h := HY.out.lo
            rcases h.2 with ⟨_, h2⟩ | ⟨gL, cap, cur, h1, _⟩
            · simp at h2
            · refine ⟨gL, cap, by rw [h1]; simp, fun j hj => ?_⟩
              rw [h1] at h
              have hc := World.ownsRow.cells h (g := gL) rfl j (Y j) (by simp [hj])
              rwa [addr_add, Nat.zero_add] at hc
          obtain ⟨gL, cL, rfl, hcl⟩ := hLo
          have HCL := Aside0.mk hcl
          have HDR := Aside0.mk hY.ap.hdr
          clear hY hcl
          go_wp2_with fail
          go_loop [9, 10] (fun s9 s10 => ∃ (i : Nat), i ≤ 6 ∧ s9 = .int .i64 i) (fun s9 _ => 6 - (intOf s9).toNat)
          case atStart => exact ⟨0, by omega, rfl⟩
          case round =>
            obtain ⟨i, hi, rfl⟩ := hrel
            by_cases hi6 : i < 6
            · have b4 : (0 : Int) ≤ i ∧ (i : Int) < 6 := by omega
              obtain ⟨Ay, cY, hYi, _, hby⟩ := (HY.out.ow i hi6).open
              rw [fl_length] at hYi hby
              obtain ⟨Av, cv, hvi, _, hbv⟩ := (HY.out.ap.own i hi6).open
              rw [fl_length] at hvi hbv
              obtain ⟨m, hm⟩ : ∃ m, m = n i := ⟨_, rfl⟩
              rw [← hm] at hYi hby hvi hbv
              have hml : m ≤ 1000000000 := by rw [hm]; exact HN.out i hi6
              have cy : wr.cell? ⟨gL, i, none⟩ = some (.slice Ay (m + 80) cY) := by rw [← hYi]; exact HCL.out i hi6
              have cz : wr.cell? ⟨LB, i, none⟩ = some (.slice Av m cv) := by rw [← hvi]; exact HDR.out.cell (vs6_at v i hi6)
              have HBY := Aside0.mk hby
              have HBV := Aside0.mk hbv
              have HM := Aside0.mk hm
              clear hYi hby hvi hbv hm
              go_wp2_with fail
              go_loop [10] (fun s10 => ∃ (j : Nat), j ≤ m + 80 ∧ s10 = .int .i64 j) (fun s10 => m + 80 - (intOf s10).toNat)
              case atStart => exact ⟨0, by omega, rfl⟩
              case round =>
                obtain ⟨j, hj, rfl⟩ := hrel
                by_cases hjm : j < m + 80
                · obtain ⟨ay, rfl, hcy⟩ := HBY.out.cell j hjm
                  rw [fl_at _ _ _ hjm, n8_of i hi6] at hcy
                  have b5 : (0 : Int) ≤ j ∧ (j : Int) < m + 80 ∧ (j : Int) < 2000000000 := by omega
                  by_cases hjn : j < m
                  · obtain ⟨av, rfl, hcv⟩ := HBV.out.cell j hjn
                    rw [fl_at _ _ _ hjn, n8_of i hi6] at hcv
                    have b6 : (j : Int) < m := by omega
                    go_wp2
                    go_round
                    case rel => exact ⟨j + 1, by omega, by simp⟩
                    case measure => simp [intOf]; omega
                  · have b6 : ¬ ((j : Int) < m) := by omega
                    go_wp2
                    go_round
                    case rel => exact ⟨j + 1, by omega, by simp⟩
                    case measure => simp [intOf]; omega
                · obtain rfl : j = m + 80 := by omega
                  go_wp2
                  go_round
                  case rel => exact ⟨i + 1, by omega, by simp⟩
                  case measure => simp [intOf]; omega
            · obtain rfl : i = 6 := by omega
              go_wp2
              go_ret
              exact ⟨rfl, HK.out⟩
end Go.Proofs.YthiedcebneejjaaDoor
set_option linter.unusedVariables false
set_option linter.unusedSimpArgs false
namespace Go.Proofs.YthiedcebneejjaaDoor.Ord
open Go.RowKit Go.Proofs.YthiedcebneejjaaDoorW.PrintWords Go.Proofs.YthiedcebneejjaaDoorW.PrintLast Go.Proofs.YthiedcebneejjaaDoorW.PrintMore
open Go.Proofs.YthiedcebneejjaaDoor.Hand Go.Proofs.YthiedcebneejjaaDoor
open Extern.Stop (cell)

def toB (l : List Int) : List UInt8 := l.map fun z => UInt8.ofNat z.toNat
theorem ints_toB (l : List Int) (h : BL l) : ints (toB l) = l := by
  unfold ints toB
  rw [List.map_map]
  have : l.map (n8 ∘ fun z => UInt8.ofNat z.toNat) = l.map id := List.map_congr_left fun z hz => by
    have := h z hz
    show n8 (UInt8.ofNat z.toNat) = z
    unfold n8
    rw [UInt8.toNat_ofNat']
    omega
  rw [this, List.map_id]
theorem toB_length (l : List Int) : (toB l).length = l.length := by simp [toB]
theorem ints_BL (l : List UInt8) : BL (ints l) := fun x hx => by
  obtain ⟨z, _, rfl⟩ := List.mem_map.1 hx
  have := z.toNat_lt
  unfold n8
  omega
theorem ob_of_R {B : Nat} {w : World} {P : Nat → Prop} {v : Value} {l : List Int} (h : Kd.R (Kd.int .u8) 5 w B P v l) (hb : BL l) : Ob B w v (toB l) := by
  have ho := Kd.own_of_R (h1 := fun _ => rfl) h
  unfold Ob
  rw [ints_toB l hb]
  exact ho
theorem nibs_BLb (l : List Int) (h : BL l) : BL (nibs l) := fun x hx => by have := nibs_NL l h x hx; omega
theorem bytesSpec_BL (l : List Int) (h : BL l) : BL (bytesSpec l).1 := by
  unfold bytesSpec
  split
  · next hc => exact pairs_BL l (fun x hx => ⟨(h x hx).1, hc.2 x hx⟩)
  · intro x hx; cases hx
theorem hexd_le (c : Int) : hexd c ≤ 15 := by have := hexd_lt c; omega
theorem unhexSpec_BL (s : ByteArray) : BL (unhexSpec s).1 := by
  unfold unhexSpec
  split
  · next hc => exact pairs_BL _ (fun x hx => by
      obtain ⟨c, hcm, rfl⟩ := List.mem_map.1 hx
      exact ⟨hc.1 c hcm, hexd_le c⟩)
  · intro x hx; cases hx
theorem bt_getD (s : ByteArray) (i : Nat) (h : i < s.size) : bt s (i : Int) = (bytesOf s).getD i 0 := by
  rw [bytesOf_getD s i h]
  unfold bt
  rw [dif_pos (by simpa using h)]
  rfl
theorem unhex_rdig (s : ByteArray) (hs : s.size ≤ 1073741824) : Ev (fun k => (R.cairnref01_Bytes.f k ((bytesOf s).map rdig)).bind fun r => if r.2 = 0 then some (r.1, 0) else some ([], 10)) (unhexSpec s) := by
  have hbl : BL ((bytesOf s).map rdig) := fun x hx => by
    obtain ⟨c, hc, rfl⟩ := List.mem_map.1 hx
    unfold rdig
    have := hexd_le c
    split <;> omega
  refine Ev.bind (rbytes_ev _ hbl (by rw [List.length_map, bytesOf_length]; exact hs)) ?_
  have e : (((bytesOf s).map rdig).length % 2 = 0 ∧ ∀ x ∈ (bytesOf s).map rdig, x ≤ 15) ↔ ((∀ c ∈ bytesOf s, 0 ≤ hexd c) ∧ s.size % 2 = 0) := by
    rw [List.length_map, bytesOf_length]
    constructor
    · intro h
      refine ⟨fun c hc => ?_, h.1⟩
      have := h.2 (rdig c) (List.mem_map.2 ⟨c, hc, rfl⟩)
      unfold rdig at this
      split at this
      · assumption
      · omega
    · intro h
      refine ⟨h.2, fun x hx => ?_⟩
      obtain ⟨c, hc, rfl⟩ := List.mem_map.1 hx
      unfold rdig
      rw [if_pos (h.1 c hc)]
      exact hexd_le c
  unfold bytesSpec unhexSpec
  simp only [e]
  by_cases hc : (∀ c ∈ bytesOf s, 0 ≤ hexd c) ∧ s.size % 2 = 0
  · rw [if_pos hc, if_pos hc]
    have hm : (bytesOf s).map rdig = (bytesOf s).map hexd := List.map_congr_left fun c hcm => by unfold rdig; rw [if_pos (hc.1 c hcm)]
    rw [hm]
    exact Ev.now _
  · rw [if_neg hc, if_neg hc]
    exact Ev.now _
theorem runhex_loop (s : ByteArray) (hs : s.size ≤ 1073741824) : ∀ (d i : Nat), i + d = s.size → Ev (fun k => R.cairnref01_Unhex.l0 k s (((bytesOf s).take i).map rdig) i) (unhexSpec s) := by
  intro d
  induction d with
  | zero =>
    intro i hi
    refine Ev.step (f := fun k => (R.cairnref01_Bytes.f k ((bytesOf s).map rdig)).bind fun r => if r.2 = 0 then some (r.1, 0) else some ([], 10)) (fun k => ?_) (unhex_rdig s hs)
    simp only [R.cairnref01_Unhex.l0]
    rw [if_neg (by omega), List.take_of_length_le (by rw [bytesOf_length]; omega)]
  | succ d ih =>
    intro i hi
    have hlt : i < s.size := by omega
    have hb := bytesOf_BL s
    have hx := hb ((bytesOf s)[i]'(by rw [bytesOf_length]; exact hlt)) (List.getElem_mem _)
    have hg : bt s (i : Int) = (bytesOf s)[i]'(by rw [bytesOf_length]; exact hlt) := by
      rw [bt_getD s i hlt, List.getD, List.getElem?_eq_getElem (by rw [bytesOf_length]; exact hlt)]; rfl
    have hal : (((bytesOf s).take i).map rdig).length = i := by rw [List.length_map, List.length_take, bytesOf_length]; omega
    refine Ev.step (f := fun k => (R.cairnref01_digit.f k (bt s (i : Int))).bind fun t => if (((bytesOf s).take i).map rdig).length < 140737488355328 then R.cairnref01_Unhex.l0 k s (((bytesOf s).take i).map rdig ++ [t]) (wrap64 ((i : Int) + 1)) else none) (fun k => ?_) ?_
    · simp only [R.cairnref01_Unhex.l0]
      rw [if_pos (by omega), if_pos (by omega)]
    rw [hg]
    refine Ev.bind (rdig_ev _ hx.1 hx.2) ?_
    refine Ev.congr (f := fun k => R.cairnref01_Unhex.l0 k s (((bytesOf s).take (i + 1)).map rdig) ((i + 1 : Nat) : Int)) (fun k => ?_) (ih (i + 1) (by omega))
    rw [if_pos (by omega), wrap64_in _ (by omega) (by omega), List.take_succ_eq_append_getElem (by rw [bytesOf_length]; exact hlt), List.map_append]
    rfl
theorem runhex_ev (s : ByteArray) (hs : s.size ≤ 1073741824) : Ev (fun k => R.cairnref01_Unhex.f k s) (unhexSpec s) := by
  have h := runhex_loop s hs s.size 0 (by omega)
  exact Ev.congr (fun k => rfl) h
theorem nibbles_calls (w : World) (A : Option Addr) (c : Nat) (l : List Int) (hr : Rs w A c l) (hb : BL l) (hl : l.length ≤ 1073741824) :
    Calls Tryd.prog 10 #[.slice A l.length c] w (fun e w' => ∃ A' c', e = .returned (.slice A' (toB (nibs l)).length c') ∧ Ob w.heap.size w' (.slice A' (toB (nibs l)).length c') (toB (nibs l)) ∧ Ext w w') := by
  obtain ⟨k, hk⟩ := nib_ev l hb hl
  refine (Go.Proofs.YthiedcebneejjaaDoor.A.octet_Nibbles.calls k A c l _ w hr.rd hr.cap (hk k (Nat.le_refl _))).mono fun e w' ⟨v, he, hR, hB⟩ => ?_
  have ho := ob_of_R hR (nibs_BLb l hb)
  obtain ⟨A', c', rfl, _⟩ := ho.open
  exact ⟨A', c', he, ho, hB⟩
theorem rnibbles_calls (w : World) (A : Option Addr) (c : Nat) (l : List Int) (hr : Rs w A c l) (hb : BL l) (hl : l.length ≤ 1073741824) :
    Calls Tryd.prog 16 #[.slice A l.length c] w (fun e w' => ∃ A' c', e = .returned (.slice A' (toB (nibs l)).length c') ∧ Ob w.heap.size w' (.slice A' (toB (nibs l)).length c') (toB (nibs l)) ∧ Ext w w') := by
  obtain ⟨k, hk⟩ := rnib_ev l hb hl
  refine (R.cairnref01_Nibbles.calls k A c l _ w hr.rd hr.cap (hk k (Nat.le_refl _))).mono fun e w' ⟨v, he, hR, hB⟩ => ?_
  have ho := ob_of_R hR (nibs_BLb l hb)
  obtain ⟨A', c', rfl, _⟩ := ho.open
  exact ⟨A', c', he, ho, hB⟩
theorem bytes_calls (w : World) (A : Option Addr) (c : Nat) (l : List Int) (hr : Rs w A c l) (hb : BL l) (hl : l.length ≤ 1073741824) :
    Calls Tryd.prog 7 #[.slice A l.length c] w (fun e w' => ∃ A' c', e = .returned (.tuple #[.slice A' (toB (bytesSpec l).1).length c', .int .i64 (bytesSpec l).2]) ∧ Ob w.heap.size w' (.slice A' (toB (bytesSpec l).1).length c') (toB (bytesSpec l).1) ∧ Ext w w') := by
  obtain ⟨k, hk⟩ := bytes_ev l hb hl
  refine (Go.Proofs.YthiedcebneejjaaDoor.A.octet_Bytes.calls k A c l _ _ w hr.rd hr.cap (hk k (Nat.le_refl _))).mono fun e w' ⟨v, he, hR, hB⟩ => ?_
  have ho := ob_of_R hR (bytesSpec_BL l hb)
  obtain ⟨A', c', rfl, _⟩ := ho.open
  exact ⟨A', c', he, ho, hB⟩
theorem rbytes_calls (w : World) (A : Option Addr) (c : Nat) (l : List Int) (hr : Rs w A c l) (hb : BL l) (hl : l.length ≤ 1073741824) :
    Calls Tryd.prog 14 #[.slice A l.length c] w (fun e w' => ∃ A' c', e = .returned (.tuple #[.slice A' (toB (bytesSpec l).1).length c', .int .i64 (bytesSpec l).2]) ∧ Ob w.heap.size w' (.slice A' (toB (bytesSpec l).1).length c') (toB (bytesSpec l).1) ∧ Ext w w') := by
  obtain ⟨k, hk⟩ := rbytes_ev l hb hl
  refine (R.cairnref01_Bytes.calls k A c l _ _ w hr.rd hr.cap (hk k (Nat.le_refl _))).mono fun e w' ⟨v, he, hR, hB⟩ => ?_
  have ho := ob_of_R hR (bytesSpec_BL l hb)
  obtain ⟨A', c', rfl, _⟩ := ho.open
  exact ⟨A', c', he, ho, hB⟩
theorem unhex_calls (w : World) (s : ByteArray) (hG : Glob w) (hl : s.size ≤ 1073741824) :
    Calls Tryd.prog 8 #[.string s] w (fun e w' => ∃ A' c', e = .returned (.tuple #[.slice A' (toB (unhexSpec s).1).length c', .int .i64 (unhexSpec s).2]) ∧ Ob w.heap.size w' (.slice A' (toB (unhexSpec s).1).length c') (toB (unhexSpec s).1) ∧ Ext w w') := by
  obtain ⟨k, hk⟩ := unhex_ev s hl
  refine (Hand.octet_Unhex.calls k s _ _ w hG (hk k (Nat.le_refl _))).mono fun e w' ⟨v, he, hR, hB⟩ => ?_
  have ho := ob_of_R hR (unhexSpec_BL s)
  obtain ⟨A', c', rfl, _⟩ := ho.open
  exact ⟨A', c', he, ho, hB⟩
theorem runhex_calls (w : World) (s : ByteArray) (hl : s.size ≤ 1073741824) :
    Calls Tryd.prog 23 #[.string s] w (fun e w' => ∃ A' c', e = .returned (.tuple #[.slice A' (toB (unhexSpec s).1).length c', .int .i64 (unhexSpec s).2]) ∧ Ob w.heap.size w' (.slice A' (toB (unhexSpec s).1).length c') (toB (unhexSpec s).1) ∧ Ext w w') := by
  obtain ⟨k, hk⟩ := runhex_ev s hl
  refine (R.cairnref01_Unhex.calls k s _ _ w (hk k (Nat.le_refl _))).mono fun e w' ⟨v, he, hR, hB⟩ => ?_
  have ho := ob_of_R hR (unhexSpec_BL s)
  obtain ⟨A', c', rfl, _⟩ := ho.open
  exact ⟨A', c', he, ho, hB⟩

theorem hex_calls (w : World) (A : Option Addr) (c : Nat) (l : List Int) (hr : Rs w A c l) (hb : BL l) (hl : l.length ≤ 1073741824) (hG : Glob w) :
    Calls Tryd.prog 11 #[.slice A l.length c] w (fun e w' => e = .returned (.string (strOfNums ((nibs l).map digC))) ∧ Ext w w') := by
  obtain ⟨k, hk⟩ := hex_ev l hb hl
  exact (Hand.octet_Hex.calls k A c l _ w hr.rd hr.cap hG (hk k (Nat.le_refl _))).mono fun e w' h => ⟨h.1, h.2⟩
theorem rcommon_calls (w : World) (A B : Option Addr) (c d : Nat) (a b : List Int) (ha : Rs w A c a) (hb : Rs w B d b) : Calls Tryd.prog 18 #[.slice A a.length c, .slice B b.length d] w (fun e w' => e = .returned (.int .i64 (com a b)) ∧ Ext w w') := by
  obtain ⟨k, hk⟩ := rcommon_ev a b ha.max
  exact (R.cairnref01_Common.calls k A c a B d b _ w ha.rd ha.cap hb.rd hb.cap (hk k (Nat.le_refl _))).mono fun e w' h => ⟨h.1, drawn_ext h.2⟩
theorem rcompare_calls (w : World) (A B : Option Addr) (c d : Nat) (a b : List Int) (ha : Rs w A c a) (hb : Rs w B d b) : Calls Tryd.prog 19 #[.slice A a.length c, .slice B b.length d] w (fun e w' => e = .returned (.int .i64 (cmp a b)) ∧ Ext w w') := by
  obtain ⟨k, hk⟩ := rcompare_ev a b ha.max
  exact (R.cairnref01_Compare.calls k A c a B d b _ w ha.rd ha.cap hb.rd hb.cap (hk k (Nat.le_refl _))).mono fun e w' h => ⟨h.1, drawn_ext h.2⟩
theorem rwithin_calls (w : World) (A B D : Option Addr) (c d f : Nat) (l lo hi : List Int) (o : Bool) (hl : Rs w A c l) (hlo : Rs w B d lo) (hhi : Rs w D f hi) :
    Calls Tryd.prog 22 #[.slice A l.length c, .agg #[.slice B lo.length d, .slice D hi.length f, .bool o]] w (fun e w' => e = .returned (.bool (withS l lo hi o)) ∧ Ext w w') := by
  obtain ⟨k, hk⟩ := rwithin_ev l lo hi o hl.max hlo.max
  exact (R.cairnref01_Within.calls k A c l B d lo D f hi o _ w hl.rd hl.cap hlo.rd hlo.cap hhi.rd hhi.cap (hk k (Nat.le_refl _))).mono fun e w' h => ⟨h.1, h.2⟩
theorem Ob.rs {B c : Nat} {w : World} {A : Option Addr} {l : List UInt8} (h : Ob B w (.slice A l.length c) l) : Rs w A c (ints l) := by
  obtain ⟨A', c', e, hc, hb⟩ := h.open
  injection e with e1 e2 e3
  subst e1 e3
  exact ⟨by rw [ints_length]; exact hb, by rw [ints_length]; exact hc⟩
end Go.Proofs.YthiedcebneejjaaDoor.Ord
set_option linter.unusedVariables false
set_option linter.unusedSimpArgs false
namespace Go.Proofs.YthiedcebneejjaaDoor.Ord
open Go.RowKit Go.Proofs.YthiedcebneejjaaDoorW.PrintWords Go.Proofs.YthiedcebneejjaaDoorW.PrintLast Go.Proofs.YthiedcebneejjaaDoorW.PrintMore
open Go.Proofs.YthiedcebneejjaaDoor.Hand Go.Proofs.YthiedcebneejjaaDoor
open Extern.Stop (cell)

def six {α : Type} (a0 a1 a2 a3 a4 a5 : α) : Nat → α
  | 0 => a0
  | 1 => a1
  | 2 => a2
  | 3 => a3
  | 4 => a4
  | _ => a5
theorem tn_length (l : List UInt8) : (tn l).length = l.length := by simp [tn]
theorem built29 (A B : Option Addr) (n c m d : Nat) (o : Bool) : Tryd.prog.built 29 [(0, .slice A n c), (1, .slice B m d), (2, .bool o)] = some #[.slice A n c, .slice B m d, .bool o] := by kernel_rfl
theorem goodE_build {P : Program} {o : Oper} {a : Act} {w : World} {Gi : World → Value → Prop} {t : TypeId} {parts : Array (Nat × Operand)} (cells : Array Value) (ho : o.op = .build t parts) (hb : P.built t (parts.map fun x => (x.1, a.eval x.2)).toList = some cells) (hg : Gi w (.agg cells)) : Go.Proofs.YthiedcebneejjaaDoorW.PrintLast.Good P o a w Gi :=
  goodE_val _ (by unfold execOp; rw [ho]; simp only [Sem.run_bind, run_build w t _ cells hb, Result.andThen_ok, Sem.run_pure]) hg
theorem lt_ext {v : Value} {w w' : World} (h : ∀ k, v.ownBlock = some k → k < w.heap.size) (hE : Ext w w') : ∀ k, v.ownBlock = some k → k < w'.heap.size := fun k hk => Nat.lt_of_lt_of_le (h k hk) hE.size
theorem spec_len (l : List Int) : (bytesSpec l).1.length ≤ l.length := by
  unfold bytesSpec
  split
  · show (pairs l).length ≤ _; rw [pairs_length]; omega
  · exact Nat.zero_le _
theorem unspec_len (s : ByteArray) : (unhexSpec s).1.length ≤ s.size := by
  unfold unhexSpec
  split
  · show (pairs _).length ≤ _; rw [pairs_length, List.length_map, bytesOf_length]; omega
  · exact Nat.zero_le _
/-- the struct's cells -/
def twoL (A0 A1 A2 A3 : Option Addr) (c0 c1 c2 c3 : Nat) (p q f t : List UInt8) (o : Bool) (S : ByteArray) : List Value := [.slice A0 p.length c0, .slice A1 q.length c1, .slice A2 f.length c2, .slice A3 t.length c3, .bool o, .string S]
set_option maxHeartbeats 60000000 in
set_option maxRecDepth 100000 in
theorem all_calls (w : World) (A0 A1 A2 A3 : Option Addr) (c0 c1 c2 c3 : Nat) (p q f t : List UInt8) (o : Bool) (S : ByteArray) (hG : Glob w) (ha : Rs w A0 c0 (ints p)) (hb : Rs w A1 c1 (ints q)) (hf : Rs w A2 c2 (ints f)) (ht : Rs w A3 c3 (ints t))
    (la : p.length ≤ 2000000) (lb : q.length ≤ 2000000) (lf : f.length ≤ 2000000) (lt : t.length ≤ 2000000) (lS : S.size ≤ 2000000) :
    Calls Tryd.prog 5 #[.agg #[.slice A0 p.length c0, .slice A1 q.length c1, .slice A2 f.length c2, .slice A3 t.length c3, .bool o, .string S]] w (fun e w' => e = .returned (.bool true) ∧ Below w.heap.size w w') := by
  have HG := Aside0.mk hG
  have HA := Aside0.mk ha
  have HB := Aside0.mk hb
  have HF := Aside0.mk hf
  have HT := Aside0.mk ht
  have HA0 := Aside0.mk (show p.length ≤ c0 by have := ha.cap; rwa [ints_length] at this)
  have HB0 := Aside0.mk (show q.length ≤ c1 by have := hb.cap; rwa [ints_length] at this)
  have HF0 := Aside0.mk (show f.length ≤ c2 by have := hf.cap; rwa [ints_length] at this)
  have HT0 := Aside0.mk (show t.length ≤ c3 by have := ht.cap; rwa [ints_length] at this)
  clear hG ha hb hf ht
  obtain ⟨XB, hXB⟩ : ∃ XB, XB = w.heap.size := ⟨_, rfl⟩
  have HXB := Aside0.mk hXB
  go_enter Tryd.func5, Tryd.ntmps5
  go_upto_region 1 with fail
  refine wp_world (fun w1 => Ext w w1 ∧ Row w1 XB (twoL A0 A1 A2 A3 c0 c1 c2 c3 p q f t o S) 31) ⟨(Ext.refl w).alloc _, by rw [hXB]; exact Row.alloc w (twoL A0 A1 A2 A3 c0 c1 c2 c3 p q f t o S) 31⟩ ?_
  rintro w1 ⟨hE1, hR1⟩
  rw [← hXB]
  have HE1 := Aside0.mk hE1
  have HX1 := Aside0.mk hR1
  clear hE1 hR1 hXB
  go_cut [3, 4] from 21 to 26 (fun (s3 s4 : Value) wx => ∃ ga ca gb cb, s3 = .slice (some ⟨ga, 0, none⟩) p.length ca ∧ s4 = .slice (some ⟨gb, 0, none⟩) q.length cb ∧ XB < ga ∧ XB < gb ∧ ga ≠ gb ∧ Ext w1 wx ∧ Rm wx ga ca p ∧ Rm wx gb cb q)
  case first =>
    have x0 := HX1.out.cell (show (twoL A0 A1 A2 A3 c0 c1 c2 c3 p q f t o S)[0]? = some (.slice A0 p.length c0) from rfl)
    have x1 := HX1.out.cell (show (twoL A0 A1 A2 A3 c0 c1 c2 c3 p q f t o S)[1]? = some (.slice A1 q.length c1) from rfl)
    have HXL := Aside0.mk HX1.out.lt
    go_region_with (go_at_call 13; first
      | (((with_reducible refine (roomy_calls _ A0 c0 p ?_ HA0.out (by omega)).mono ?_)); ((first | exact (HA.out.ext (HE1.out.trans ((Ext.to_drew _).trans HEb.out))).bs | exact (HA.out.ext (HE1.out.trans (Ext.to_drew _))).bs | exact (HA.out.ext (HE1.out)).bs)); rintro e wa ⟨ga, ca, rfl, hga, hEa, hRa⟩; have HGa := Aside0.mk hga; have HEa := Aside0.mk hEa; have HRa := Aside0.mk hRa; have hxa : Row wa XB (twoL A0 A1 A2 A3 c0 c1 c2 c3 p q f t o S) 31 := (by first | exact HX1.out.ext ((Ext.to_drew _).trans (HEb.out.trans HEa.out)) | exact HX1.out.ext ((Ext.to_drew _).trans HEa.out)); have xa0 := hxa.cell (show (twoL A0 A1 A2 A3 c0 c1 c2 c3 p q f t o S)[0]? = some (.slice A0 p.length c0) from rfl); have xa1 := hxa.cell (show (twoL A0 A1 A2 A3 c0 c1 c2 c3 p q f t o S)[1]? = some (.slice A1 q.length c1) from rfl); clear hga hEa hRa hxa)
      | (((with_reducible refine (roomy_calls _ A1 c1 q ?_ HB0.out (by omega)).mono ?_)); ((first | exact (HB.out.ext (HE1.out.trans ((Ext.to_drew _).trans HEa.out))).bs | exact (HB.out.ext (HE1.out.trans (Ext.to_drew _))).bs | exact (HB.out.ext (HE1.out)).bs)); rintro e wb ⟨gb, cb, rfl, hgb, hEb, hRb⟩; have HGb := Aside0.mk hgb; have HEb := Aside0.mk hEb; have HRb := Aside0.mk hRb; have hxb : Row wb XB (twoL A0 A1 A2 A3 c0 c1 c2 c3 p q f t o S) 31 := (by first | exact HX1.out.ext ((Ext.to_drew _).trans (HEa.out.trans HEb.out)) | exact HX1.out.ext ((Ext.to_drew _).trans HEb.out)); have xb0 := hxb.cell (show (twoL A0 A1 A2 A3 c0 c1 c2 c3 p q f t o S)[0]? = some (.slice A0 p.length c0) from rfl); have xb1 := hxb.cell (show (twoL A0 A1 A2 A3 c0 c1 c2 c3 p q f t o S)[1]? = some (.slice A1 q.length c1) from rfl); clear hgb hEb hRb hxb))
    all_goals
      go_wp2_with fail
      go_meet
      case rel => first
        | exact ⟨ga, ca, gb, cb, rfl, rfl, by have h1 := HGa.out; have h5 := HXL.out; have h6 : w1.drew.heap.size = w1.heap.size := rfl; omega, by have h1 := HEa.out.size; have h4 := HGb.out; have h5 := HXL.out; have h6 : w1.drew.heap.size = w1.heap.size := rfl; omega, by have h1 := HRa.out.lt; have h4 := HGb.out; omega, (Ext.to_drew _).trans (HEa.out.trans HEb.out), HRa.out.ext HEb.out, HRb.out⟩
        | exact ⟨ga, ca, gb, cb, rfl, rfl, by have h1 := HEb.out.size; have h4 := HGa.out; have h5 := HXL.out; have h6 : w1.drew.heap.size = w1.heap.size := rfl; omega, by have h1 := HGb.out; have h5 := HXL.out; have h6 : w1.drew.heap.size = w1.heap.size := rfl; omega, by have h1 := HRb.out.lt; have h4 := HGa.out; omega, (Ext.to_drew _).trans (HEb.out.trans HEa.out), HRa.out, HRb.out.ext HEa.out⟩
  case rest =>
    obtain ⟨ga, ca, gb, cb, rfl, rfl, hga, hgb, hgab, hE, hRa, hRb⟩ := hcut
    have HE := Aside0.mk (HE1.out.trans hE)
    have HX := Aside0.mk (HX1.out.ext hE)
    have HRa := Aside0.mk hRa
    have HRb := Aside0.mk hRb
    obtain ⟨na, hna⟩ : ∃ na, na = toB (nibs (ints p)) := ⟨_, rfl⟩
    obtain ⟨mb, hmb⟩ : ∃ mb, mb = toB (bytesSpec (ints q)).1 := ⟨_, rfl⟩
    obtain ⟨eb, heb⟩ : ∃ eb, eb = (bytesSpec (ints q)).2 := ⟨_, rfl⟩
    obtain ⟨us, hus⟩ : ∃ us, us = toB (unhexSpec S).1 := ⟨_, rfl⟩
    obtain ⟨es, hes⟩ : ∃ es, es = (unhexSpec S).2 := ⟨_, rfl⟩
    obtain ⟨hxa, hhxa⟩ : ∃ hxa, hxa = strOfNums ((nibs (ints p)).map digC) := ⟨_, rfl⟩
    have HNA := Aside0.mk hna
    have HMB := Aside0.mk hmb
    have HEB := Aside0.mk heb
    have HUS := Aside0.mk hus
    have HES := Aside0.mk hes
    have HHXA := Aside0.mk hhxa
    have HNL := Aside0.mk (show na.length ≤ 4000000 by rw [hna, toB_length, nibs_length, ints_length]; omega)
    have HML := Aside0.mk (show mb.length ≤ 4000000 by rw [hmb, toB_length]; have := spec_len (ints q); rw [ints_length] at this; omega)
    have HUL := Aside0.mk (show us.length ≤ 4000000 by rw [hus, toB_length]; have := unspec_len S; omega)
    clear hE hRa hRb hna hmb heb hus hes hhxa HE1 HX1
    go_wp2_with fail
    have hc := nibbles_calls _ (some ⟨ga, 0, none⟩) ca (ints p) HRa.out.rs (ints_BL p) (by rw [ints_length]; omega)
    rw [← HNA.out, ints_length] at hc
    with_reducible refine hc.mono ?_
    clear hc
    rintro e w3 ⟨A_HN, c_HN, rfl, hO, hE⟩
    have N_HN_XB := Aside0.mk (show ∀ k, (Value.slice A_HN na.length c_HN).ownBlock = some k → k ≠ XB from fun k hk => by have h1 := HX.out.lt; have h2 := own_base hO k hk; omega)
    have N_HN_ga := Aside0.mk (show ∀ k, (Value.slice A_HN na.length c_HN).ownBlock = some k → k ≠ ga from fun k hk => by have h1 := HRa.out.lt; have h2 := own_base hO k hk; omega)
    have N_HN_gb := Aside0.mk (show ∀ k, (Value.slice A_HN na.length c_HN).ownBlock = some k → k ≠ gb from fun k hk => by have h1 := HRb.out.lt; have h2 := own_base hO k hk; omega)
    replace hO := Ob.lower hO HE.out.size
    replace HE := Aside0.mk (HE.out.trans (hE))
    replace HX := Aside0.mk (HX.out.ext (hE))
    replace HRa := Aside0.mk (HRa.out.ext (hE))
    replace HRb := Aside0.mk (HRb.out.ext (hE))
    have HN := Aside0.mk hO
    have LHN := Aside0.mk (hO.lt)
    clear hO hE
    go_wp2_with fail
    have hc := bytes_calls _ (some ⟨gb, 0, none⟩) cb (ints q) HRb.out.rs (ints_BL q) (by rw [ints_length]; omega)
    rw [← HMB.out, ← HEB.out, ints_length] at hc
    with_reducible refine hc.mono ?_
    clear hc
    rintro e w4 ⟨A_HM, c_HM, rfl, hO, hE⟩
    have S_HN_HM := Aside0.mk (show Sep (Value.slice A_HN na.length c_HN) (Value.slice A_HM mb.length c_HM) from fun k hk hk2 => by have h1 := LHN.out k hk; have h2 := own_base hO k hk2; omega)
    have N_HM_XB := Aside0.mk (show ∀ k, (Value.slice A_HM mb.length c_HM).ownBlock = some k → k ≠ XB from fun k hk => by have h1 := HX.out.lt; have h2 := own_base hO k hk; omega)
    have N_HM_ga := Aside0.mk (show ∀ k, (Value.slice A_HM mb.length c_HM).ownBlock = some k → k ≠ ga from fun k hk => by have h1 := HRa.out.lt; have h2 := own_base hO k hk; omega)
    have N_HM_gb := Aside0.mk (show ∀ k, (Value.slice A_HM mb.length c_HM).ownBlock = some k → k ≠ gb from fun k hk => by have h1 := HRb.out.lt; have h2 := own_base hO k hk; omega)
    replace hO := Ob.lower hO HE.out.size
    replace HE := Aside0.mk (HE.out.trans (hE))
    replace HX := Aside0.mk (HX.out.ext (hE))
    replace HRa := Aside0.mk (HRa.out.ext (hE))
    replace HRb := Aside0.mk (HRb.out.ext (hE))
    replace HN := Aside0.mk (HN.out.ext (hE))
    replace LHN := Aside0.mk (lt_ext LHN.out (hE))
    have HM := Aside0.mk hO
    have LHM := Aside0.mk (hO.lt)
    clear hO hE
    have x1 := HX.out.cell (show (twoL A0 A1 A2 A3 c0 c1 c2 c3 p q f t o S)[1]? = some (.slice A1 q.length c1) from rfl)
    go_wp2_with fail
    have hc := rbytes_calls _ A1 c1 (ints q) (HB.out.ext HE.out) (ints_BL q) (by rw [ints_length]; omega)
    rw [← HMB.out, ← HEB.out, ints_length] at hc
    with_reducible refine hc.mono ?_
    clear hc
    rintro e w5 ⟨A_HP, c_HP, rfl, hO, hE⟩
    replace hO := Ob.lower hO HE.out.size
    replace HE := Aside0.mk (HE.out.trans (hE))
    replace HX := Aside0.mk (HX.out.ext (hE))
    replace HRa := Aside0.mk (HRa.out.ext (hE))
    replace HRb := Aside0.mk (HRb.out.ext (hE))
    replace HN := Aside0.mk (HN.out.ext (hE))
    replace HM := Aside0.mk (HM.out.ext (hE))
    replace LHN := Aside0.mk (lt_ext LHN.out (hE))
    replace LHM := Aside0.mk (lt_ext LHM.out (hE))
    have HP := Aside0.mk hO
    have LHP := Aside0.mk (hO.lt)
    clear hO hE
    clear x1
    have x0 := HX.out.cell (show (twoL A0 A1 A2 A3 c0 c1 c2 c3 p q f t o S)[0]? = some (.slice A0 p.length c0) from rfl)
    go_wp2_with fail
    have hc := rnibbles_calls _ A0 c0 (ints p) (HA.out.ext HE.out) (ints_BL p) (by rw [ints_length]; omega)
    rw [← HNA.out, ints_length] at hc
    with_reducible refine hc.mono ?_
    clear hc
    rintro e w6 ⟨A_HQ, c_HQ, rfl, hO, hE⟩
    replace hO := Ob.lower hO HE.out.size
    replace HE := Aside0.mk (HE.out.trans (hE))
    replace HX := Aside0.mk (HX.out.ext (hE))
    replace HRa := Aside0.mk (HRa.out.ext (hE))
    replace HRb := Aside0.mk (HRb.out.ext (hE))
    replace HN := Aside0.mk (HN.out.ext (hE))
    replace HM := Aside0.mk (HM.out.ext (hE))
    replace HP := Aside0.mk (HP.out.ext (hE))
    replace LHN := Aside0.mk (lt_ext LHN.out (hE))
    replace LHM := Aside0.mk (lt_ext LHM.out (hE))
    replace LHP := Aside0.mk (lt_ext LHP.out (hE))
    have HQ := Aside0.mk hO
    have LHQ := Aside0.mk (hO.lt)
    clear hO hE
    clear x0
    go_wp2_with fail
    have hc := same_calls _ A_HN A_HQ c_HN c_HQ (ints na) (ints na) (Ob.rs HN.out) (Ob.rs HQ.out)
    rw [ints_length, cmp_self] at hc
    with_reducible refine hc.mono ?_
    clear hc
    rintro e w7 ⟨rfl, hE⟩
    replace HE := Aside0.mk (HE.out.trans (hE))
    replace HX := Aside0.mk (HX.out.ext (hE))
    replace HRa := Aside0.mk (HRa.out.ext (hE))
    replace HRb := Aside0.mk (HRb.out.ext (hE))
    replace HN := Aside0.mk (HN.out.ext (hE))
    replace HM := Aside0.mk (HM.out.ext (hE))
    replace HP := Aside0.mk (HP.out.ext (hE))
    replace HQ := Aside0.mk (HQ.out.ext (hE))
    replace LHN := Aside0.mk (lt_ext LHN.out (hE))
    replace LHM := Aside0.mk (lt_ext LHM.out (hE))
    replace LHP := Aside0.mk (lt_ext LHP.out (hE))
    replace LHQ := Aside0.mk (lt_ext LHQ.out (hE))
    clear hE
    go_wp2_with fail
    have hc := same_calls _ A_HM A_HP c_HM c_HP (ints mb) (ints mb) (Ob.rs HM.out) (Ob.rs HP.out)
    rw [ints_length, cmp_self] at hc
    with_reducible refine hc.mono ?_
    clear hc
    rintro e w8 ⟨rfl, hE⟩
    replace HE := Aside0.mk (HE.out.trans (hE))
    replace HX := Aside0.mk (HX.out.ext (hE))
    replace HRa := Aside0.mk (HRa.out.ext (hE))
    replace HRb := Aside0.mk (HRb.out.ext (hE))
    replace HN := Aside0.mk (HN.out.ext (hE))
    replace HM := Aside0.mk (HM.out.ext (hE))
    replace HP := Aside0.mk (HP.out.ext (hE))
    replace HQ := Aside0.mk (HQ.out.ext (hE))
    replace LHN := Aside0.mk (lt_ext LHN.out (hE))
    replace LHM := Aside0.mk (lt_ext LHM.out (hE))
    replace LHP := Aside0.mk (lt_ext LHP.out (hE))
    replace LHQ := Aside0.mk (lt_ext LHQ.out (hE))
    clear hE
    clear HP HQ LHP LHQ
    obtain ⟨XY, hXY⟩ : ∃ XY : Int, XY = ((com (ints p) (ints q) : Nat) : Int) := ⟨_, rfl⟩
    obtain ⟨CM, hCM⟩ : ∃ CM : Int, CM = cmp (ints p) (ints q) := ⟨_, rfl⟩
    have HXY := Aside0.mk hXY
    have HCM := Aside0.mk hCM
    clear hXY hCM
    have x0 := HX.out.cell (show (twoL A0 A1 A2 A3 c0 c1 c2 c3 p q f t o S)[0]? = some (.slice A0 p.length c0) from rfl)
    have x1 := HX.out.cell (show (twoL A0 A1 A2 A3 c0 c1 c2 c3 p q f t o S)[1]? = some (.slice A1 q.length c1) from rfl)
    have HX0 := Aside0.mk x0
    have HX1 := Aside0.mk x1
    clear x0 x1
    go_upto_region 7 with fail
    refine ext_region 28 [(0, 57), (1, 58), (2, 59), (3, 60), (4, 61), (5, 62), (6, 63), (7, 64), (8, 65), (9, 66), (10, 67), (11, 68), (12, 69), (13, 70), (14, 71), (15, 72), (16, 73), (17, 74), (18, 75), (19, 76), (20, 77), (21, 78), (22, 79), (23, 80), (24, 81), (25, 82), (26, 83), (27, 84)] [0, 1, 2, 3, 4, 5, 6, 7, 8, 9, 10, 11, 12, 13, 14, 15, 16, 17, 18, 19, 20, 21, 22, 23, 24, 25, 26, 27] (fun i w v => match i with | 0 => v = .slice (some ⟨ga, 0, none⟩) p.length ca | 1 => v = .slice (some ⟨gb, 0, none⟩) q.length cb | 2 => v = .int .i64 XY | 3 => v = .pointer (some ⟨XB, 0, none⟩) | 4 => v = .slice A0 p.length c0 | 5 => v = .pointer (some ⟨XB, 1, none⟩) | 6 => v = .slice A1 q.length c1 | 7 => v = .int .i64 XY | 8 => v = .bool false | 9 => v = .bool false | 10 => v = .slice (some ⟨ga, 0, none⟩) p.length ca | 11 => v = .slice (some ⟨gb, 0, none⟩) q.length cb | 12 => v = .int .i64 CM | 13 => v = .pointer (some ⟨XB, 0, none⟩) | 14 => v = .slice A0 p.length c0 | 15 => v = .pointer (some ⟨XB, 1, none⟩) | 16 => v = .slice A1 q.length c1 | 17 => v = .int .i64 CM | 18 => v = .bool false | 19 => v = .bool false | 20 => v = .bool false | 21 => v = .slice (some ⟨ga, 0, none⟩) p.length ca | 22 => v = .string hxa | 23 => v = .pointer (some ⟨XB, 0, none⟩) | 24 => v = .slice A0 p.length c0 | 25 => v = .string hxa | 26 => v = .bool false | 27 => v = .bool false | _ => True) (by kernel_rfl) (by kernel_rfl) (by rfl) rfl ?mono7 ?steps7 ?fin7
    case mono7 =>
      intro i w w' v h hE
      match i with
      | 0 => exact h
      | 1 => exact h
      | 2 => exact h
      | 3 => exact h
      | 4 => exact h
      | 5 => exact h
      | 6 => exact h
      | 7 => exact h
      | 8 => exact h
      | 9 => exact h
      | 10 => exact h
      | 11 => exact h
      | 12 => exact h
      | 13 => exact h
      | 14 => exact h
      | 15 => exact h
      | 16 => exact h
      | 17 => exact h
      | 18 => exact h
      | 19 => exact h
      | 20 => exact h
      | 21 => exact h
      | 22 => exact h
      | 23 => exact h
      | 24 => exact h
      | 25 => exact h
      | 26 => exact h
      | 27 => exact h
      | _ + 28 => trivial
    case steps7 =>
      refine stepE_cons ⟨_, rfl, fun a w hE hH => ?_⟩ ?_
      ·
        have e3 : a.tmps[3]? = some (.slice (some ⟨ga, 0, none⟩) p.length ca) := hH.old 3 rfl
        exact Or.inl ⟨rfl, goodE_move _ rfl (eval_of e3) rfl⟩
      refine stepE_cons ⟨_, rfl, fun a w hE hH => ?_⟩ ?_
      ·
        have e4 : a.tmps[4]? = some (.slice (some ⟨gb, 0, none⟩) q.length cb) := hH.old 4 rfl
        exact Or.inl ⟨rfl, goodE_move _ rfl (eval_of e4) rfl⟩
      refine stepE_cons ⟨_, rfl, fun a w hE hH => ?_⟩ ?_
      ·
        obtain ⟨v57, e57, g57⟩ := hH.dep 0 57 rfl (by kernel_rfl)
        have q57 : v57 = .slice (some ⟨ga, 0, none⟩) p.length ca := g57
        subst q57
        obtain ⟨v58, e58, g58⟩ := hH.dep 1 58 rfl (by kernel_rfl)
        have q58 : v58 = .slice (some ⟨gb, 0, none⟩) q.length cb := g58
        subst q58
        refine Or.inl ⟨(rfl), goodE_call rfl #[.slice (some ⟨ga, 0, none⟩) p.length ca, .slice (some ⟨gb, 0, none⟩) q.length cb] (by simp [Act.eval, e57, e58]) _ Tryd.func17 (by kernel_rfl) (by kernel_rfl) ?_⟩
        have hc := common_calls w (some ⟨ga, 0, none⟩) (some ⟨gb, 0, none⟩) ca cb (ints p) (ints q) (HRa.out.ext ((Ext.to_drew _).trans hE)).rs (HRb.out.ext ((Ext.to_drew _).trans hE)).rs
        rw [ints_length, ints_length, ← HXY.out] at hc
        exact hc.mono (fun e w' h => ⟨_, h.1, h.2, rfl⟩)
      refine stepE_cons ⟨_, rfl, fun a w hE hH => ?_⟩ ?_
      ·
        have e1 : a.tmps[1]? = some (.pointer (some ⟨XB, 0, none⟩)) := hH.old 1 rfl
        exact Or.inl ⟨(rfl), goodE_val (.pointer (some ⟨XB, 0, none⟩)) (by simp [execOp, Act.eval, e1, go_sem]) rfl⟩
      refine stepE_cons ⟨_, rfl, fun a w hE hH => ?_⟩ ?_
      ·
        obtain ⟨v60, e60, g60⟩ := hH.dep 3 60 rfl (by kernel_rfl)
        have q60 : v60 = .pointer (some ⟨XB, 0, none⟩) := g60
        subst q60
        exact Or.inl ⟨(rfl), goodE_val (.slice A0 p.length c0) (by simp [execOp, Act.eval, e60, go_sem, cell_ext ((Ext.to_drew _).trans hE) HX0.out]) rfl⟩
      refine stepE_cons ⟨_, rfl, fun a w hE hH => ?_⟩ ?_
      ·
        have e1 : a.tmps[1]? = some (.pointer (some ⟨XB, 0, none⟩)) := hH.old 1 rfl
        exact Or.inl ⟨(rfl), goodE_val (.pointer (some ⟨XB, 1, none⟩)) (by simp [execOp, Act.eval, e1, go_sem]) rfl⟩
      refine stepE_cons ⟨_, rfl, fun a w hE hH => ?_⟩ ?_
      ·
        obtain ⟨v62, e62, g62⟩ := hH.dep 5 62 rfl (by kernel_rfl)
        have q62 : v62 = .pointer (some ⟨XB, 1, none⟩) := g62
        subst q62
        exact Or.inl ⟨(rfl), goodE_val (.slice A1 q.length c1) (by simp [execOp, Act.eval, e62, go_sem, cell_ext ((Ext.to_drew _).trans hE) HX1.out]) rfl⟩
      refine stepE_cons ⟨_, rfl, fun a w hE hH => ?_⟩ ?_
      ·
        obtain ⟨v61, e61, g61⟩ := hH.dep 4 61 rfl (by kernel_rfl)
        have q61 : v61 = .slice A0 p.length c0 := g61
        subst q61
        obtain ⟨v63, e63, g63⟩ := hH.dep 6 63 rfl (by kernel_rfl)
        have q63 : v63 = .slice A1 q.length c1 := g63
        subst q63
        refine Or.inl ⟨(rfl), goodE_call rfl #[.slice A0 p.length c0, .slice A1 q.length c1] (by simp [Act.eval, e61, e63]) _ Tryd.func18 (by kernel_rfl) (by kernel_rfl) ?_⟩
        have hc := rcommon_calls w A0 A1 c0 c1 (ints p) (ints q) (HA.out.ext (HE.out.trans ((Ext.to_drew _).trans hE))) (HB.out.ext (HE.out.trans ((Ext.to_drew _).trans hE)))
        rw [ints_length, ints_length, ← HXY.out] at hc
        exact hc.mono (fun e w' h => ⟨_, h.1, h.2, rfl⟩)
      refine stepE_cons ⟨_, rfl, fun a w hE hH => ?_⟩ ?_
      ·
        obtain ⟨v59, e59, g59⟩ := hH.dep 2 59 rfl (by kernel_rfl)
        have q59 : v59 = .int .i64 XY := g59
        subst q59
        obtain ⟨v64, e64, g64⟩ := hH.dep 7 64 rfl (by kernel_rfl)
        have q64 : v64 = .int .i64 XY := g64
        subst q64
        exact Or.inl ⟨rfl, goodE_val (.bool false) (by simp [execOp, Act.eval, e64, e59, go_sem]) rfl⟩
      refine stepE_cons ⟨_, rfl, fun a w hE hH => ?_⟩ ?_
      ·
        obtain ⟨v65, e65, g65⟩ := hH.dep 8 65 rfl (by kernel_rfl)
        exact Or.inl ⟨rfl, goodE_move v65 rfl (eval_of e65) g65⟩
      refine stepE_cons ⟨_, rfl, fun a w hE hH => ?_⟩ ?_
      ·
        have e3 : a.tmps[3]? = some (.slice (some ⟨ga, 0, none⟩) p.length ca) := hH.old 3 rfl
        obtain ⟨v66, e66, g66⟩ := hH.dep 9 66 rfl (by kernel_rfl)
        have q66 : v66 = .bool false := g66
        subst q66
        exact Or.inl ⟨wanted_on rfl rfl rfl e66, goodE_move _ rfl (eval_of e3) rfl⟩
      refine stepE_cons ⟨_, rfl, fun a w hE hH => ?_⟩ ?_
      ·
        have e4 : a.tmps[4]? = some (.slice (some ⟨gb, 0, none⟩) q.length cb) := hH.old 4 rfl
        obtain ⟨v66, e66, g66⟩ := hH.dep 9 66 rfl (by kernel_rfl)
        have q66 : v66 = .bool false := g66
        subst q66
        exact Or.inl ⟨wanted_on rfl rfl rfl e66, goodE_move _ rfl (eval_of e4) rfl⟩
      refine stepE_cons ⟨_, rfl, fun a w hE hH => ?_⟩ ?_
      ·
        obtain ⟨v67, e67, g67⟩ := hH.dep 10 67 rfl (by kernel_rfl)
        have q67 : v67 = .slice (some ⟨ga, 0, none⟩) p.length ca := g67
        subst q67
        obtain ⟨v68, e68, g68⟩ := hH.dep 11 68 rfl (by kernel_rfl)
        have q68 : v68 = .slice (some ⟨gb, 0, none⟩) q.length cb := g68
        subst q68
        obtain ⟨v66, e66, g66⟩ := hH.dep 9 66 rfl (by kernel_rfl)
        have q66 : v66 = .bool false := g66
        subst q66
        refine Or.inl ⟨(wanted_on rfl rfl rfl e66), goodE_call rfl #[.slice (some ⟨ga, 0, none⟩) p.length ca, .slice (some ⟨gb, 0, none⟩) q.length cb] (by simp [Act.eval, e67, e68]) _ Tryd.func12 (by kernel_rfl) (by kernel_rfl) ?_⟩
        have hc := compare_calls w (some ⟨ga, 0, none⟩) (some ⟨gb, 0, none⟩) ca cb (ints p) (ints q) (HRa.out.ext ((Ext.to_drew _).trans hE)).rs (HRb.out.ext ((Ext.to_drew _).trans hE)).rs
        rw [ints_length, ints_length, ← HCM.out] at hc
        exact hc.mono (fun e w' h => ⟨_, h.1, h.2, rfl⟩)
      refine stepE_cons ⟨_, rfl, fun a w hE hH => ?_⟩ ?_
      ·
        have e1 : a.tmps[1]? = some (.pointer (some ⟨XB, 0, none⟩)) := hH.old 1 rfl
        obtain ⟨v66, e66, g66⟩ := hH.dep 9 66 rfl (by kernel_rfl)
        have q66 : v66 = .bool false := g66
        subst q66
        exact Or.inl ⟨(wanted_on rfl rfl rfl e66), goodE_val (.pointer (some ⟨XB, 0, none⟩)) (by simp [execOp, Act.eval, e1, go_sem]) rfl⟩
      refine stepE_cons ⟨_, rfl, fun a w hE hH => ?_⟩ ?_
      ·
        obtain ⟨v70, e70, g70⟩ := hH.dep 13 70 rfl (by kernel_rfl)
        have q70 : v70 = .pointer (some ⟨XB, 0, none⟩) := g70
        subst q70
        obtain ⟨v66, e66, g66⟩ := hH.dep 9 66 rfl (by kernel_rfl)
        have q66 : v66 = .bool false := g66
        subst q66
        exact Or.inl ⟨(wanted_on rfl rfl rfl e66), goodE_val (.slice A0 p.length c0) (by simp [execOp, Act.eval, e70, go_sem, cell_ext ((Ext.to_drew _).trans hE) HX0.out]) rfl⟩
      refine stepE_cons ⟨_, rfl, fun a w hE hH => ?_⟩ ?_
      ·
        have e1 : a.tmps[1]? = some (.pointer (some ⟨XB, 0, none⟩)) := hH.old 1 rfl
        obtain ⟨v66, e66, g66⟩ := hH.dep 9 66 rfl (by kernel_rfl)
        have q66 : v66 = .bool false := g66
        subst q66
        exact Or.inl ⟨(wanted_on rfl rfl rfl e66), goodE_val (.pointer (some ⟨XB, 1, none⟩)) (by simp [execOp, Act.eval, e1, go_sem]) rfl⟩
      refine stepE_cons ⟨_, rfl, fun a w hE hH => ?_⟩ ?_
      ·
        obtain ⟨v72, e72, g72⟩ := hH.dep 15 72 rfl (by kernel_rfl)
        have q72 : v72 = .pointer (some ⟨XB, 1, none⟩) := g72
        subst q72
        obtain ⟨v66, e66, g66⟩ := hH.dep 9 66 rfl (by kernel_rfl)
        have q66 : v66 = .bool false := g66
        subst q66
        exact Or.inl ⟨(wanted_on rfl rfl rfl e66), goodE_val (.slice A1 q.length c1) (by simp [execOp, Act.eval, e72, go_sem, cell_ext ((Ext.to_drew _).trans hE) HX1.out]) rfl⟩
      refine stepE_cons ⟨_, rfl, fun a w hE hH => ?_⟩ ?_
      ·
        obtain ⟨v71, e71, g71⟩ := hH.dep 14 71 rfl (by kernel_rfl)
        have q71 : v71 = .slice A0 p.length c0 := g71
        subst q71
        obtain ⟨v73, e73, g73⟩ := hH.dep 16 73 rfl (by kernel_rfl)
        have q73 : v73 = .slice A1 q.length c1 := g73
        subst q73
        obtain ⟨v66, e66, g66⟩ := hH.dep 9 66 rfl (by kernel_rfl)
        have q66 : v66 = .bool false := g66
        subst q66
        refine Or.inl ⟨(wanted_on rfl rfl rfl e66), goodE_call rfl #[.slice A0 p.length c0, .slice A1 q.length c1] (by simp [Act.eval, e71, e73]) _ Tryd.func19 (by kernel_rfl) (by kernel_rfl) ?_⟩
        have hc := rcompare_calls w A0 A1 c0 c1 (ints p) (ints q) (HA.out.ext (HE.out.trans ((Ext.to_drew _).trans hE))) (HB.out.ext (HE.out.trans ((Ext.to_drew _).trans hE)))
        rw [ints_length, ints_length, ← HCM.out] at hc
        exact hc.mono (fun e w' h => ⟨_, h.1, h.2, rfl⟩)
      refine stepE_cons ⟨_, rfl, fun a w hE hH => ?_⟩ ?_
      ·
        obtain ⟨v69, e69, g69⟩ := hH.dep 12 69 rfl (by kernel_rfl)
        have q69 : v69 = .int .i64 CM := g69
        subst q69
        obtain ⟨v74, e74, g74⟩ := hH.dep 17 74 rfl (by kernel_rfl)
        have q74 : v74 = .int .i64 CM := g74
        subst q74
        obtain ⟨v66, e66, g66⟩ := hH.dep 9 66 rfl (by kernel_rfl)
        have q66 : v66 = .bool false := g66
        subst q66
        exact Or.inl ⟨wanted_on rfl rfl rfl e66, goodE_val (.bool false) (by simp [execOp, Act.eval, e74, e66, e69, go_sem]) rfl⟩
      refine stepE_cons ⟨_, rfl, fun a w hE hH => ?_⟩ ?_
      ·
        obtain ⟨v66, e66, g66⟩ := hH.dep 9 66 rfl (by kernel_rfl)
        have q66 : v66 = .bool false := g66
        subst q66
        obtain ⟨v75, e75, g75⟩ := hH.dep 18 75 rfl (by kernel_rfl)
        have q75 : v75 = .bool false := g75
        subst q75
        exact Or.inl ⟨rfl, goodE_pick _ (.bool false) rfl (eval_of e66) (by simp [Act.eval, e66, e75]) rfl⟩
      refine stepE_cons ⟨_, rfl, fun a w hE hH => ?_⟩ ?_
      ·
        obtain ⟨v76, e76, g76⟩ := hH.dep 19 76 rfl (by kernel_rfl)
        exact Or.inl ⟨rfl, goodE_move v76 rfl (eval_of e76) g76⟩
      refine stepE_cons ⟨_, rfl, fun a w hE hH => ?_⟩ ?_
      ·
        have e3 : a.tmps[3]? = some (.slice (some ⟨ga, 0, none⟩) p.length ca) := hH.old 3 rfl
        obtain ⟨v77, e77, g77⟩ := hH.dep 20 77 rfl (by kernel_rfl)
        have q77 : v77 = .bool false := g77
        subst q77
        exact Or.inl ⟨wanted_on rfl rfl rfl e77, goodE_move _ rfl (eval_of e3) rfl⟩
      refine stepE_cons ⟨_, rfl, fun a w hE hH => ?_⟩ ?_
      ·
        obtain ⟨v78, e78, g78⟩ := hH.dep 21 78 rfl (by kernel_rfl)
        have q78 : v78 = .slice (some ⟨ga, 0, none⟩) p.length ca := g78
        subst q78
        obtain ⟨v77, e77, g77⟩ := hH.dep 20 77 rfl (by kernel_rfl)
        have q77 : v77 = .bool false := g77
        subst q77
        refine Or.inl ⟨(wanted_on rfl rfl rfl e77), goodE_call rfl #[.slice (some ⟨ga, 0, none⟩) p.length ca] (by simp [Act.eval, e78]) _ Tryd.func11 (by kernel_rfl) (by kernel_rfl) ?_⟩
        have hc := hex_calls w (some ⟨ga, 0, none⟩) ca (ints p) (HRa.out.ext ((Ext.to_drew _).trans hE)).rs (ints_BL p) (by rw [ints_length]; omega) (Glob.ext HG.out (HE.out.trans ((Ext.to_drew _).trans hE)))
        rw [ints_length, ← HHXA.out] at hc
        exact hc.mono (fun e w' h => ⟨_, h.1, h.2, rfl⟩)
      refine stepE_cons ⟨_, rfl, fun a w hE hH => ?_⟩ ?_
      ·
        have e1 : a.tmps[1]? = some (.pointer (some ⟨XB, 0, none⟩)) := hH.old 1 rfl
        obtain ⟨v77, e77, g77⟩ := hH.dep 20 77 rfl (by kernel_rfl)
        have q77 : v77 = .bool false := g77
        subst q77
        exact Or.inl ⟨(wanted_on rfl rfl rfl e77), goodE_val (.pointer (some ⟨XB, 0, none⟩)) (by simp [execOp, Act.eval, e1, go_sem]) rfl⟩
      refine stepE_cons ⟨_, rfl, fun a w hE hH => ?_⟩ ?_
      ·
        obtain ⟨v80, e80, g80⟩ := hH.dep 23 80 rfl (by kernel_rfl)
        have q80 : v80 = .pointer (some ⟨XB, 0, none⟩) := g80
        subst q80
        obtain ⟨v77, e77, g77⟩ := hH.dep 20 77 rfl (by kernel_rfl)
        have q77 : v77 = .bool false := g77
        subst q77
        exact Or.inl ⟨(wanted_on rfl rfl rfl e77), goodE_val (.slice A0 p.length c0) (by simp [execOp, Act.eval, e80, go_sem, cell_ext ((Ext.to_drew _).trans hE) HX0.out]) rfl⟩
      refine stepE_cons ⟨_, rfl, fun a w hE hH => ?_⟩ ?_
      ·
        obtain ⟨v81, e81, g81⟩ := hH.dep 24 81 rfl (by kernel_rfl)
        have q81 : v81 = .slice A0 p.length c0 := g81
        subst q81
        obtain ⟨v77, e77, g77⟩ := hH.dep 20 77 rfl (by kernel_rfl)
        have q77 : v77 = .bool false := g77
        subst q77
        refine Or.inl ⟨(wanted_on rfl rfl rfl e77), goodE_call rfl #[.slice A0 p.length c0] (by simp [Act.eval, e81]) _ Tryd.func20 (by kernel_rfl) (by kernel_rfl) ?_⟩
        have hc := refHex_calls w A0 c0 (ints p) (HA.out.ext (HE.out.trans ((Ext.to_drew _).trans hE))) (ints_BL p) (by rw [ints_length]; omega)
        rw [ints_length, ← HHXA.out] at hc
        exact hc.mono (fun e w' h => ⟨_, h.1, h.2, rfl⟩)
      refine stepE_cons ⟨_, rfl, fun a w hE hH => ?_⟩ ?_
      ·
        obtain ⟨v79, e79, g79⟩ := hH.dep 22 79 rfl (by kernel_rfl)
        have q79 : v79 = .string hxa := g79
        subst q79
        obtain ⟨v82, e82, g82⟩ := hH.dep 25 82 rfl (by kernel_rfl)
        have q82 : v82 = .string hxa := g82
        subst q82
        obtain ⟨v77, e77, g77⟩ := hH.dep 20 77 rfl (by kernel_rfl)
        have q77 : v77 = .bool false := g77
        subst q77
        exact Or.inl ⟨(wanted_on rfl rfl rfl e77), goodE_val (.bool false) (by simp [execOp, Act.eval, e79, e82, go_sem]) rfl⟩
      refine stepE_cons ⟨_, rfl, fun a w hE hH => ?_⟩ ?_
      ·
        obtain ⟨v77, e77, g77⟩ := hH.dep 20 77 rfl (by kernel_rfl)
        have q77 : v77 = .bool false := g77
        subst q77
        obtain ⟨v83, e83, g83⟩ := hH.dep 26 83 rfl (by kernel_rfl)
        have q83 : v83 = .bool false := g83
        subst q83
        exact Or.inl ⟨rfl, goodE_pick _ (.bool false) rfl (eval_of e77) (by simp [Act.eval, e83, e77]) rfl⟩
      exact stepE_nil
    rintro vals wz hE hV
    have k84 : vals 27 = .bool false := hV 27 (by simp) rfl
    simp only [List.map_cons, List.map_nil, putAll, Act.put, List.setIfInBounds_toArray, List.set_cons_zero, List.set_cons_succ, k84]
    replace HE := Aside0.mk (HE.out.trans ((Ext.to_drew _).trans hE))
    replace HX := Aside0.mk (HX.out.ext ((Ext.to_drew _).trans hE))
    replace HRa := Aside0.mk (HRa.out.ext ((Ext.to_drew _).trans hE))
    replace HRb := Aside0.mk (HRb.out.ext ((Ext.to_drew _).trans hE))
    replace HN := Aside0.mk (HN.out.ext ((Ext.to_drew _).trans hE))
    replace HM := Aside0.mk (HM.out.ext ((Ext.to_drew _).trans hE))
    replace LHN := Aside0.mk (lt_ext LHN.out ((Ext.to_drew _).trans hE))
    replace LHM := Aside0.mk (lt_ext LHM.out ((Ext.to_drew _).trans hE))
    clear hE hV k84
    clear HX0 HX1
    have x2 := HX.out.cell (show (twoL A0 A1 A2 A3 c0 c1 c2 c3 p q f t o S)[2]? = some (.slice A2 f.length c2) from rfl)
    have x3 := HX.out.cell (show (twoL A0 A1 A2 A3 c0 c1 c2 c3 p q f t o S)[3]? = some (.slice A3 t.length c3) from rfl)
    have HX2 := Aside0.mk x2
    have HX3 := Aside0.mk x3
    clear x2 x3
    go_wp2_with fail
    obtain ⟨N9, hN9⟩ : ∃ N9, N9 = wz.heap.size := ⟨_, rfl⟩
    have HN9 := Aside0.mk hN9
    clear hN9
    refine ext_region 10 [(0, 85), (1, 86), (2, 87), (3, 88), (4, 89), (5, 90), (6, 91), (7, 92), (8, 10), (9, 11)] [0, 1, 2, 3, 4, 5, 6, 7, 8, 9] (fun i w v => match i with | 0 => v = .pointer (some ⟨XB, 2, none⟩) | 1 => v = .pointer (some ⟨XB, 2, none⟩) | 2 => v = .slice A2 f.length c2 | 3 => ∃ g c, v = .slice (some ⟨g, 0, none⟩) f.length c ∧ N9 ≤ g ∧ Rm w g c f | 4 => v = .pointer (some ⟨XB, 2, none⟩) | 5 => v = .pointer (some ⟨XB, 3, none⟩) | 6 => v = .slice A3 t.length c3 | 7 => ∃ g c, v = .slice (some ⟨g, 0, none⟩) t.length c ∧ N9 ≤ g ∧ Rm w g c t | 8 => ∃ g c, v = .slice (some ⟨g, 0, none⟩) f.length c ∧ N9 ≤ g ∧ Rm w g c f | 9 => ∃ g c, v = .slice (some ⟨g, 0, none⟩) t.length c ∧ N9 ≤ g ∧ Rm w g c t | _ => True) (by kernel_rfl) (by kernel_rfl) (by rfl) rfl ?mono9 ?steps9 ?fin9
    case mono9 =>
      intro i w w' v h hE
      match i with
      | 0 => exact h
      | 1 => exact h
      | 2 => exact h
      | 3 => exact h.elim fun g h => h.elim fun c h => ⟨g, c, h.1, h.2.1, h.2.2.ext hE⟩
      | 4 => exact h
      | 5 => exact h
      | 6 => exact h
      | 7 => exact h.elim fun g h => h.elim fun c h => ⟨g, c, h.1, h.2.1, h.2.2.ext hE⟩
      | 8 => exact h.elim fun g h => h.elim fun c h => ⟨g, c, h.1, h.2.1, h.2.2.ext hE⟩
      | 9 => exact h.elim fun g h => h.elim fun c h => ⟨g, c, h.1, h.2.1, h.2.2.ext hE⟩
      | _ + 10 => trivial
    case steps9 =>
      refine stepE_cons ⟨_, rfl, fun a w hE hH => ?_⟩ ?_
      ·
        have e1 : a.tmps[1]? = some (.pointer (some ⟨XB, 0, none⟩)) := hH.old 1 rfl
        exact Or.inl ⟨(rfl), goodE_val (.pointer (some ⟨XB, 2, none⟩)) (by simp [execOp, Act.eval, e1, go_sem]) rfl⟩
      refine stepE_cons ⟨_, rfl, fun a w hE hH => ?_⟩ ?_
      ·
        obtain ⟨v85, e85, g85⟩ := hH.dep 0 85 rfl (by kernel_rfl)
        have q85 : v85 = .pointer (some ⟨XB, 2, none⟩) := g85
        subst q85
        exact Or.inl ⟨(rfl), goodE_val (.pointer (some ⟨XB, 2, none⟩)) (by simp [execOp, Act.eval, e85, go_sem]) rfl⟩
      refine stepE_cons ⟨_, rfl, fun a w hE hH => ?_⟩ ?_
      ·
        obtain ⟨v86, e86, g86⟩ := hH.dep 1 86 rfl (by kernel_rfl)
        have q86 : v86 = .pointer (some ⟨XB, 2, none⟩) := g86
        subst q86
        exact Or.inl ⟨(rfl), goodE_val (.slice A2 f.length c2) (by simp [execOp, Act.eval, e86, go_sem, cell_ext ((Ext.to_drew _).trans hE) HX2.out]) rfl⟩
      refine stepE_cons ⟨_, rfl, fun a w hE hH => ?_⟩ ?_
      ·
        obtain ⟨v87, e87, g87⟩ := hH.dep 2 87 rfl (by kernel_rfl)
        have q87 : v87 = .slice A2 f.length c2 := g87
        subst q87
        refine Or.inl ⟨(rfl), goodE_call rfl #[.slice A2 f.length c2] (by simp [Act.eval, e87]) _ Tryd.func13 (by kernel_rfl) (by kernel_rfl) ?_⟩
        refine (roomy_calls w A2 c2 f (HF.out.ext (HE.out.trans ((Ext.to_drew _).trans hE))).bs HF0.out (by omega)).mono ?_
        rintro e w' ⟨g, c, rfl, hg, hE2, hR⟩
        exact ⟨_, rfl, hE2, g, c, rfl, by rw [HN9.out]; exact Nat.le_trans (((Ext.to_drew _).trans hE)).size hg, hR⟩
      refine stepE_cons ⟨_, rfl, fun a w hE hH => ?_⟩ ?_
      ·
        have e1 : a.tmps[1]? = some (.pointer (some ⟨XB, 0, none⟩)) := hH.old 1 rfl
        exact Or.inl ⟨(rfl), goodE_val (.pointer (some ⟨XB, 2, none⟩)) (by simp [execOp, Act.eval, e1, go_sem]) rfl⟩
      refine stepE_cons ⟨_, rfl, fun a w hE hH => ?_⟩ ?_
      ·
        obtain ⟨v89, e89, g89⟩ := hH.dep 4 89 rfl (by kernel_rfl)
        have q89 : v89 = .pointer (some ⟨XB, 2, none⟩) := g89
        subst q89
        exact Or.inl ⟨(rfl), goodE_val (.pointer (some ⟨XB, 3, none⟩)) (by simp [execOp, Act.eval, e89, go_sem]) rfl⟩
      refine stepE_cons ⟨_, rfl, fun a w hE hH => ?_⟩ ?_
      ·
        obtain ⟨v90, e90, g90⟩ := hH.dep 5 90 rfl (by kernel_rfl)
        have q90 : v90 = .pointer (some ⟨XB, 3, none⟩) := g90
        subst q90
        exact Or.inl ⟨(rfl), goodE_val (.slice A3 t.length c3) (by simp [execOp, Act.eval, e90, go_sem, cell_ext ((Ext.to_drew _).trans hE) HX3.out]) rfl⟩
      refine stepE_cons ⟨_, rfl, fun a w hE hH => ?_⟩ ?_
      ·
        obtain ⟨v91, e91, g91⟩ := hH.dep 6 91 rfl (by kernel_rfl)
        have q91 : v91 = .slice A3 t.length c3 := g91
        subst q91
        refine Or.inl ⟨(rfl), goodE_call rfl #[.slice A3 t.length c3] (by simp [Act.eval, e91]) _ Tryd.func13 (by kernel_rfl) (by kernel_rfl) ?_⟩
        refine (roomy_calls w A3 c3 t (HT.out.ext (HE.out.trans ((Ext.to_drew _).trans hE))).bs HT0.out (by omega)).mono ?_
        rintro e w' ⟨g, c, rfl, hg, hE2, hR⟩
        exact ⟨_, rfl, hE2, g, c, rfl, by rw [HN9.out]; exact Nat.le_trans (((Ext.to_drew _).trans hE)).size hg, hR⟩
      refine stepE_cons ⟨_, rfl, fun a w hE hH => ?_⟩ ?_
      ·
        obtain ⟨v88, e88, g88⟩ := hH.dep 3 88 rfl (by kernel_rfl)
        exact Or.inl ⟨rfl, goodE_assign v88 rfl (eval_of e88) g88⟩
      refine stepE_cons ⟨_, rfl, fun a w hE hH => ?_⟩ ?_
      ·
        obtain ⟨v92, e92, g92⟩ := hH.dep 7 92 rfl (by kernel_rfl)
        exact Or.inl ⟨rfl, goodE_assign v92 rfl (eval_of e92) g92⟩
      exact stepE_nil
    rintro vals wy hE hV
    have k10 : ∃ g c, (vals 8) = .slice (some ⟨g, 0, none⟩) f.length c ∧ N9 ≤ g ∧ Rm wy g c f := hV 8 (by simp) rfl
    have k11 : ∃ g c, (vals 9) = .slice (some ⟨g, 0, none⟩) t.length c ∧ N9 ≤ g ∧ Rm wy g c t := hV 9 (by simp) rfl
    simp only [List.map_cons, List.map_nil, putAll, Act.put, List.setIfInBounds_toArray, List.set_cons_zero, List.set_cons_succ]
    obtain ⟨gf, cf, e10, hgf, hRf⟩ := k10
    obtain ⟨gt, ct, e11, hgt, hRt⟩ := k11
    rw [e10, e11]
    have N_HN_gf := Aside0.mk (show ∀ k, (Value.slice A_HN na.length c_HN).ownBlock = some k → k ≠ gf from fun k hk => by have h1 := LHN.out k hk; have h2 := HN9.out; omega)
    have N_HN_gt := Aside0.mk (show ∀ k, (Value.slice A_HN na.length c_HN).ownBlock = some k → k ≠ gt from fun k hk => by have h1 := LHN.out k hk; have h2 := HN9.out; omega)
    have N_HM_gf := Aside0.mk (show ∀ k, (Value.slice A_HM mb.length c_HM).ownBlock = some k → k ≠ gf from fun k hk => by have h1 := LHM.out k hk; have h2 := HN9.out; omega)
    have N_HM_gt := Aside0.mk (show ∀ k, (Value.slice A_HM mb.length c_HM).ownBlock = some k → k ≠ gt from fun k hk => by have h1 := LHM.out k hk; have h2 := HN9.out; omega)
    replace HE := Aside0.mk (HE.out.trans ((Ext.to_drew _).trans hE))
    replace HX := Aside0.mk (HX.out.ext ((Ext.to_drew _).trans hE))
    replace HRa := Aside0.mk (HRa.out.ext ((Ext.to_drew _).trans hE))
    replace HRb := Aside0.mk (HRb.out.ext ((Ext.to_drew _).trans hE))
    replace HN := Aside0.mk (HN.out.ext ((Ext.to_drew _).trans hE))
    replace HM := Aside0.mk (HM.out.ext ((Ext.to_drew _).trans hE))
    replace LHN := Aside0.mk (lt_ext LHN.out ((Ext.to_drew _).trans hE))
    replace LHM := Aside0.mk (lt_ext LHM.out ((Ext.to_drew _).trans hE))
    have HRf := Aside0.mk hRf
    have HRt := Aside0.mk hRt
    clear hE hV e10 e11 hgf hgt hRf hRt HX2 HX3
    have x0 := HX.out.cell (show (twoL A0 A1 A2 A3 c0 c1 c2 c3 p q f t o S)[0]? = some (.slice A0 p.length c0) from rfl)
    have x2 := HX.out.cell (show (twoL A0 A1 A2 A3 c0 c1 c2 c3 p q f t o S)[2]? = some (.slice A2 f.length c2) from rfl)
    have x3 := HX.out.cell (show (twoL A0 A1 A2 A3 c0 c1 c2 c3 p q f t o S)[3]? = some (.slice A3 t.length c3) from rfl)
    have x4 := HX.out.cell (show (twoL A0 A1 A2 A3 c0 c1 c2 c3 p q f t o S)[4]? = some (.bool o) from rfl)
    have HX0 := Aside0.mk x0
    have HX2 := Aside0.mk x2
    have HX3 := Aside0.mk x3
    have HX4 := Aside0.mk x4
    clear x0 x2 x3 x4
    obtain ⟨WS, hWS⟩ : ∃ WS, WS = withS (ints p) (ints f) (ints t) o := ⟨_, rfl⟩
    have HWS := Aside0.mk hWS
    clear hWS
    go_wp2_with fail
    have HRG := Aside0.mk (show ∀ w', Ext wy w' → w'.rangeAt XB 2 [.slice A2 f.length c2, .slice A3 t.length c3, .bool o] from fun w' hE' k v hv => by
      match k, hv with
      | 0, hv => simp only [List.getElem?_cons_zero, Option.some.injEq] at hv; rw [← hv]; exact cell_ext hE' HX2.out
      | 1, hv => simp only [List.getElem?_cons_succ, List.getElem?_cons_zero, Option.some.injEq] at hv; rw [← hv]; exact cell_ext hE' HX3.out
      | 2, hv => simp only [List.getElem?_cons_succ, List.getElem?_cons_zero, Option.some.injEq] at hv; rw [← hv]; exact cell_ext hE' HX4.out
      | k + 3, hv => simp at hv)
    refine ext_region 14 [(0, 93), (1, 94), (2, 95), (3, 96), (4, 97), (5, 98), (6, 99), (7, 100), (8, 101), (9, 102), (10, 103), (11, 104), (12, 105), (13, 106)] [0, 1, 2, 3, 4, 5, 6, 7, 8, 9, 10, 11, 12, 13] (fun i w v => match i with | 0 => v = .slice (some ⟨ga, 0, none⟩) p.length ca | 1 => v = .slice (some ⟨gf, 0, none⟩) f.length cf | 2 => v = .slice (some ⟨gt, 0, none⟩) t.length ct | 3 => v = .pointer (some ⟨XB, 2, none⟩) | 4 => v = .pointer (some ⟨XB, 4, none⟩) | 5 => v = .bool o | 6 => v = .agg #[.slice (some ⟨gf, 0, none⟩) f.length cf, .slice (some ⟨gt, 0, none⟩) t.length ct, .bool o] | 7 => v = .bool WS | 8 => v = .pointer (some ⟨XB, 0, none⟩) | 9 => v = .slice A0 p.length c0 | 10 => v = .pointer (some ⟨XB, 2, none⟩) | 11 => v = .agg #[.slice A2 f.length c2, .slice A3 t.length c3, .bool o] | 12 => v = .bool WS | 13 => v = .bool false | _ => True) (by kernel_rfl) (by kernel_rfl) (by rfl) rfl ?mono10 ?steps10 ?fin10
    case mono10 =>
      intro i w w' v h hE
      match i with
      | 0 => exact h
      | 1 => exact h
      | 2 => exact h
      | 3 => exact h
      | 4 => exact h
      | 5 => exact h
      | 6 => exact h
      | 7 => exact h
      | 8 => exact h
      | 9 => exact h
      | 10 => exact h
      | 11 => exact h
      | 12 => exact h
      | 13 => exact h
      | _ + 14 => trivial
    case steps10 =>
      refine stepE_cons ⟨_, rfl, fun a w hE hH => ?_⟩ ?_
      ·
        have e3 : a.tmps[3]? = some (.slice (some ⟨ga, 0, none⟩) p.length ca) := hH.old 3 rfl
        exact Or.inl ⟨rfl, goodE_move _ rfl (eval_of e3) rfl⟩
      refine stepE_cons ⟨_, rfl, fun a w hE hH => ?_⟩ ?_
      ·
        have e10 : a.tmps[10]? = some (.slice (some ⟨gf, 0, none⟩) f.length cf) := hH.old 10 rfl
        exact Or.inl ⟨rfl, goodE_move _ rfl (eval_of e10) rfl⟩
      refine stepE_cons ⟨_, rfl, fun a w hE hH => ?_⟩ ?_
      ·
        have e11 : a.tmps[11]? = some (.slice (some ⟨gt, 0, none⟩) t.length ct) := hH.old 11 rfl
        exact Or.inl ⟨rfl, goodE_move _ rfl (eval_of e11) rfl⟩
      refine stepE_cons ⟨_, rfl, fun a w hE hH => ?_⟩ ?_
      ·
        have e1 : a.tmps[1]? = some (.pointer (some ⟨XB, 0, none⟩)) := hH.old 1 rfl
        exact Or.inl ⟨(rfl), goodE_val (.pointer (some ⟨XB, 2, none⟩)) (by simp [execOp, Act.eval, e1, go_sem]) rfl⟩
      refine stepE_cons ⟨_, rfl, fun a w hE hH => ?_⟩ ?_
      ·
        obtain ⟨v96, e96, g96⟩ := hH.dep 3 96 rfl (by kernel_rfl)
        have q96 : v96 = .pointer (some ⟨XB, 2, none⟩) := g96
        subst q96
        exact Or.inl ⟨(rfl), goodE_val (.pointer (some ⟨XB, 4, none⟩)) (by simp [execOp, Act.eval, e96, go_sem]) rfl⟩
      refine stepE_cons ⟨_, rfl, fun a w hE hH => ?_⟩ ?_
      ·
        obtain ⟨v97, e97, g97⟩ := hH.dep 4 97 rfl (by kernel_rfl)
        have q97 : v97 = .pointer (some ⟨XB, 4, none⟩) := g97
        subst q97
        exact Or.inl ⟨(rfl), goodE_val (.bool o) (by simp [execOp, Act.eval, e97, go_sem, cell_ext ((Ext.to_drew _).trans hE) HX4.out]) rfl⟩
      refine stepE_cons ⟨_, rfl, fun a w hE hH => ?_⟩ ?_
      ·
        obtain ⟨v94, e94, g94⟩ := hH.dep 1 94 rfl (by kernel_rfl)
        have q94 : v94 = .slice (some ⟨gf, 0, none⟩) f.length cf := g94
        subst q94
        obtain ⟨v95, e95, g95⟩ := hH.dep 2 95 rfl (by kernel_rfl)
        have q95 : v95 = .slice (some ⟨gt, 0, none⟩) t.length ct := g95
        subst q95
        obtain ⟨v98, e98, g98⟩ := hH.dep 5 98 rfl (by kernel_rfl)
        have q98 : v98 = .bool o := g98
        subst q98
        exact Or.inl ⟨(rfl), goodE_build #[.slice (some ⟨gf, 0, none⟩) f.length cf, .slice (some ⟨gt, 0, none⟩) t.length ct, .bool o] rfl (by simp only [List.map_toArray, List.map_cons, List.map_nil, eval_of e94, eval_of e95, eval_of e98]; exact built29 _ _ _ _ _ _ o) rfl⟩
      refine stepE_cons ⟨_, rfl, fun a w hE hH => ?_⟩ ?_
      ·
        obtain ⟨v93, e93, g93⟩ := hH.dep 0 93 rfl (by kernel_rfl)
        have q93 : v93 = .slice (some ⟨ga, 0, none⟩) p.length ca := g93
        subst q93
        obtain ⟨v99, e99, g99⟩ := hH.dep 6 99 rfl (by kernel_rfl)
        have q99 : v99 = .agg #[.slice (some ⟨gf, 0, none⟩) f.length cf, .slice (some ⟨gt, 0, none⟩) t.length ct, .bool o] := g99
        subst q99
        refine Or.inl ⟨(rfl), goodE_call rfl #[.slice (some ⟨ga, 0, none⟩) p.length ca, .agg #[.slice (some ⟨gf, 0, none⟩) f.length cf, .slice (some ⟨gt, 0, none⟩) t.length ct, .bool o]] (by simp [Act.eval, e93, e99]) _ Tryd.func21 (by kernel_rfl) (by kernel_rfl) ?_⟩
        have hc := within_calls w (some ⟨ga, 0, none⟩) (some ⟨gf, 0, none⟩) (some ⟨gt, 0, none⟩) ca cf ct (ints p) (ints f) (ints t) o (HRa.out.ext ((Ext.to_drew _).trans hE)).rs (HRf.out.ext ((Ext.to_drew _).trans hE)).rs (HRt.out.ext ((Ext.to_drew _).trans hE)).rs
        rw [ints_length, ints_length, ints_length, ← HWS.out] at hc
        exact hc.mono (fun e w' h => ⟨_, h.1, h.2, rfl⟩)
      refine stepE_cons ⟨_, rfl, fun a w hE hH => ?_⟩ ?_
      ·
        have e1 : a.tmps[1]? = some (.pointer (some ⟨XB, 0, none⟩)) := hH.old 1 rfl
        exact Or.inl ⟨(rfl), goodE_val (.pointer (some ⟨XB, 0, none⟩)) (by simp [execOp, Act.eval, e1, go_sem]) rfl⟩
      refine stepE_cons ⟨_, rfl, fun a w hE hH => ?_⟩ ?_
      ·
        obtain ⟨v101, e101, g101⟩ := hH.dep 8 101 rfl (by kernel_rfl)
        have q101 : v101 = .pointer (some ⟨XB, 0, none⟩) := g101
        subst q101
        exact Or.inl ⟨(rfl), goodE_val (.slice A0 p.length c0) (by simp [execOp, Act.eval, e101, go_sem, cell_ext ((Ext.to_drew _).trans hE) HX0.out]) rfl⟩
      refine stepE_cons ⟨_, rfl, fun a w hE hH => ?_⟩ ?_
      ·
        have e1 : a.tmps[1]? = some (.pointer (some ⟨XB, 0, none⟩)) := hH.old 1 rfl
        exact Or.inl ⟨(rfl), goodE_val (.pointer (some ⟨XB, 2, none⟩)) (by simp [execOp, Act.eval, e1, go_sem]) rfl⟩
      refine stepE_cons ⟨_, rfl, fun a w hE hH => ?_⟩ ?_
      ·
        obtain ⟨v103, e103, g103⟩ := hH.dep 10 103 rfl (by kernel_rfl)
        have q103 : v103 = .pointer (some ⟨XB, 2, none⟩) := g103
        subst q103
        exact Or.inl ⟨(rfl), goodE_row XB 2 [.slice A2 f.length c2, .slice A3 t.length c3, .bool o] _ rfl (eval_of e103) (HRG.out w ((Ext.to_drew _).trans hE)) Tryd.underlying29 rfl (by kernel_rfl) rfl⟩
      refine stepE_cons ⟨_, rfl, fun a w hE hH => ?_⟩ ?_
      ·
        obtain ⟨v102, e102, g102⟩ := hH.dep 9 102 rfl (by kernel_rfl)
        have q102 : v102 = .slice A0 p.length c0 := g102
        subst q102
        obtain ⟨v104, e104, g104⟩ := hH.dep 11 104 rfl (by kernel_rfl)
        have q104 : v104 = .agg #[.slice A2 f.length c2, .slice A3 t.length c3, .bool o] := g104
        subst q104
        refine Or.inl ⟨(rfl), goodE_call rfl #[.slice A0 p.length c0, .agg #[.slice A2 f.length c2, .slice A3 t.length c3, .bool o]] (by simp [Act.eval, e102, e104]) _ Tryd.func22 (by kernel_rfl) (by kernel_rfl) ?_⟩
        have hc := rwithin_calls w A0 A2 A3 c0 c2 c3 (ints p) (ints f) (ints t) o (HA.out.ext (HE.out.trans ((Ext.to_drew _).trans hE))) (HF.out.ext (HE.out.trans ((Ext.to_drew _).trans hE))) (HT.out.ext (HE.out.trans ((Ext.to_drew _).trans hE)))
        rw [ints_length, ints_length, ints_length, ← HWS.out] at hc
        exact hc.mono (fun e w' h => ⟨_, h.1, h.2, rfl⟩)
      refine stepE_cons ⟨_, rfl, fun a w hE hH => ?_⟩ ?_
      ·
        obtain ⟨v100, e100, g100⟩ := hH.dep 7 100 rfl (by kernel_rfl)
        have q100 : v100 = .bool WS := g100
        subst q100
        obtain ⟨v105, e105, g105⟩ := hH.dep 12 105 rfl (by kernel_rfl)
        have q105 : v105 = .bool WS := g105
        subst q105
        exact Or.inl ⟨(rfl), goodE_val (.bool false) (by simp [execOp, Act.eval, e100, e105, go_sem]) rfl⟩
      exact stepE_nil
    rintro vals wx hE hV
    have k106 : vals 13 = .bool false := hV 13 (by simp) rfl
    simp only [List.map_cons, List.map_nil, putAll, Act.put, List.setIfInBounds_toArray, List.set_cons_zero, List.set_cons_succ, k106]
    replace HE := Aside0.mk (HE.out.trans ((Ext.to_drew _).trans hE))
    replace HX := Aside0.mk (HX.out.ext ((Ext.to_drew _).trans hE))
    replace HRa := Aside0.mk (HRa.out.ext ((Ext.to_drew _).trans hE))
    replace HRb := Aside0.mk (HRb.out.ext ((Ext.to_drew _).trans hE))
    replace HN := Aside0.mk (HN.out.ext ((Ext.to_drew _).trans hE))
    replace HM := Aside0.mk (HM.out.ext ((Ext.to_drew _).trans hE))
    replace HRf := Aside0.mk (HRf.out.ext ((Ext.to_drew _).trans hE))
    replace HRt := Aside0.mk (HRt.out.ext ((Ext.to_drew _).trans hE))
    replace LHN := Aside0.mk (lt_ext LHN.out ((Ext.to_drew _).trans hE))
    replace LHM := Aside0.mk (lt_ext LHM.out ((Ext.to_drew _).trans hE))
    clear hE hV k106 HX0 HX2 HX3 HX4 HRG
    have x5 := HX.out.cell (show (twoL A0 A1 A2 A3 c0 c1 c2 c3 p q f t o S)[5]? = some (.string S) from rfl)
    go_wp2_with fail
    have hc := unhex_calls _ S (Glob.ext HG.out HE.out) (by omega)
    rw [← HUS.out, ← HES.out] at hc
    with_reducible refine hc.mono ?_
    clear hc
    rintro e w9 ⟨A_HU, c_HU, rfl, hO, hE⟩
    have S_HN_HU := Aside0.mk (show Sep (Value.slice A_HN na.length c_HN) (Value.slice A_HU us.length c_HU) from fun k hk hk2 => by have h1 := LHN.out k hk; have h2 := own_base hO k hk2; omega)
    have S_HM_HU := Aside0.mk (show Sep (Value.slice A_HM mb.length c_HM) (Value.slice A_HU us.length c_HU) from fun k hk hk2 => by have h1 := LHM.out k hk; have h2 := own_base hO k hk2; omega)
    have N_HU_XB := Aside0.mk (show ∀ k, (Value.slice A_HU us.length c_HU).ownBlock = some k → k ≠ XB from fun k hk => by have h1 := HX.out.lt; have h2 := own_base hO k hk; omega)
    have N_HU_ga := Aside0.mk (show ∀ k, (Value.slice A_HU us.length c_HU).ownBlock = some k → k ≠ ga from fun k hk => by have h1 := HRa.out.lt; have h2 := own_base hO k hk; omega)
    have N_HU_gb := Aside0.mk (show ∀ k, (Value.slice A_HU us.length c_HU).ownBlock = some k → k ≠ gb from fun k hk => by have h1 := HRb.out.lt; have h2 := own_base hO k hk; omega)
    have N_HU_gf := Aside0.mk (show ∀ k, (Value.slice A_HU us.length c_HU).ownBlock = some k → k ≠ gf from fun k hk => by have h1 := HRf.out.lt; have h2 := own_base hO k hk; omega)
    have N_HU_gt := Aside0.mk (show ∀ k, (Value.slice A_HU us.length c_HU).ownBlock = some k → k ≠ gt from fun k hk => by have h1 := HRt.out.lt; have h2 := own_base hO k hk; omega)
    replace hO := Ob.lower hO HE.out.size
    replace HE := Aside0.mk (HE.out.trans (hE))
    replace HX := Aside0.mk (HX.out.ext (hE))
    replace HRa := Aside0.mk (HRa.out.ext (hE))
    replace HRb := Aside0.mk (HRb.out.ext (hE))
    replace HN := Aside0.mk (HN.out.ext (hE))
    replace HM := Aside0.mk (HM.out.ext (hE))
    replace HRf := Aside0.mk (HRf.out.ext (hE))
    replace HRt := Aside0.mk (HRt.out.ext (hE))
    replace LHN := Aside0.mk (lt_ext LHN.out (hE))
    replace LHM := Aside0.mk (lt_ext LHM.out (hE))
    have HU := Aside0.mk hO
    have LHU := Aside0.mk (hO.lt)
    clear hO hE
    clear x5
    have x5 := HX.out.cell (show (twoL A0 A1 A2 A3 c0 c1 c2 c3 p q f t o S)[5]? = some (.string S) from rfl)
    go_wp2_with fail
    have hc := runhex_calls w9 S (by omega)
    rw [← HUS.out, ← HES.out] at hc
    with_reducible refine hc.mono ?_
    clear hc
    rintro e w10 ⟨A_HV, c_HV, rfl, hO, hE⟩
    replace hO := Ob.lower hO HE.out.size
    replace HE := Aside0.mk (HE.out.trans (hE))
    replace HX := Aside0.mk (HX.out.ext (hE))
    replace HRa := Aside0.mk (HRa.out.ext (hE))
    replace HRb := Aside0.mk (HRb.out.ext (hE))
    replace HN := Aside0.mk (HN.out.ext (hE))
    replace HM := Aside0.mk (HM.out.ext (hE))
    replace HRf := Aside0.mk (HRf.out.ext (hE))
    replace HRt := Aside0.mk (HRt.out.ext (hE))
    replace HU := Aside0.mk (HU.out.ext (hE))
    replace LHN := Aside0.mk (lt_ext LHN.out (hE))
    replace LHM := Aside0.mk (lt_ext LHM.out (hE))
    replace LHU := Aside0.mk (lt_ext LHU.out (hE))
    have HV := Aside0.mk hO
    have LHV := Aside0.mk (hO.lt)
    clear hO hE
    clear x5
    go_wp2_with fail
    have hc := same_calls _ A_HU A_HV c_HU c_HV (ints us) (ints us) (Ob.rs HU.out) (Ob.rs HV.out)
    rw [ints_length, cmp_self] at hc
    with_reducible refine hc.mono ?_
    clear hc
    rintro e w11 ⟨rfl, hE⟩
    replace HE := Aside0.mk (HE.out.trans (hE))
    replace HX := Aside0.mk (HX.out.ext (hE))
    replace HRa := Aside0.mk (HRa.out.ext (hE))
    replace HRb := Aside0.mk (HRb.out.ext (hE))
    replace HN := Aside0.mk (HN.out.ext (hE))
    replace HM := Aside0.mk (HM.out.ext (hE))
    replace HRf := Aside0.mk (HRf.out.ext (hE))
    replace HRt := Aside0.mk (HRt.out.ext (hE))
    replace HU := Aside0.mk (HU.out.ext (hE))
    replace HV := Aside0.mk (HV.out.ext (hE))
    replace LHN := Aside0.mk (lt_ext LHN.out (hE))
    replace LHM := Aside0.mk (lt_ext LHM.out (hE))
    replace LHU := Aside0.mk (lt_ext LHU.out (hE))
    replace LHV := Aside0.mk (lt_ext LHV.out (hE))
    clear hE
    clear HV LHV
    go_wp2_with fail
    have hc := nibbles_calls _ (some ⟨ga, 0, none⟩) ca (ints p) HRa.out.rs (ints_BL p) (by rw [ints_length]; omega)
    rw [← HNA.out, ints_length] at hc
    with_reducible refine hc.mono ?_
    clear hc
    rintro e w12 ⟨A_HN2, c_HN2, rfl, hO, hE⟩
    have S_HN_HN2 := Aside0.mk (show Sep (Value.slice A_HN na.length c_HN) (Value.slice A_HN2 na.length c_HN2) from fun k hk hk2 => by have h1 := LHN.out k hk; have h2 := own_base hO k hk2; omega)
    have S_HM_HN2 := Aside0.mk (show Sep (Value.slice A_HM mb.length c_HM) (Value.slice A_HN2 na.length c_HN2) from fun k hk hk2 => by have h1 := LHM.out k hk; have h2 := own_base hO k hk2; omega)
    have S_HU_HN2 := Aside0.mk (show Sep (Value.slice A_HU us.length c_HU) (Value.slice A_HN2 na.length c_HN2) from fun k hk hk2 => by have h1 := LHU.out k hk; have h2 := own_base hO k hk2; omega)
    have N_HN2_XB := Aside0.mk (show ∀ k, (Value.slice A_HN2 na.length c_HN2).ownBlock = some k → k ≠ XB from fun k hk => by have h1 := HX.out.lt; have h2 := own_base hO k hk; omega)
    have N_HN2_ga := Aside0.mk (show ∀ k, (Value.slice A_HN2 na.length c_HN2).ownBlock = some k → k ≠ ga from fun k hk => by have h1 := HRa.out.lt; have h2 := own_base hO k hk; omega)
    have N_HN2_gb := Aside0.mk (show ∀ k, (Value.slice A_HN2 na.length c_HN2).ownBlock = some k → k ≠ gb from fun k hk => by have h1 := HRb.out.lt; have h2 := own_base hO k hk; omega)
    have N_HN2_gf := Aside0.mk (show ∀ k, (Value.slice A_HN2 na.length c_HN2).ownBlock = some k → k ≠ gf from fun k hk => by have h1 := HRf.out.lt; have h2 := own_base hO k hk; omega)
    have N_HN2_gt := Aside0.mk (show ∀ k, (Value.slice A_HN2 na.length c_HN2).ownBlock = some k → k ≠ gt from fun k hk => by have h1 := HRt.out.lt; have h2 := own_base hO k hk; omega)
    replace hO := Ob.lower hO HE.out.size
    replace HE := Aside0.mk (HE.out.trans (hE))
    replace HX := Aside0.mk (HX.out.ext (hE))
    replace HRa := Aside0.mk (HRa.out.ext (hE))
    replace HRb := Aside0.mk (HRb.out.ext (hE))
    replace HN := Aside0.mk (HN.out.ext (hE))
    replace HM := Aside0.mk (HM.out.ext (hE))
    replace HRf := Aside0.mk (HRf.out.ext (hE))
    replace HRt := Aside0.mk (HRt.out.ext (hE))
    replace HU := Aside0.mk (HU.out.ext (hE))
    replace LHN := Aside0.mk (lt_ext LHN.out (hE))
    replace LHM := Aside0.mk (lt_ext LHM.out (hE))
    replace LHU := Aside0.mk (lt_ext LHU.out (hE))
    have HN2 := Aside0.mk hO
    have LHN2 := Aside0.mk (hO.lt)
    clear hO hE
    go_wp2_with fail
    have hc := bytes_calls _ (some ⟨gb, 0, none⟩) cb (ints q) HRb.out.rs (ints_BL q) (by rw [ints_length]; omega)
    rw [← HMB.out, ← HEB.out, ints_length] at hc
    with_reducible refine hc.mono ?_
    clear hc
    rintro e w13 ⟨A_HM2, c_HM2, rfl, hO, hE⟩
    have S_HN_HM2 := Aside0.mk (show Sep (Value.slice A_HN na.length c_HN) (Value.slice A_HM2 mb.length c_HM2) from fun k hk hk2 => by have h1 := LHN.out k hk; have h2 := own_base hO k hk2; omega)
    have S_HM_HM2 := Aside0.mk (show Sep (Value.slice A_HM mb.length c_HM) (Value.slice A_HM2 mb.length c_HM2) from fun k hk hk2 => by have h1 := LHM.out k hk; have h2 := own_base hO k hk2; omega)
    have S_HU_HM2 := Aside0.mk (show Sep (Value.slice A_HU us.length c_HU) (Value.slice A_HM2 mb.length c_HM2) from fun k hk hk2 => by have h1 := LHU.out k hk; have h2 := own_base hO k hk2; omega)
    have S_HN2_HM2 := Aside0.mk (show Sep (Value.slice A_HN2 na.length c_HN2) (Value.slice A_HM2 mb.length c_HM2) from fun k hk hk2 => by have h1 := LHN2.out k hk; have h2 := own_base hO k hk2; omega)
    have N_HM2_XB := Aside0.mk (show ∀ k, (Value.slice A_HM2 mb.length c_HM2).ownBlock = some k → k ≠ XB from fun k hk => by have h1 := HX.out.lt; have h2 := own_base hO k hk; omega)
    have N_HM2_ga := Aside0.mk (show ∀ k, (Value.slice A_HM2 mb.length c_HM2).ownBlock = some k → k ≠ ga from fun k hk => by have h1 := HRa.out.lt; have h2 := own_base hO k hk; omega)
    have N_HM2_gb := Aside0.mk (show ∀ k, (Value.slice A_HM2 mb.length c_HM2).ownBlock = some k → k ≠ gb from fun k hk => by have h1 := HRb.out.lt; have h2 := own_base hO k hk; omega)
    have N_HM2_gf := Aside0.mk (show ∀ k, (Value.slice A_HM2 mb.length c_HM2).ownBlock = some k → k ≠ gf from fun k hk => by have h1 := HRf.out.lt; have h2 := own_base hO k hk; omega)
    have N_HM2_gt := Aside0.mk (show ∀ k, (Value.slice A_HM2 mb.length c_HM2).ownBlock = some k → k ≠ gt from fun k hk => by have h1 := HRt.out.lt; have h2 := own_base hO k hk; omega)
    replace hO := Ob.lower hO HE.out.size
    replace HE := Aside0.mk (HE.out.trans (hE))
    replace HX := Aside0.mk (HX.out.ext (hE))
    replace HRa := Aside0.mk (HRa.out.ext (hE))
    replace HRb := Aside0.mk (HRb.out.ext (hE))
    replace HN := Aside0.mk (HN.out.ext (hE))
    replace HM := Aside0.mk (HM.out.ext (hE))
    replace HRf := Aside0.mk (HRf.out.ext (hE))
    replace HRt := Aside0.mk (HRt.out.ext (hE))
    replace HU := Aside0.mk (HU.out.ext (hE))
    replace HN2 := Aside0.mk (HN2.out.ext (hE))
    replace LHN := Aside0.mk (lt_ext LHN.out (hE))
    replace LHM := Aside0.mk (lt_ext LHM.out (hE))
    replace LHU := Aside0.mk (lt_ext LHU.out (hE))
    replace LHN2 := Aside0.mk (lt_ext LHN2.out (hE))
    have HM2 := Aside0.mk hO
    have LHM2 := Aside0.mk (hO.lt)
    clear hO hE
    have x5 := HX.out.cell (show (twoL A0 A1 A2 A3 c0 c1 c2 c3 p q f t o S)[5]? = some (.string S) from rfl)
    go_wp2_with fail
    have hc := unhex_calls _ S (Glob.ext HG.out HE.out) (by omega)
    rw [← HUS.out, ← HES.out] at hc
    with_reducible refine hc.mono ?_
    clear hc
    rintro e w14 ⟨A_HU2, c_HU2, rfl, hO, hE⟩
    have S_HN_HU2 := Aside0.mk (show Sep (Value.slice A_HN na.length c_HN) (Value.slice A_HU2 us.length c_HU2) from fun k hk hk2 => by have h1 := LHN.out k hk; have h2 := own_base hO k hk2; omega)
    have S_HM_HU2 := Aside0.mk (show Sep (Value.slice A_HM mb.length c_HM) (Value.slice A_HU2 us.length c_HU2) from fun k hk hk2 => by have h1 := LHM.out k hk; have h2 := own_base hO k hk2; omega)
    have S_HU_HU2 := Aside0.mk (show Sep (Value.slice A_HU us.length c_HU) (Value.slice A_HU2 us.length c_HU2) from fun k hk hk2 => by have h1 := LHU.out k hk; have h2 := own_base hO k hk2; omega)
    have S_HN2_HU2 := Aside0.mk (show Sep (Value.slice A_HN2 na.length c_HN2) (Value.slice A_HU2 us.length c_HU2) from fun k hk hk2 => by have h1 := LHN2.out k hk; have h2 := own_base hO k hk2; omega)
    have S_HM2_HU2 := Aside0.mk (show Sep (Value.slice A_HM2 mb.length c_HM2) (Value.slice A_HU2 us.length c_HU2) from fun k hk hk2 => by have h1 := LHM2.out k hk; have h2 := own_base hO k hk2; omega)
    have N_HU2_XB := Aside0.mk (show ∀ k, (Value.slice A_HU2 us.length c_HU2).ownBlock = some k → k ≠ XB from fun k hk => by have h1 := HX.out.lt; have h2 := own_base hO k hk; omega)
    have N_HU2_ga := Aside0.mk (show ∀ k, (Value.slice A_HU2 us.length c_HU2).ownBlock = some k → k ≠ ga from fun k hk => by have h1 := HRa.out.lt; have h2 := own_base hO k hk; omega)
    have N_HU2_gb := Aside0.mk (show ∀ k, (Value.slice A_HU2 us.length c_HU2).ownBlock = some k → k ≠ gb from fun k hk => by have h1 := HRb.out.lt; have h2 := own_base hO k hk; omega)
    have N_HU2_gf := Aside0.mk (show ∀ k, (Value.slice A_HU2 us.length c_HU2).ownBlock = some k → k ≠ gf from fun k hk => by have h1 := HRf.out.lt; have h2 := own_base hO k hk; omega)
    have N_HU2_gt := Aside0.mk (show ∀ k, (Value.slice A_HU2 us.length c_HU2).ownBlock = some k → k ≠ gt from fun k hk => by have h1 := HRt.out.lt; have h2 := own_base hO k hk; omega)
    replace hO := Ob.lower hO HE.out.size
    replace HE := Aside0.mk (HE.out.trans (hE))
    replace HX := Aside0.mk (HX.out.ext (hE))
    replace HRa := Aside0.mk (HRa.out.ext (hE))
    replace HRb := Aside0.mk (HRb.out.ext (hE))
    replace HN := Aside0.mk (HN.out.ext (hE))
    replace HM := Aside0.mk (HM.out.ext (hE))
    replace HRf := Aside0.mk (HRf.out.ext (hE))
    replace HRt := Aside0.mk (HRt.out.ext (hE))
    replace HU := Aside0.mk (HU.out.ext (hE))
    replace HN2 := Aside0.mk (HN2.out.ext (hE))
    replace HM2 := Aside0.mk (HM2.out.ext (hE))
    replace LHN := Aside0.mk (lt_ext LHN.out (hE))
    replace LHM := Aside0.mk (lt_ext LHM.out (hE))
    replace LHU := Aside0.mk (lt_ext LHU.out (hE))
    replace LHN2 := Aside0.mk (lt_ext LHN2.out (hE))
    replace LHM2 := Aside0.mk (lt_ext LHM2.out (hE))
    have HU2 := Aside0.mk hO
    have LHU2 := Aside0.mk (hO.lt)
    clear hO hE
    clear x5
    go_wp2_with fail
    have hc := same_calls _ A_HN2 A_HN c_HN2 c_HN (ints na) (ints na) (Ob.rs HN2.out) (Ob.rs HN.out)
    rw [ints_length, cmp_self] at hc
    with_reducible refine hc.mono ?_
    clear hc
    rintro e w15 ⟨rfl, hE⟩
    replace HE := Aside0.mk (HE.out.trans (hE))
    replace HX := Aside0.mk (HX.out.ext (hE))
    replace HRa := Aside0.mk (HRa.out.ext (hE))
    replace HRb := Aside0.mk (HRb.out.ext (hE))
    replace HN := Aside0.mk (HN.out.ext (hE))
    replace HM := Aside0.mk (HM.out.ext (hE))
    replace HRf := Aside0.mk (HRf.out.ext (hE))
    replace HRt := Aside0.mk (HRt.out.ext (hE))
    replace HU := Aside0.mk (HU.out.ext (hE))
    replace HN2 := Aside0.mk (HN2.out.ext (hE))
    replace HM2 := Aside0.mk (HM2.out.ext (hE))
    replace HU2 := Aside0.mk (HU2.out.ext (hE))
    replace LHN := Aside0.mk (lt_ext LHN.out (hE))
    replace LHM := Aside0.mk (lt_ext LHM.out (hE))
    replace LHU := Aside0.mk (lt_ext LHU.out (hE))
    replace LHN2 := Aside0.mk (lt_ext LHN2.out (hE))
    replace LHM2 := Aside0.mk (lt_ext LHM2.out (hE))
    replace LHU2 := Aside0.mk (lt_ext LHU2.out (hE))
    clear hE
    go_wp2_with fail
    have hc := same_calls _ A_HM2 A_HM c_HM2 c_HM (ints mb) (ints mb) (Ob.rs HM2.out) (Ob.rs HM.out)
    rw [ints_length, cmp_self] at hc
    with_reducible refine hc.mono ?_
    clear hc
    rintro e w16 ⟨rfl, hE⟩
    replace HE := Aside0.mk (HE.out.trans (hE))
    replace HX := Aside0.mk (HX.out.ext (hE))
    replace HRa := Aside0.mk (HRa.out.ext (hE))
    replace HRb := Aside0.mk (HRb.out.ext (hE))
    replace HN := Aside0.mk (HN.out.ext (hE))
    replace HM := Aside0.mk (HM.out.ext (hE))
    replace HRf := Aside0.mk (HRf.out.ext (hE))
    replace HRt := Aside0.mk (HRt.out.ext (hE))
    replace HU := Aside0.mk (HU.out.ext (hE))
    replace HN2 := Aside0.mk (HN2.out.ext (hE))
    replace HM2 := Aside0.mk (HM2.out.ext (hE))
    replace HU2 := Aside0.mk (HU2.out.ext (hE))
    replace LHN := Aside0.mk (lt_ext LHN.out (hE))
    replace LHM := Aside0.mk (lt_ext LHM.out (hE))
    replace LHU := Aside0.mk (lt_ext LHU.out (hE))
    replace LHN2 := Aside0.mk (lt_ext LHN2.out (hE))
    replace LHM2 := Aside0.mk (lt_ext LHM2.out (hE))
    replace LHU2 := Aside0.mk (lt_ext LHU2.out (hE))
    clear hE
    go_wp2_with fail
    have hc := same_calls _ A_HU2 A_HU c_HU2 c_HU (ints us) (ints us) (Ob.rs HU2.out) (Ob.rs HU.out)
    rw [ints_length, cmp_self] at hc
    with_reducible refine hc.mono ?_
    clear hc
    rintro e w17 ⟨rfl, hE⟩
    replace HE := Aside0.mk (HE.out.trans (hE))
    replace HX := Aside0.mk (HX.out.ext (hE))
    replace HRa := Aside0.mk (HRa.out.ext (hE))
    replace HRb := Aside0.mk (HRb.out.ext (hE))
    replace HN := Aside0.mk (HN.out.ext (hE))
    replace HM := Aside0.mk (HM.out.ext (hE))
    replace HRf := Aside0.mk (HRf.out.ext (hE))
    replace HRt := Aside0.mk (HRt.out.ext (hE))
    replace HU := Aside0.mk (HU.out.ext (hE))
    replace HN2 := Aside0.mk (HN2.out.ext (hE))
    replace HM2 := Aside0.mk (HM2.out.ext (hE))
    replace HU2 := Aside0.mk (HU2.out.ext (hE))
    replace LHN := Aside0.mk (lt_ext LHN.out (hE))
    replace LHM := Aside0.mk (lt_ext LHM.out (hE))
    replace LHU := Aside0.mk (lt_ext LHU.out (hE))
    replace LHN2 := Aside0.mk (lt_ext LHN2.out (hE))
    replace LHM2 := Aside0.mk (lt_ext LHM2.out (hE))
    replace LHU2 := Aside0.mk (lt_ext LHU2.out (hE))
    clear hE
    go_wp2_with fail
    obtain ⟨LB, hLB⟩ : ∃ LB, LB = w17.heap.size := ⟨_, rfl⟩
    refine calls_world (fun wl => Ext w17 wl ∧ Row wl LB [(Value.slice A_HN na.length c_HN), (Value.slice A_HM mb.length c_HM), (Value.slice A_HU us.length c_HU), (Value.slice A_HN2 na.length c_HN2), (Value.slice A_HM2 mb.length c_HM2), (Value.slice A_HU2 us.length c_HU2)] 22) ⟨(Ext.refl _).alloc _, by rw [hLB]; exact Row.alloc _ _ _⟩ ?_
    have LEk := Aside0.mk HE.out.size
    rintro wl ⟨hE, hRL⟩
    rw [← hLB]
    replace HE := Aside0.mk (HE.out.trans (hE))
    replace HX := Aside0.mk (HX.out.ext (hE))
    replace HRa := Aside0.mk (HRa.out.ext (hE))
    replace HRb := Aside0.mk (HRb.out.ext (hE))
    replace HN := Aside0.mk (HN.out.ext (hE))
    replace HM := Aside0.mk (HM.out.ext (hE))
    replace HRf := Aside0.mk (HRf.out.ext (hE))
    replace HRt := Aside0.mk (HRt.out.ext (hE))
    replace HU := Aside0.mk (HU.out.ext (hE))
    replace HN2 := Aside0.mk (HN2.out.ext (hE))
    replace HM2 := Aside0.mk (HM2.out.ext (hE))
    replace HU2 := Aside0.mk (HU2.out.ext (hE))
    replace LHN := Aside0.mk (lt_ext LHN.out (hE))
    replace LHM := Aside0.mk (lt_ext LHM.out (hE))
    replace LHU := Aside0.mk (lt_ext LHU.out (hE))
    replace LHN2 := Aside0.mk (lt_ext LHN2.out (hE))
    replace LHM2 := Aside0.mk (lt_ext LHM2.out (hE))
    replace LHU2 := Aside0.mk (lt_ext LHU2.out (hE))
    have hAp : ApS w.heap.size wl LB (six (Value.slice A_HN na.length c_HN) (Value.slice A_HM mb.length c_HM) (Value.slice A_HU us.length c_HU) (Value.slice A_HN2 na.length c_HN2) (Value.slice A_HM2 mb.length c_HM2) (Value.slice A_HU2 us.length c_HU2)) (six na mb us na mb us) := ⟨hRL, fun i hi => by
      match i, hi with
      | 0, _ => exact HN.out
      | 1, _ => exact HM.out
      | 2, _ => exact HU.out
      | 3, _ => exact HN2.out
      | 4, _ => exact HM2.out
      | 5, _ => exact HU2.out
      , fun i j hi hj hij => by
      match i, j, hi, hj, hij with
      | 0, 0, _, _, h => exact absurd rfl h
      | 0, 1, _, _, _ => exact S_HN_HM.out
      | 0, 2, _, _, _ => exact S_HN_HU.out
      | 0, 3, _, _, _ => exact S_HN_HN2.out
      | 0, 4, _, _, _ => exact S_HN_HM2.out
      | 0, 5, _, _, _ => exact S_HN_HU2.out
      | 1, 0, _, _, _ => exact S_HN_HM.out.symm
      | 1, 1, _, _, h => exact absurd rfl h
      | 1, 2, _, _, _ => exact S_HM_HU.out
      | 1, 3, _, _, _ => exact S_HM_HN2.out
      | 1, 4, _, _, _ => exact S_HM_HM2.out
      | 1, 5, _, _, _ => exact S_HM_HU2.out
      | 2, 0, _, _, _ => exact S_HN_HU.out.symm
      | 2, 1, _, _, _ => exact S_HM_HU.out.symm
      | 2, 2, _, _, h => exact absurd rfl h
      | 2, 3, _, _, _ => exact S_HU_HN2.out
      | 2, 4, _, _, _ => exact S_HU_HM2.out
      | 2, 5, _, _, _ => exact S_HU_HU2.out
      | 3, 0, _, _, _ => exact S_HN_HN2.out.symm
      | 3, 1, _, _, _ => exact S_HM_HN2.out.symm
      | 3, 2, _, _, _ => exact S_HU_HN2.out.symm
      | 3, 3, _, _, h => exact absurd rfl h
      | 3, 4, _, _, _ => exact S_HN2_HM2.out
      | 3, 5, _, _, _ => exact S_HN2_HU2.out
      | 4, 0, _, _, _ => exact S_HN_HM2.out.symm
      | 4, 1, _, _, _ => exact S_HM_HM2.out.symm
      | 4, 2, _, _, _ => exact S_HU_HM2.out.symm
      | 4, 3, _, _, _ => exact S_HN2_HM2.out.symm
      | 4, 4, _, _, h => exact absurd rfl h
      | 4, 5, _, _, _ => exact S_HM2_HU2.out
      | 5, 0, _, _, _ => exact S_HN_HU2.out.symm
      | 5, 1, _, _, _ => exact S_HM_HU2.out.symm
      | 5, 2, _, _, _ => exact S_HU_HU2.out.symm
      | 5, 3, _, _, _ => exact S_HN2_HU2.out.symm
      | 5, 4, _, _, _ => exact S_HM2_HU2.out.symm
      | 5, 5, _, _, h => exact absurd rfl h
      , by rw [hLB]; exact LEk.out⟩
    have HAP := Aside0.mk hAp
    clear hE hRL hAp hLB LEk
    refine (apart_calls wl w.heap.size LB (six (Value.slice A_HN na.length c_HN) (Value.slice A_HM mb.length c_HM) (Value.slice A_HU us.length c_HU) (Value.slice A_HN2 na.length c_HN2) (Value.slice A_HM2 mb.length c_HM2) (Value.slice A_HU2 us.length c_HU2)) (six na mb us na mb us) HAP.out (fun i hi => by
      have h1 := HNL.out; have h2 := HML.out; have h3 := HUL.out
      match i, hi with
      | 0, _ => show na.length ≤ _; omega
      | 1, _ => show mb.length ≤ _; omega
      | 2, _ => show us.length ≤ _; omega
      | 3, _ => show na.length ≤ _; omega
      | 4, _ => show mb.length ≤ _; omega
      | 5, _ => show us.length ≤ _; omega
      ) HE.out.size).mono ?_
    rintro e wA ⟨rfl, hKB⟩
    replace HE := Aside0.mk (show Ext w wA from KB.below hKB HE.out HE.out.size (fun k hk => by obtain ⟨i, hi, h⟩ := hk; exact own_base (HAP.out.own i hi) k h))
    replace HX := Aside0.mk (show Row wA XB (twoL A0 A1 A2 A3 c0 c1 c2 c3 p q f t o S) 31 by unfold Row; rw [hKB.block XB HX.out.lt (fun ⟨i, hi, h⟩ => by match i, hi, h with | 0, _, h => exact N_HN_XB.out _ h rfl | 1, _, h => exact N_HM_XB.out _ h rfl | 2, _, h => exact N_HU_XB.out _ h rfl | 3, _, h => exact N_HN2_XB.out _ h rfl | 4, _, h => exact N_HM2_XB.out _ h rfl | 5, _, h => exact N_HU2_XB.out _ h rfl)]; exact HX.out)
    replace HRa := Aside0.mk (HRa.out.keep (hKB.block ga HRa.out.lt (fun ⟨i, hi, h⟩ => by match i, hi, h with | 0, _, h => exact N_HN_ga.out _ h rfl | 1, _, h => exact N_HM_ga.out _ h rfl | 2, _, h => exact N_HU_ga.out _ h rfl | 3, _, h => exact N_HN2_ga.out _ h rfl | 4, _, h => exact N_HM2_ga.out _ h rfl | 5, _, h => exact N_HU2_ga.out _ h rfl)))
    replace HRb := Aside0.mk (HRb.out.keep (hKB.block gb HRb.out.lt (fun ⟨i, hi, h⟩ => by match i, hi, h with | 0, _, h => exact N_HN_gb.out _ h rfl | 1, _, h => exact N_HM_gb.out _ h rfl | 2, _, h => exact N_HU_gb.out _ h rfl | 3, _, h => exact N_HN2_gb.out _ h rfl | 4, _, h => exact N_HM2_gb.out _ h rfl | 5, _, h => exact N_HU2_gb.out _ h rfl)))
    replace HRf := Aside0.mk (HRf.out.keep (hKB.block gf HRf.out.lt (fun ⟨i, hi, h⟩ => by match i, hi, h with | 0, _, h => exact N_HN_gf.out _ h rfl | 1, _, h => exact N_HM_gf.out _ h rfl | 2, _, h => exact N_HU_gf.out _ h rfl | 3, _, h => exact N_HN2_gf.out _ h rfl | 4, _, h => exact N_HM2_gf.out _ h rfl | 5, _, h => exact N_HU2_gf.out _ h rfl)))
    replace HRt := Aside0.mk (HRt.out.keep (hKB.block gt HRt.out.lt (fun ⟨i, hi, h⟩ => by match i, hi, h with | 0, _, h => exact N_HN_gt.out _ h rfl | 1, _, h => exact N_HM_gt.out _ h rfl | 2, _, h => exact N_HU_gt.out _ h rfl | 3, _, h => exact N_HN2_gt.out _ h rfl | 4, _, h => exact N_HM2_gt.out _ h rfl | 5, _, h => exact N_HU2_gt.out _ h rfl)))
    clear hKB HAP HN HM HU HN2 HM2 HU2 LHN LHM LHU LHN2 LHM2 LHU2
    have x0 := HX.out.cell (show (twoL A0 A1 A2 A3 c0 c1 c2 c3 p q f t o S)[0]? = some (.slice A0 p.length c0) from rfl)
    go_wp2_with fail
    have hc := whole_calls _ ga ca p A0 c0 HRa.out (HA.out.ext HE.out)
    with_reducible refine hc.mono ?_
    clear hc
    rintro e w18 ⟨rfl, hE⟩
    replace HE := Aside0.mk (HE.out.trans (hE))
    replace HX := Aside0.mk (HX.out.ext (hE))
    replace HRa := Aside0.mk (HRa.out.ext (hE))
    replace HRb := Aside0.mk (HRb.out.ext (hE))
    replace HRf := Aside0.mk (HRf.out.ext (hE))
    replace HRt := Aside0.mk (HRt.out.ext (hE))
    clear hE
    clear x0
    have x1 := HX.out.cell (show (twoL A0 A1 A2 A3 c0 c1 c2 c3 p q f t o S)[1]? = some (.slice A1 q.length c1) from rfl)
    go_wp2_with fail
    have hc := whole_calls _ gb cb q A1 c1 HRb.out (HB.out.ext HE.out)
    with_reducible refine hc.mono ?_
    clear hc
    rintro e w19 ⟨rfl, hE⟩
    replace HE := Aside0.mk (HE.out.trans (hE))
    replace HX := Aside0.mk (HX.out.ext (hE))
    replace HRa := Aside0.mk (HRa.out.ext (hE))
    replace HRb := Aside0.mk (HRb.out.ext (hE))
    replace HRf := Aside0.mk (HRf.out.ext (hE))
    replace HRt := Aside0.mk (HRt.out.ext (hE))
    clear hE
    clear x1
    have x2 := HX.out.cell (show (twoL A0 A1 A2 A3 c0 c1 c2 c3 p q f t o S)[2]? = some (.slice A2 f.length c2) from rfl)
    go_wp2_with fail
    have hc := whole_calls _ gf cf f A2 c2 HRf.out (HF.out.ext HE.out)
    with_reducible refine hc.mono ?_
    clear hc
    rintro e w20 ⟨rfl, hE⟩
    replace HE := Aside0.mk (HE.out.trans (hE))
    replace HX := Aside0.mk (HX.out.ext (hE))
    replace HRa := Aside0.mk (HRa.out.ext (hE))
    replace HRb := Aside0.mk (HRb.out.ext (hE))
    replace HRf := Aside0.mk (HRf.out.ext (hE))
    replace HRt := Aside0.mk (HRt.out.ext (hE))
    clear hE
    clear x2
    have x3 := HX.out.cell (show (twoL A0 A1 A2 A3 c0 c1 c2 c3 p q f t o S)[3]? = some (.slice A3 t.length c3) from rfl)
    go_wp2_with fail
    have hc := whole_calls _ gt ct t A3 c3 HRt.out (HT.out.ext HE.out)
    with_reducible refine hc.mono ?_
    clear hc
    rintro e w21 ⟨rfl, hE⟩
    replace HE := Aside0.mk (HE.out.trans (hE))
    replace HX := Aside0.mk (HX.out.ext (hE))
    replace HRa := Aside0.mk (HRa.out.ext (hE))
    replace HRb := Aside0.mk (HRb.out.ext (hE))
    replace HRf := Aside0.mk (HRf.out.ext (hE))
    replace HRt := Aside0.mk (HRt.out.ext (hE))
    clear hE
    clear x3
    go_wp2_with fail
    refine (turn_calls _ ga ca p HRa.out).mono ?_
    rintro e wT ⟨rfl, hO, hR⟩
    have HRb2 := Aside0.mk (HRb.out.keep (hO.block gb HRb.out.lt hgab.symm))
    have HE2 := Aside0.mk (show Ext w wT from below_only HE.out hO (by have := HXB.out; omega) HE.out.size)
    have HRa2 := Aside0.mk hR
    clear hO hR
    go_wp2_with fail
    refine (turn_calls _ gb cb q HRb2.out).mono ?_
    rintro e wU ⟨rfl, hO, hR⟩
    clear HRa HRb HE
    have HRa := Aside0.mk (HRa2.out.keep (hO.block ga HRa2.out.lt hgab))
    have HE := Aside0.mk (show Ext w wU from below_only HE2.out hO (by have := HXB.out; omega) HE2.out.size)
    have HRb := Aside0.mk hR
    clear hO hR HRa2 HRb2 HE2
    obtain ⟨ta, hta⟩ : ∃ ta, ta = tn p := ⟨_, rfl⟩
    obtain ⟨tb, htb⟩ : ∃ tb, tb = tn q := ⟨_, rfl⟩
    have HTL := Aside0.mk (show ta.length = p.length by rw [hta]; exact tn_length p)
    have HTM := Aside0.mk (show tb.length = q.length by rw [htb]; exact tn_length q)
    rw [← hta] at HRa
    rw [← htb] at HRb
    clear hta htb
    obtain ⟨na2, hna⟩ : ∃ na2, na2 = toB (nibs (ints ta)) := ⟨_, rfl⟩
    obtain ⟨mb2, hmb⟩ : ∃ mb2, mb2 = toB (bytesSpec (ints tb)).1 := ⟨_, rfl⟩
    obtain ⟨eb2, heb⟩ : ∃ eb2, eb2 = (bytesSpec (ints tb)).2 := ⟨_, rfl⟩
    obtain ⟨hx2, hhx⟩ : ∃ hx2, hx2 = strOfNums ((nibs (ints ta)).map digC) := ⟨_, rfl⟩
    have HNA2 := Aside0.mk hna
    have HMB2 := Aside0.mk hmb
    have HEB2 := Aside0.mk heb
    have HHX2 := Aside0.mk hhx
    clear hna hmb heb hhx
    go_wp2_with fail
    have hc := rbytes_calls _ (some ⟨gb, 0, none⟩) cb (ints tb) HRb.out.rs (ints_BL tb) (by rw [ints_length, HTM.out]; omega)
    rw [← HMB2.out, ← HEB2.out, ints_length, HTM.out] at hc
    with_reducible refine hc.mono ?_
    clear hc
    rintro e w22 ⟨A_HP, c_HP, rfl, hO, hE⟩
    replace hO := Ob.lower hO HE.out.size
    replace HE := Aside0.mk (HE.out.trans (hE))
    replace HRa := Aside0.mk (HRa.out.ext (hE))
    replace HRb := Aside0.mk (HRb.out.ext (hE))
    have HP := Aside0.mk hO
    have LHP := Aside0.mk (hO.lt)
    clear hO hE
    go_wp2_with fail
    have hc := bytes_calls _ (some ⟨gb, 0, none⟩) cb (ints tb) HRb.out.rs (ints_BL tb) (by rw [ints_length, HTM.out]; omega)
    rw [← HMB2.out, ← HEB2.out, ints_length, HTM.out] at hc
    with_reducible refine hc.mono ?_
    clear hc
    rintro e w23 ⟨A_HM, c_HM, rfl, hO, hE⟩
    have N_HM_ga := Aside0.mk (show ∀ k, (Value.slice A_HM mb2.length c_HM).ownBlock = some k → k ≠ ga from fun k hk => by have h1 := HRa.out.lt; have h2 := own_base hO k hk; omega)
    have N_HM_gb := Aside0.mk (show ∀ k, (Value.slice A_HM mb2.length c_HM).ownBlock = some k → k ≠ gb from fun k hk => by have h1 := HRb.out.lt; have h2 := own_base hO k hk; omega)
    replace hO := Ob.lower hO HE.out.size
    replace HE := Aside0.mk (HE.out.trans (hE))
    replace HRa := Aside0.mk (HRa.out.ext (hE))
    replace HRb := Aside0.mk (HRb.out.ext (hE))
    replace HP := Aside0.mk (HP.out.ext (hE))
    replace LHP := Aside0.mk (lt_ext LHP.out (hE))
    have HM := Aside0.mk hO
    have LHM := Aside0.mk (hO.lt)
    clear hO hE
    go_wp2_with fail
    have hc := nibbles_calls _ (some ⟨ga, 0, none⟩) ca (ints ta) HRa.out.rs (ints_BL ta) (by rw [ints_length, HTL.out]; omega)
    rw [← HNA2.out, ints_length, HTL.out] at hc
    with_reducible refine hc.mono ?_
    clear hc
    rintro e w24 ⟨A_HN, c_HN, rfl, hO, hE⟩
    have S_HM_HN := Aside0.mk (show Sep (Value.slice A_HM mb2.length c_HM) (Value.slice A_HN na2.length c_HN) from fun k hk hk2 => by have h1 := LHM.out k hk; have h2 := own_base hO k hk2; omega)
    have N_HN_ga := Aside0.mk (show ∀ k, (Value.slice A_HN na2.length c_HN).ownBlock = some k → k ≠ ga from fun k hk => by have h1 := HRa.out.lt; have h2 := own_base hO k hk; omega)
    have N_HN_gb := Aside0.mk (show ∀ k, (Value.slice A_HN na2.length c_HN).ownBlock = some k → k ≠ gb from fun k hk => by have h1 := HRb.out.lt; have h2 := own_base hO k hk; omega)
    replace hO := Ob.lower hO HE.out.size
    replace HE := Aside0.mk (HE.out.trans (hE))
    replace HRa := Aside0.mk (HRa.out.ext (hE))
    replace HRb := Aside0.mk (HRb.out.ext (hE))
    replace HP := Aside0.mk (HP.out.ext (hE))
    replace HM := Aside0.mk (HM.out.ext (hE))
    replace LHP := Aside0.mk (lt_ext LHP.out (hE))
    replace LHM := Aside0.mk (lt_ext LHM.out (hE))
    have HN := Aside0.mk hO
    have LHN := Aside0.mk (hO.lt)
    clear hO hE
    go_wp2_with fail
    have hc := rnibbles_calls _ (some ⟨ga, 0, none⟩) ca (ints ta) HRa.out.rs (ints_BL ta) (by rw [ints_length, HTL.out]; omega)
    rw [← HNA2.out, ints_length, HTL.out] at hc
    with_reducible refine hc.mono ?_
    clear hc
    rintro e w25 ⟨A_HQ, c_HQ, rfl, hO, hE⟩
    replace hO := Ob.lower hO HE.out.size
    replace HE := Aside0.mk (HE.out.trans (hE))
    replace HRa := Aside0.mk (HRa.out.ext (hE))
    replace HRb := Aside0.mk (HRb.out.ext (hE))
    replace HP := Aside0.mk (HP.out.ext (hE))
    replace HM := Aside0.mk (HM.out.ext (hE))
    replace HN := Aside0.mk (HN.out.ext (hE))
    replace LHP := Aside0.mk (lt_ext LHP.out (hE))
    replace LHM := Aside0.mk (lt_ext LHM.out (hE))
    replace LHN := Aside0.mk (lt_ext LHN.out (hE))
    have HQ := Aside0.mk hO
    have LHQ := Aside0.mk (hO.lt)
    clear hO hE
    go_wp2_with fail
    have hc := same_calls _ A_HN A_HQ c_HN c_HQ (ints na2) (ints na2) (Ob.rs HN.out) (Ob.rs HQ.out)
    rw [ints_length, cmp_self] at hc
    with_reducible refine hc.mono ?_
    clear hc
    rintro e w26 ⟨rfl, hE⟩
    replace HE := Aside0.mk (HE.out.trans (hE))
    replace HRa := Aside0.mk (HRa.out.ext (hE))
    replace HRb := Aside0.mk (HRb.out.ext (hE))
    replace HP := Aside0.mk (HP.out.ext (hE))
    replace HM := Aside0.mk (HM.out.ext (hE))
    replace HN := Aside0.mk (HN.out.ext (hE))
    replace HQ := Aside0.mk (HQ.out.ext (hE))
    replace LHP := Aside0.mk (lt_ext LHP.out (hE))
    replace LHM := Aside0.mk (lt_ext LHM.out (hE))
    replace LHN := Aside0.mk (lt_ext LHN.out (hE))
    replace LHQ := Aside0.mk (lt_ext LHQ.out (hE))
    clear hE
    go_wp2_with fail
    have hc := same_calls _ A_HM A_HP c_HM c_HP (ints mb2) (ints mb2) (Ob.rs HM.out) (Ob.rs HP.out)
    rw [ints_length, cmp_self] at hc
    with_reducible refine hc.mono ?_
    clear hc
    rintro e w27 ⟨rfl, hE⟩
    replace HE := Aside0.mk (HE.out.trans (hE))
    replace HRa := Aside0.mk (HRa.out.ext (hE))
    replace HRb := Aside0.mk (HRb.out.ext (hE))
    replace HP := Aside0.mk (HP.out.ext (hE))
    replace HM := Aside0.mk (HM.out.ext (hE))
    replace HN := Aside0.mk (HN.out.ext (hE))
    replace HQ := Aside0.mk (HQ.out.ext (hE))
    replace LHP := Aside0.mk (lt_ext LHP.out (hE))
    replace LHM := Aside0.mk (lt_ext LHM.out (hE))
    replace LHN := Aside0.mk (lt_ext LHN.out (hE))
    replace LHQ := Aside0.mk (lt_ext LHQ.out (hE))
    clear hE
    obtain ⟨XY2, hXY⟩ : ∃ XY2 : Int, XY2 = ((com (ints ta) (ints tb) : Nat) : Int) := ⟨_, rfl⟩
    obtain ⟨CM2, hCM⟩ : ∃ CM2 : Int, CM2 = cmp (ints ta) (ints tb) := ⟨_, rfl⟩
    have HXY2 := Aside0.mk hXY
    have HCM2 := Aside0.mk hCM
    clear hXY hCM
    go_wp2_with fail
    have hc := common_calls _ (some ⟨ga, 0, none⟩) (some ⟨gb, 0, none⟩) ca cb (ints ta) (ints tb) HRa.out.rs HRb.out.rs
    rw [ints_length, ints_length, HTL.out, HTM.out, ← HXY2.out] at hc
    with_reducible refine hc.mono ?_
    clear hc
    rintro e w28 ⟨rfl, hE⟩
    replace HE := Aside0.mk (HE.out.trans (hE))
    replace HRa := Aside0.mk (HRa.out.ext (hE))
    replace HRb := Aside0.mk (HRb.out.ext (hE))
    clear hE
    go_wp2_with fail
    have hc := rcommon_calls _ (some ⟨ga, 0, none⟩) (some ⟨gb, 0, none⟩) ca cb (ints ta) (ints tb) HRa.out.rs HRb.out.rs
    rw [ints_length, ints_length, HTL.out, HTM.out, ← HXY2.out] at hc
    with_reducible refine hc.mono ?_
    clear hc
    rintro e w29 ⟨rfl, hE⟩
    replace HE := Aside0.mk (HE.out.trans (hE))
    replace HRa := Aside0.mk (HRa.out.ext (hE))
    replace HRb := Aside0.mk (HRb.out.ext (hE))
    clear hE
    go_wp2_with fail
    have hc := compare_calls _ (some ⟨ga, 0, none⟩) (some ⟨gb, 0, none⟩) ca cb (ints ta) (ints tb) HRa.out.rs HRb.out.rs
    rw [ints_length, ints_length, HTL.out, HTM.out, ← HCM2.out] at hc
    with_reducible refine hc.mono ?_
    clear hc
    rintro e w30 ⟨rfl, hE⟩
    replace HE := Aside0.mk (HE.out.trans (hE))
    replace HRa := Aside0.mk (HRa.out.ext (hE))
    replace HRb := Aside0.mk (HRb.out.ext (hE))
    clear hE
    go_wp2_with fail
    have hc := rcompare_calls _ (some ⟨ga, 0, none⟩) (some ⟨gb, 0, none⟩) ca cb (ints ta) (ints tb) HRa.out.rs HRb.out.rs
    rw [ints_length, ints_length, HTL.out, HTM.out, ← HCM2.out] at hc
    with_reducible refine hc.mono ?_
    clear hc
    rintro e w31 ⟨rfl, hE⟩
    replace HE := Aside0.mk (HE.out.trans (hE))
    replace HRa := Aside0.mk (HRa.out.ext (hE))
    replace HRb := Aside0.mk (HRb.out.ext (hE))
    clear hE
    go_wp2_with fail
    have hc := hex_calls _ (some ⟨ga, 0, none⟩) ca (ints ta) HRa.out.rs (ints_BL ta) (by rw [ints_length, HTL.out]; omega) (Glob.ext HG.out HE.out)
    rw [ints_length, HTL.out, ← HHX2.out] at hc
    with_reducible refine hc.mono ?_
    clear hc
    rintro e w32 ⟨rfl, hE⟩
    replace HE := Aside0.mk (HE.out.trans (hE))
    replace HRa := Aside0.mk (HRa.out.ext (hE))
    replace HRb := Aside0.mk (HRb.out.ext (hE))
    clear hE
    go_wp2_with fail
    have hc := refHex_calls _ (some ⟨ga, 0, none⟩) ca (ints ta) HRa.out.rs (ints_BL ta) (by rw [ints_length, HTL.out]; omega)
    rw [ints_length, HTL.out, ← HHX2.out] at hc
    with_reducible refine hc.mono ?_
    clear hc
    rintro e w33 ⟨rfl, hE⟩
    replace HE := Aside0.mk (HE.out.trans (hE))
    replace HRa := Aside0.mk (HRa.out.ext (hE))
    replace HRb := Aside0.mk (HRb.out.ext (hE))
    clear hE
    go_wp2_with fail
    have hc := fixed_calls _ (Glob.ext HG.out HE.out)
    with_reducible refine hc.mono ?_
    clear hc
    rintro e w34 ⟨rfl, hE⟩
    replace HE := Aside0.mk (HE.out.trans (hE))
    replace HRa := Aside0.mk (HRa.out.ext (hE))
    replace HRb := Aside0.mk (HRb.out.ext (hE))
    clear hE
    go_wp2
    go_ret
    exact ⟨rfl, HE.out⟩
end Go.Proofs.YthiedcebneejjaaDoor.Ord
set_option linter.unusedVariables false
set_option linter.unusedSimpArgs false
namespace Go.Proofs.YthiedcebneejjaaDoor.Open
open Go.ChangeShapes Go.WideShapes Go.ChangeAt Go.RowKit
open Go.Proofs.YthiedcebneejjaaDoorW.PrintWords

theorem bulk_one_le {H : Type} (d : DataW H) : 1 ≤ Rows.uptoBulk d := by
  cases d with
  | lit l => cases l <;> simp [Rows.uptoBulk]
  | nil => simp [Rows.uptoBulk]
  | ptr d => simp [Rows.uptoBulk]
  | slice elems spare => simp [Rows.uptoBulk]
  | agg parts => simp [Rows.uptoBulk]
  | iface t d => simp [Rows.uptoBulk]
  | map entries => simp [Rows.uptoBulk]
  | held h => simp [Rows.uptoBulk]
theorem bulk_part {H : Type} {d : DataW H} {l : List (DataW H)} (h : d ∈ l) : Rows.uptoBulk d ≤ Rows.uptoBulkAll l := by
  induction l with
  | nil => cases h
  | cons x r ih =>
    simp only [Rows.uptoBulkAll]
    cases List.mem_cons.1 h with
    | inl e => subst e; omega
    | inr e => have := ih e; omega
theorem bulk_length {H : Type} (l : List (DataW H)) : l.length ≤ Rows.uptoBulkAll l := by
  induction l with
  | nil => simp [Rows.uptoBulkAll]
  | cons x r ih => have := bulk_one_le x; simp only [Rows.uptoBulkAll, List.length_cons]; omega

variable {H : Type} {enc : TypeId × Value → H} {P : Program} {w : World}
/-- A slice of bytes in one cell: nil, or a row: how it reads, what its numbers are, how great it is. -/
theorem open_u8s {t e : TypeId} {fuel : Nat} {v : Value} {y : DataW H × List MemPlace} (ht : P.underlying t = some (.slice e)) (he : P.underlying e = some (.int .u8)) (hc : P.cellsOf e = 1)
    (h : DataW.trod enc P w 0 (fun _ => true) true fuel t [v] = some y) :
    ∃ (A : Option Addr) (c : Nat) (l : List Int), v = .slice A l.length c ∧ l.length ≤ c ∧ Kd.C (Kd.int .u8) w A l.length l ∧ (∀ x ∈ l, 0 ≤ x ∧ x ≤ 255) ∧ l.length ≤ Rows.uptoBulk y.1 := by
  rcases open_ints ht he hc h with ⟨hcs, hy⟩ | ⟨a, len, cap, zs, hcs, _, hl, hm, hz, hy, hcell, hwz⟩
  · simp only [List.cons.injEq, and_true] at hcs
    subst hcs
    obtain ⟨l, hll, hr, _, _, hcl⟩ := ReadsInt.ofRowC (k := .u8) (w := w) (a := none) (len := 0) (cap := 0) (zs := []) (.inl ⟨rfl, rfl, rfl, rfl⟩)
    obtain rfl : l = [] := List.eq_nil_of_length_eq_zero hll.symm
    exact ⟨none, 0, [], rfl, Nat.le_refl _, Kd.C_of_reads (d := (0 : Int)) (h1 := fun _ => rfl) hr, (fun x hx => by cases hx), Nat.zero_le _⟩
  · simp only [List.cons.injEq, and_true] at hcs
    subst hcs
    have hz' : zs.length = cap := by simpa using hz
    obtain ⟨l, hll, hr, _, hw, hcl⟩ := ReadsInt.ofRowC (k := .u8) (w := w) (a := some a) (len := len) (cap := cap) (zs := zs) (.inr ⟨a, rfl, hl, hm, hz', hcell, hwz⟩)
    subst hll
    refine ⟨some a, cap, l, rfl, hcl, Kd.C_of_reads (d := (0 : Int)) (h1 := fun _ => rfl) hr, fun x hx => ?_, ?_⟩
    · have := hw x hx
      simp [Lit.wf, IntKind.min, IntKind.max, IntKind.signed, IntKind.bits] at this
      omega
    · rw [hy]
      simp only [Rows.uptoBulk]
      have h1 := bulk_length (lits (H := H) .u8 (zs.take l.length))
      have h2 : (lits (H := H) .u8 (zs.take l.length)).length = l.length := by simp [lits]; omega
      omega
end Go.Proofs.YthiedcebneejjaaDoor.Open
set_option linter.unusedVariables false
set_option linter.unusedSimpArgs false
namespace Go.Proofs.YthiedcebneejjaaDoor.lawAll
open Go.ChangeShapes Go.WideShapes Go.ChangeAt Go.RowKit
open Go.Proofs.YthiedcebneejjaaDoor.Hand Go.Proofs.YthiedcebneejjaaDoor.B Go.Proofs.YthiedcebneejjaaDoor.Ord Go.Proofs.YthiedcebneejjaaDoor Go.Proofs.YthiedcebneejjaaDoorW.PrintWords

theorem own : ownKnob Tryd.prog.godebug = none := by kernel_rfl
theorem gTab : Tryd.prog.globalNamed "cairn/octet.digits" = some 0 := by kernel_rfl
theorem gTabType : (Tryd.prog.globals[0]?).map (·.type) = some 46 := by kernel_rfl
theorem cells46 : Tryd.prog.cellsOf 46 = 16 := by kernel_rfl
theorem cells4 : Tryd.prog.cellsOf 4 = 1 := by kernel_rfl
theorem cells9 : Tryd.prog.cellsOf 9 = 1 := by kernel_rfl
theorem cells29 : Tryd.prog.cellsOf 29 = 3 := by kernel_rfl
theorem cells5 : Tryd.prog.cellsOf 5 = 1 := by kernel_rfl

/-- what the row's list gives: the table of digits -/
theorem table {W : World} (h : laidMetH Tryd.prog Rows.octetAllUptoRow.laid W) : Lib.TabIs Tryd.prog W "cairn/octet.digits" .u8 ((List.range 16).map fun i : Nat => digC (i : Int)) :=
  Lib.tabIs_of_head (rest := []) gTab gTabType Tryd.underlying46 Tryd.underlying5 cells5 cells46 h
theorem glob {W : World} (h : laidMetH Tryd.prog Rows.octetAllUptoRow.laid W) : Glob W := ⟨fun j v hv => by
  have hj : j < 16 := by have := (List.getElem?_eq_some_iff.1 hv).1; simpa using this
  have hc := (table h).cell gTab j (by simpa using hj)
  rw [Nat.zero_add, hc]
  simp [hj] at hv
  simp [hj, ← hv]⟩

theorem laidOut : laidOutB Tryd.prog = true := by kernel_rfl
theorem contract (H : Type) (enc : TypeId × Value → H) (W : World) (base : Nat) (args : Array Value) (ds gs : List (DataW H)) (before : List MemPlace)
    (hval : ∀ (j : Nat) t v, Tryd.f5.params[j]? = some t → args[j]? = some v → Value.okWide Tryd.prog W .any base t v)
    (hW : DataW.Whole enc Tryd.prog Tryd.f5.params.toList Rows.octetAllSpec.vars false W args.toList ds gs before) (hk : Rows.uptoSmall H (ds ++ gs) = true) (hL : laidMetH Tryd.prog Rows.octetAllUptoRow.laid W) :
    Calls Tryd.prog 5 args W fun e W' => ∃ v, e = .returned v ∧ Rows.octetAllSpec.post enc Tryd.prog Tryd.f5 false true false false W args v W' := by
  have hW' := hW
  obtain ⟨p, q, hA0, hV, rfl, hfz, hnd⟩ := hW
  have hA : DataW.TrodAll enc Tryd.prog W 0 (fun _ => true) true Tryd.f5.params.toList args.toList ds p := hA0
  rw [Tryd.params5] at hA hval
  obtain ⟨v0, vs0, d0, ds0, p0, q0, hargs, rfl, rfl, h0, r0⟩ := trodAll_cons hA
  obtain ⟨rfl, rfl, rfl⟩ := trodAll_nil r0
  obtain rfl : args = #[v0] := by cases args; simp_all
  obtain ⟨rfl, rfl⟩ := trodVars_none hV
  have k0 := h0
  have lt0 : ∀ x ∈ p0, x.block < W.heap.size := by obtain ⟨m, hm⟩ := k0; exact DataW.trod_lt m _ _ _ hm
  have hb0 : Rows.uptoBulk d0 ≤ 1048576 := by
    have h := of_decide_eq_true hk
    simp only [List.append_nil, Rows.uptoBulkAll] at h
    omega
  clear hk
  -- the struct's fields
  obtain ⟨cs, rfl, hsz⟩ := okWide_struct Tryd.underlying31 (hval 0 31 v0 rfl rfl)
  rw [show Tryd.prog.cellsOf 31 = 6 by kernel_rfl] at hsz
  obtain ⟨c0, c1, c2, c3, c4, c5, rfl⟩ : ∃ c0 c1 c2 c3 c4 c5, cs = #[c0, c1, c2, c3, c4, c5] := by
    obtain ⟨l⟩ := cs
    match l, hsz with
    | [c0, c1, c2, c3, c4, c5], _ => exact ⟨c0, c1, c2, c3, c4, c5, rfl⟩
  obtain ⟨fuel, hf⟩ := h0
  obtain ⟨xs, n, _, hx, _, hlen, hfs⟩ := DataW.trod_struct Tryd.underlying31 hf
  obtain ⟨y0, y1, y2, y3, rfl⟩ : ∃ y0 y1 y2 y3, xs = [y0, y1, y2, y3] := by
    match xs, hlen with
    | [y0, y1, y2, y3], _ => exact ⟨y0, y1, y2, y3, rfl⟩
  have f0 := hfs 0 _ rfl
  have f1 := hfs 1 _ rfl
  have f2 := hfs 2 _ rfl
  have f3 := hfs 3 _ rfl
  simp only [show Tryd.prog.cellsOf 22 = 1 by kernel_rfl, show Tryd.prog.cellsOf 29 = 3 by kernel_rfl, show Tryd.prog.cellsOf 9 = 1 by kernel_rfl, Value.cells, List.drop_zero, List.drop_succ_cons, List.take_succ_cons, List.take_zero, List.getElem?_cons_zero, List.getElem?_cons_succ] at f0 f1 f2 f3
  obtain ⟨zs, n2, _, hy2, _, hlen2, hfs2⟩ := DataW.trod_struct Tryd.underlying29 f2
  obtain ⟨z0, z1, z2, rfl⟩ : ∃ z0 z1 z2, zs = [z0, z1, z2] := by
    match zs, hlen2 with
    | [z0, z1, z2], _ => exact ⟨z0, z1, z2, rfl⟩
  have g0 := hfs2 0 _ rfl
  have g1 := hfs2 1 _ rfl
  have g2 := hfs2 2 _ rfl
  simp only [show Tryd.prog.cellsOf 22 = 1 by kernel_rfl, show Tryd.prog.cellsOf 4 = 1 by kernel_rfl, List.drop_zero, List.drop_succ_cons, List.take_succ_cons, List.take_zero, List.getElem?_cons_zero, List.getElem?_cons_succ] at g0 g1 g2
  obtain ⟨A0, k0', l0, rfl, m0, R0, B0, S0⟩ := Open.open_u8s Tryd.underlying22 Tryd.underlying5 cells5 f0
  obtain ⟨A1, k1', l1, rfl, m1, R1, B1, S1⟩ := Open.open_u8s Tryd.underlying22 Tryd.underlying5 cells5 f1
  obtain ⟨A2, k2', l2, rfl, m2, R2, B2, S2⟩ := Open.open_u8s Tryd.underlying22 Tryd.underlying5 cells5 g0
  obtain ⟨A3, k3', l3, rfl, m3, R3, B3, S3⟩ := Open.open_u8s Tryd.underlying22 Tryd.underlying5 cells5 g1
  obtain ⟨b4, e4, rfl⟩ := DataW.trod_bool Tryd.underlying4 g2
  obtain ⟨s5, e5, rfl, hs5⟩ := DataW.trod_string Tryd.underlying9 f3
  obtain rfl : c4 = .bool b4 := by simpa [cells4, cells29] using e4
  obtain rfl : c5 = .string s5 := by simpa [cells9] using e5
  simp only [Prod.mk.injEq, List.map_cons, List.map_nil] at hx
  obtain ⟨hd, _⟩ := hx
  have hs : s5.size ≤ 1048576 ∧ l0.length ≤ 1048576 ∧ l1.length ≤ 1048576 ∧ l2.length ≤ 1048576 ∧ l3.length ≤ 1048576 := by
    have hy : y2.1 = .agg [z0.1, z1.1, .lit (.bool b4)] := by rw [hy2]; rfl
    rw [hd, hy] at hb0
    simp only [Rows.uptoBulk, Rows.uptoBulkAll] at hb0
    have : s5.data.toList.length = s5.size := by rw [Array.length_toList]; rfl
    omega
  have e0 := ints_toB l0 B0
  have e1 := ints_toB l1 B1
  have e2 := ints_toB l2 B2
  have e3 := ints_toB l3 B3
  have n0 := toB_length l0
  have n1 := toB_length l1
  have n2 := toB_length l2
  have n3 := toB_length l3
  have hc := all_calls W A0 A1 A2 A3 k0' k1' k2' k3' (toB l0) (toB l1) (toB l2) (toB l3) b4 s5 (glob hL) (by rw [e0]; exact ⟨R0, m0⟩) (by rw [e1]; exact ⟨R1, m1⟩) (by rw [e2]; exact ⟨R2, m2⟩) (by rw [e3]; exact ⟨R3, m3⟩) (by omega) (by omega) (by omega) (by omega) (by omega)
  rw [n0, n1, n2, n3] at hc
  clear hA0 hnd hfz
  refine hc.mono fun e W' ⟨he, bel⟩ => ?_
  subst he
  exact ⟨_, rfl, _, _, _, [], _, [], hW', trodAll_mk1 (shut_bool Tryd.underlying4 _), (trodAll_cons_mk (Below.trod laidOut (by kernel_rfl) (of_decide_eq_true (by kernel_rfl)) k0 bel lt0) trodAll_mk0), rfl, bel.frame _, fun h => by cases h⟩

/-- A world for the witness: the settled one, the table holding what its initialiser lays. -/
noncomputable def laidWorld (os : Os) : World :=
  { World.holding Tryd.prog os ⟨#[], #[], []⟩ with heap := (World.holding Tryd.prog os ⟨#[], #[], []⟩).heap.modify 0 fun
      | .cells _ t frozen => .cells ((List.range 16).map fun i : Nat => Value.int .u8 (digC (i : Int))).toArray t frozen
      | o => o }
theorem laid_met (os : Os) : laidMet Tryd.prog Rows.octetAllUptoRow.laid ((laidWorld os).forCall (fun _ _ => 0) ⟨#[], #[Value.agg #[.slice none 0 0, .slice none 0 0, .slice none 0 0, .slice none 0 0, .bool false, .string ByteArray.empty]], []⟩).memory :=
  laidMet_of_run' 8 (by kernel_rfl) (by kernel_rfl)
theorem reads (os : Os) {H : Type} (enc : TypeId × Value → H) : ∃ places, DataW.whole enc Tryd.prog ((laidWorld os).forCall (fun _ _ => 0) ⟨#[], #[Value.agg #[.slice none 0 0, .slice none 0 0, .slice none 0 0, .slice none 0 0, .bool false, .string ByteArray.empty]], []⟩).memory Tryd.f5.params.toList Rows.octetAllSpec.vars false (#[Value.agg #[.slice none 0 0, .slice none 0 0, .slice none 0 0, .slice none 0 0, .bool false, .string ByteArray.empty]] : Array Value).toList 8 = some ([.agg [.nil, .nil, .agg [.nil, .nil, .lit (.bool false)], .lit (.string [])]], [], places) :=
  ⟨[], by kernel_rfl⟩

set_option maxRecDepth 100000 in
theorem lifted (os : Os) (started : os.Started) (H : Type) (enc : TypeId × Value → H) (F : Stop.Interp) :
    ReturnsInHanded {} Tryd.checked os 5 .any ((Rows.OpenSpec.upto Rows.octetAllSpec).preRow enc Tryd.prog Tryd.f5 Rows.octetAllUptoRow.domain false Rows.octetAllUptoRow.laid) (((Rows.OpenSpec.upto Rows.octetAllSpec).at F).post enc Tryd.prog Tryd.f5 false true false false) := by
  obtain ⟨places, hx⟩ := reads os enc
  refine returnsInHanded_of_row (C := Tryd.checked) (s := Rows.OpenSpec.upto Rows.octetAllSpec) own started (by kernel_rfl) Tryd.func5
    (witness_row_at (enc := enc) (C := Tryd.checked) false (laidWorld os) #[Value.agg #[.slice none 0 0, .slice none 0 0, .slice none 0 0, .slice none 0 0, .bool false, .string ByteArray.empty]] rfl (by kernel_rfl) (by kernel_rfl) (by kernel_rfl)
      (OpenSpec.preRow_of_cond 8 hx (by kernel_rfl) (fun k hk => by cases hk; kernel_rfl) (by kernel_rfl) (laid_met os))) ?_
  intro W base args ds gs before hval hW _ hcond _ hL _ _
  exact contract H enc W base args ds gs before hval hW (hcond _ rfl) hL

theorem said : Rows.OctetAllUptoSaid :=
  OpenClaim.holds_of_cond 5 Tryd.f5 rfl rfl rfl rfl rfl rfl rfl ⟨rfl, rfl, rfl, rfl, rfl⟩ rfl rfl rfl rfl rfl (by kernel_rfl) Tryd.func5 (by kernel_rfl)
    (of_decide_eq_true (by kernel_rfl)) (by unfold Func.isWrapper; first | (rw [if_pos (by decide +kernel)]; kernel_rfl) | (rw [if_neg (by decide +kernel)]; exact ⟨rfl, rfl⟩))
    (fun os started H enc _ F => by rw [OpenClaim.pre_eq_preRow]; exact lifted os started H enc F)

theorem plain (f : FuncId) (fn : Func) (hf : Tryd.pinned.checked.prog.funcNamed "cairn/cairnlaw01.OctetAll" = some f) (hfn : Tryd.pinned.checked.prog.funcs[f]? = some fn) :
    false = Tryd.pinned.checked.prog.looks [] ∧ ∀ (j : Nat) t, fn.params[j]? = some t → Tryd.pinned.checked.prog.wantsStandIn t = false := by
  obtain rfl : f = 5 := Option.some.inj ((show Tryd.prog.funcNamed "cairn/cairnlaw01.OctetAll" = some 5 by kernel_rfl).symm.trans hf) |>.symm
  obtain rfl : fn = Tryd.f5 := (Option.some.inj (Tryd.func5.symm.trans hfn)).symm
  refine ⟨by kernel_rfl, fun j t ht => ?_⟩
  rw [Tryd.params5] at ht
  obtain rfl : t = 31 := by simpa using Array.mem_of_getElem? ht
  exact (show Tryd.prog.wantsStandIn 31 = false by kernel_rfl)

/-- the card -/
theorem card : Rows.OctetAllUptoCardSaid :=
  Claim7.holds_tied_plain_at .later [] _ _ _ _ said (fun _ h => by cases h) (by kernel_rfl) (fun _ h => by cases h) octetAllUpto_row_tie rfl ⟨rfl, rfl⟩ (by kernel_rfl) rfl plain (by kernel_rfl)
#print axioms card
end Go.Proofs.YthiedcebneejjaaDoor.lawAll
