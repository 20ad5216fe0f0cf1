
import Derived.Test.YthhemephaabblaaGreatDoorZCc
import Derived.Test.YthhemephaabblaaGreatDoorZCd
namespace Go.Proofs.YthhemephaabblaaGreatDoor.Q
open Go.RowKit  Go.Proofs.YthhemephaabblaaGreatDoorW.PrintWords Go.Proofs.YthhemephaabblaaGreatDoorW.PrintLast Go.Proofs.YthhemephaabblaaGreatDoorW.PrintMore
attribute [local go_sem] max2_int min2_int max_two min_two max_three min_three max_four min_four
set_option linter.unusedVariables false
set_option linter.unusedSimpArgs false
def query_reader_signed.l0 : Nat → Int → ByteArray → List ByteArray → Int → Int → ByteArray → Int → Int → ByteArray → Int → Value → ByteArray → Value → ByteArray → Bool → Int → Option (ByteArray × Int × Int × ByteArray × Int × ByteArray × ByteArray × Bool × Int)
 | 0, _, _, _, _, _, _, _, _, _, _, _, _, _, _, _, _ => none
 | k + 1, x1, x4, x9, x10, x11, x1000, x1001, x1002, x1003, x1004, x1005, x1006, x1007, x1008, x1009, x1010 => if x11 < x10 then (if 0 ≤ x11 then (if x11 < (x9.length : Int) then (if 0 ≤ x1 then (if x1 ≤ (x1000.size : Int) then ((strings_HasPrefix.f (x1000.extract (x1 : Int).toNat x1000.size) (rdOf ByteArray.empty x9 x11)).bind fun t160 => (if t160 = true then (if ((rdOf ByteArray.empty x9 x11).size : Int) > (x4.size : Int) then (query_reader_signed.l0 k x1 (rdOf ByteArray.empty x9 x11) x9 x10 (wrap64 (x11 + 1)) x1000 x1001 x1002 x1003 x1004 x1005 x1006 x1007 x1008 x1009 x1010) else (query_reader_signed.l0 k x1 x4 x9 x10 (wrap64 (x11 + 1)) x1000 x1001 x1002 x1003 x1004 x1005 x1006 x1007 x1008 x1009 x1010)) else (query_reader_signed.l0 k x1 x4 x9 x10 (wrap64 (x11 + 1)) x1000 x1001 x1002 x1003 x1004 x1005 x1006 x1007 x1008 x1009 x1010))) else (none)) else (none)) else (none)) else (none)) else (if x4.toList = ([] : List UInt8) then (some (x1000, wrap64 (x1 + (x4.size : Int)), 1, x4, x1, x1006, x1008, x1009, x1010)) else (some (x1000, wrap64 (x1 + (x4.size : Int)), 5, x4, x1, x1006, x1008, x1009, x1010)))
def query_reader_signed.f (k : Nat) (s0_0 : ByteArray) (s0_1 : Int) (s0_2 : Int) (s0_3 : ByteArray) (s0_4 : Int) (s0_5 : Value) (s0_6 : ByteArray) (s0_7 : Value) (s0_8 : ByteArray) (s0_9 : Bool) (s0_10 : Int) (a1 : Int) : Option (ByteArray × Int × Int × ByteArray × Int × ByteArray × ByteArray × Bool × Int) := (query_operators.f).bind fun t150 => ((some (([(⟨#[44]⟩ : ByteArray), (⟨#[42]⟩ : ByteArray)] : List ByteArray) : List ByteArray)).bind fun y153 => (if t150.length + y153.length < 8796093022208 then ((some (t150 ++ y153 : List ByteArray)).bind fun y156 => (query_reader_signed.l0 k a1 (⟨#[]⟩ : ByteArray) y156 (y156.length : Int) 0 s0_0 s0_1 s0_2 s0_3 s0_4 s0_5 s0_6 s0_7 s0_8 s0_9 s0_10)) else (none)))
theorem query_reader_signed.mono_l : ∀ k, (∀ y0 y1 y2 y3 y4 y5 y6 y7 y8 y9 y10 y11 y12 y13 y14 y15, LeO (query_reader_signed.l0 k y0 y1 y2 y3 y4 y5 y6 y7 y8 y9 y10 y11 y12 y13 y14 y15) (query_reader_signed.l0 (k + 1) y0 y1 y2 y3 y4 y5 y6 y7 y8 y9 y10 y11 y12 y13 y14 y15))
 | 0 => fun _ _ _ _ _ _ _ _ _ _ _ _ _ _ _ _ r h => by simp [query_reader_signed.l0] at h
 | k + 1 => by
  have ih0 := query_reader_signed.mono_l k
  ·
   intro y0 y1 y2 y3 y4 y5 y6 y7 y8 y9 y10 y11 y12 y13 y14 y15
   unfold query_reader_signed.l0
   repeat' first
   | (with_reducible exact ih0 _ _ _ _ _ _ _ _ _ _ _ _ _ _ _ _)
   | (with_reducible exact LeO.refl _)
   | (with_reducible exact LeO.none _)
   | (with_reducible refine LeO.ite ?_ ?_)
   | (with_reducible refine LeO.bind ?_ (fun _ => ?_))
   | exact ih0 _ _ _ _ _ _ _ _ _ _ _ _ _ _ _ _
   | exact LeO.none _
   | refine LeO.ite ?_ ?_
   | refine LeO.bind ?_ (fun _ => ?_)
theorem query_reader_signed.mono : ∀ a0 a1 a2 a3 a4 a5 a6 a7 a8 a9 a10 a11 k, LeO (query_reader_signed.f k a0 a1 a2 a3 a4 a5 a6 a7 a8 a9 a10 a11) (query_reader_signed.f (k + 1) a0 a1 a2 a3 a4 a5 a6 a7 a8 a9 a10 a11) := by
 intro a0 a1 a2 a3 a4 a5 a6 a7 a8 a9 a10 a11 k
 have ih0 := query_reader_signed.mono_l k
 unfold query_reader_signed.f
 repeat' first
   | (with_reducible exact ih0 _ _ _ _ _ _ _ _ _ _ _ _ _ _ _ _)
   | (with_reducible exact LeO.refl _)
   | (with_reducible exact LeO.none _)
   | (with_reducible refine LeO.ite ?_ ?_)
   | (with_reducible refine LeO.bind ?_ (fun _ => ?_))
   | exact ih0 _ _ _ _ _ _ _ _ _ _ _ _ _ _ _ _
   | exact LeO.none _
   | refine LeO.ite ?_ ?_
   | refine LeO.bind ?_ (fun _ => ?_)
set_option maxHeartbeats 8000000 in
set_option maxRecDepth 100000 in
theorem query_reader_signed.calls (k : Nat) (g : Nat) (s0_0 : ByteArray) (s0_1 : Int) (s0_2 : Int) (s0_3 : ByteArray) (s0_4 : Int) (s0_5 : Value) (s0_6 : ByteArray) (s0_7 : Value) (s0_8 : ByteArray) (s0_9 : Bool) (s0_10 : Int) (a1 : Int) (r1 : ByteArray) (r2 : Int) (r3 : Int) (r4 : ByteArray) (r5 : Int) (r6 : ByteArray) (r7 : ByteArray) (r8 : Bool) (r9 : Int) (w0 w : World) (hI : IsS60 w0 w g s0_0 s0_1 s0_2 s0_3 s0_4 s0_5 s0_6 s0_7 s0_8 s0_9 s0_10) (hB : Below w0.heap.size w0 w) (h : query_reader_signed.f k s0_0 s0_1 s0_2 s0_3 s0_4 s0_5 s0_6 s0_7 s0_8 s0_9 s0_10 a1 = some (r1, r2, r3, r4, r5, r6, r7, r8, r9)) :
  Calls Tryz.prog 68 #[.pointer (some ⟨g, 0, none⟩), .int .i64 a1] w fun e w' => e = .returned (.tuple #[]) ∧ IsS60 w0 w' g r1 r2 r3 r4 r5 s0_5 r6 s0_7 r7 r8 r9 ∧ Below w0.heap.size w0 w' ∧ KeepBut w w' g none := by
 have hu58 := Tryz.underlying58
 have HI0 := Aside0.mk hI
 have HK := Aside0.mk (KeepBut.refl w g none)
 have HL := Aside0.mk hB.size
 clear hI
 have HW0 := Aside0.mk hB.size
 have HB := Aside0.mk hB
 clear hB
 have H : ((query_operators.f).bind fun t150 => ((some (([(⟨#[44]⟩ : ByteArray), (⟨#[42]⟩ : ByteArray)] : List ByteArray) : List ByteArray)).bind fun y153 => (if t150.length + y153.length < 8796093022208 then ((some (t150 ++ y153 : List ByteArray)).bind fun y156 => (query_reader_signed.l0 k a1 (⟨#[]⟩ : ByteArray) y156 (y156.length : Int) 0 s0_0 s0_1 s0_2 s0_3 s0_4 s0_5 s0_6 s0_7 s0_8 s0_9 s0_10)) else (none)))) = some (r1, r2, r3, r4, r5, r6, r7, r8, r9) := h
 clear h
 replace H := Option.bind_eq_some_iff.mp H
 obtain ⟨t150, A30, H⟩ := H
 replace H : ((some (([(⟨#[44]⟩ : ByteArray), (⟨#[42]⟩ : ByteArray)] : List ByteArray) : List ByteArray)).bind fun y153 => (if t150.length + y153.length < 8796093022208 then ((some (t150 ++ y153 : List ByteArray)).bind fun y156 => (query_reader_signed.l0 k a1 (⟨#[]⟩ : ByteArray) y156 (y156.length : Int) 0 s0_0 s0_1 s0_2 s0_3 s0_4 s0_5 s0_6 s0_7 s0_8 s0_9 s0_10)) else (none))) = some (r1, r2, r3, r4, r5, r6, r7, r8, r9) := H
 have A3 := Aside0.mk A30
 clear A30
 obtain ⟨y153, hy153⟩ : ∃ y_ : List ByteArray, y_ = (([(⟨#[44]⟩ : ByteArray), (⟨#[42]⟩ : ByteArray)] : List ByteArray)) := ⟨_, rfl⟩
 replace H : (if t150.length + y153.length < 8796093022208 then ((some (t150 ++ y153 : List ByteArray)).bind fun y156 => (query_reader_signed.l0 k a1 (⟨#[]⟩ : ByteArray) y156 (y156.length : Int) 0 s0_0 s0_1 s0_2 s0_3 s0_4 s0_5 s0_6 s0_7 s0_8 s0_9 s0_10)) else (none)) = some (r1, r2, r3, r4, r5, r6, r7, r8, r9) := by first | (rw [hy153]; with_reducible exact H) | (have H2_ := (Option.bind_some _ _).symm.trans H; rw [hy153]; with_reducible exact H2_) | (have H2_ := (Option.bind_some _ _).symm.trans H; with_reducible exact H2_) | with_reducible exact H | (rw [hy153]; exact H) | exact H
 have Ny153 := Aside0.mk hy153
 clear hy153
 by_cases c4 : t150.length + y153.length < 8796093022208
 ·
  rw [if_pos c4] at H
  have LMc4 := Aside0.mk c4
  clear c4
  obtain ⟨y156, hy156⟩ : ∃ y_ : List ByteArray, y_ = (t150 ++ y153) := ⟨_, rfl⟩
  replace H : (query_reader_signed.l0 k a1 (⟨#[]⟩ : ByteArray) y156 (y156.length : Int) 0 s0_0 s0_1 s0_2 s0_3 s0_4 s0_5 s0_6 s0_7 s0_8 s0_9 s0_10) = some (r1, r2, r3, r4, r5, r6, r7, r8, r9) := by first | (rw [hy156]; with_reducible exact H) | (have H2_ := (Option.bind_some _ _).symm.trans H; rw [hy156]; with_reducible exact H2_) | (have H2_ := (Option.bind_some _ _).symm.trans H; with_reducible exact H2_) | with_reducible exact H | (rw [hy156]; exact H) | exact H
  have Ny156 := Aside0.mk hy156
  clear hy156
  have H' := Aside0.mk H
  clear H
  go_enter Tryz.func68, Tryz.ntmps68
  go_wp2_with (first | ((with_reducible refine gate_callee (f := 30) rfl ?_); refine goesL_ (some 7) rfl rfl Tryz.func30 (by kernel_rfl) rfl #[] rfl (by (try simp only [List.map_toArray, List.map_cons, List.map_nil]); first | done | rfl | (simp only [List.length_drop, List.length_take]; rfl)) ?_; (with_reducible refine (query_operators.calls  t150 _ A3.out).mono ?_); rintro e w5 ⟨v151, rfl, ho0, hb⟩; refine ⟨_, rfl, ?_⟩; have n0_ := Aside0.mk (Kd.R_lower ho0 (keep_size (w := w) (g := g) (row := none) (by repeat (first | (with_reducible first | exact HK.out | apply KeepBut.set_ | apply keep_drewN | apply keep_drew | apply keep_alloc) | exact HK.out)))); have n1_ := Aside0.mk (IsS60.below (by repeat (first | (with_reducible first | exact HI0.out | apply IsS60.alloc | apply IsS60.drewN | apply IsS60.drew | apply IsS60.set_0 | apply IsS60.set_1 | apply IsS60.set_2 | apply IsS60.set_3 | apply IsS60.set_4 | apply IsS60.set_6 | apply IsS60.set_8 | apply IsS60.set_9 | apply IsS60.set_10) | exact HI0.out)) hb); have n2_ := Aside0.mk (KeepBut.trans (by repeat (first | (with_reducible first | exact HK.out | apply KeepBut.set_ | apply keep_drewN | apply keep_drew | apply keep_alloc) | exact HK.out)) (KeepBut.of_below hb g none) (.inl rfl)); have n3_ := Aside0.mk (below_step (by repeat (first | (with_reducible first | exact HB.out | apply below_alloc | apply pw_below_drewN | apply below_drew1 | refine below_set ?_ (IsS60.ge HI0.out)) | exact HB.out)) hb); clear HI0; clear HK; clear HB; have HO152 := n0_; have HI0 := n1_; have HK := n2_; have HB := n3_; clear n0_ n1_ n2_ n3_; (try clear hb); (try clear hb2); (try clear hk); (try clear hi); (try clear ho0)) | ((with_reducible refine gate_dst (N := 8) rfl ?_); (try (refine gate_guard (by rfl) ?_; dsimp only)); refine Kd.R_lit Kd.string _ 9 ?hg (N := 8) ?hd (xs := ([(⟨#[44]⟩ : ByteArray), (⟨#[42]⟩ : ByteArray)] : List ByteArray)) (inner := [.string (⟨#[44]⟩ : ByteArray), .string (⟨#[42]⟩ : ByteArray)]) (ok := fun _ => True) (okp := fun _ => True) ?hr ?hp (fun _ hk => hk) trivial (Below.refl _ _) (Nat.le_refl _) (by simp) ?_; (case hd => rfl); (case hg => rfl); (case hr => first | (go_simp; done) | (go_simp; rfl)); (case hp => exact (Reps.one (show Kd.M Kd.string _ _ _ (⟨#[44]⟩ : ByteArray) [.string (⟨#[44]⟩ : ByteArray)] from rfl) (Reps.one (show Kd.M Kd.string _ _ _ (⟨#[42]⟩ : ByteArray) [.string (⟨#[42]⟩ : ByteArray)] from rfl) (Reps.none _ _)))); intro v154 w6 ho7 hb hg_ hnew_; clear hg_ hnew_; (first | rw [← Ny153.out] at ho7 | (simp only [Int.reduceToNat] at ho7; rw [← Ny153.out] at ho7)); have n0_ := Aside0.mk (Kd.R_elder' (by (with_reducible repeat (first | apply Kd.R_alloc | apply Kd.R_drewN | apply Kd.R_drew)); exact HO152.out) (Kd.R_base ho7) hb); have n1_ := Aside0.mk (Kd.R_lower (Kd.R_new' ho7 (Kd.R_lt (by (with_reducible repeat (first | apply Kd.R_alloc | apply Kd.R_drewN | apply Kd.R_drew)); exact HO152.out))) (keep_size (w := w) (g := g) (row := none) (by repeat (first | (with_reducible first | exact HK.out | apply KeepBut.set_ | apply keep_drewN | apply keep_drew | apply keep_alloc) | exact HK.out)))); have n2_ := Aside0.mk (IsS60.below (by repeat (first | (with_reducible first | exact HI0.out | apply IsS60.alloc | apply IsS60.drewN | apply IsS60.drew | apply IsS60.set_0 | apply IsS60.set_1 | apply IsS60.set_2 | apply IsS60.set_3 | apply IsS60.set_4 | apply IsS60.set_6 | apply IsS60.set_8 | apply IsS60.set_9 | apply IsS60.set_10) | exact HI0.out)) hb); have n3_ := Aside0.mk (KeepBut.trans (by repeat (first | (with_reducible first | exact HK.out | apply KeepBut.set_ | apply keep_drewN | apply keep_drew | apply keep_alloc) | exact HK.out)) (KeepBut.of_below hb g none) (.inl rfl)); have n4_ := Aside0.mk (below_step (by repeat (first | (with_reducible first | exact HB.out | apply below_alloc | apply pw_below_drewN | apply below_drew1 | refine below_set ?_ (IsS60.ge HI0.out)) | exact HB.out)) hb); clear HO152; clear HI0; clear HK; clear HB; have HO152 := n0_; have HO155 := n1_; have HI0 := n2_; have HK := n3_; have HB := n4_; clear n0_ n1_ n2_ n3_ n4_; clear hb ho7; obtain ⟨Ao9, co9, eo9⟩ := Kd.R_slice HO155.out; subst eo9) | ((with_reducible refine gate_builtin (b := .append) (xs := #[.tmp 7, .tmp 8]) rfl ?_); (try (refine gate_guard (by rfl) ?_; dsimp only)); at_builtin; refine Kd.R_append_rows Kd.string w.heap.size rfl (.tmp 7) (.tmp 8) 22 9 (.string ⟨#[]⟩) 16 rfl Tryz.underlying22 info9 rfl (by decide) (by omega) v151 t150 y153 _ _ _ (fun k_ => some k_ ≠ (.slice Ao9 y153.length co9 : Value).ownBlock) (fun _ => False) rfl rfl ?aO ?aR (fun _ _ h => h) (fun _ h => h.elim) ?aF (Below.refl _ _) ?aS ?aL ?_; (case aR => repeat (first | exact (Kd.R_reads' HO155.out).2.2 | (with_reducible refine Kd.C_alloc ?_ _) | (with_reducible refine Kd.C_drewN ?_ _) | (with_reducible refine Kd.C_drew ?_))); (case aF => exact (fun k_ hk => Kd.fresh' (Kd.R_lt (by (with_reducible repeat (first | apply Kd.R_alloc | apply Kd.R_drewN | apply Kd.R_drew)); exact HO155.out)) k_ hk)); (case aO => exact (by (with_reducible repeat (first | apply Kd.R_alloc | apply Kd.R_drewN | apply Kd.R_drew)); exact Kd.R_mono HO152.out (fun _ hk => hk.2))); (case aS => exact (keep_size (w := w) (g := g) (row := none) (by repeat (first | (with_reducible first | exact HK.out | apply KeepBut.set_ | apply keep_drewN | apply keep_drew | apply keep_alloc) | exact HK.out)))); (case aL => have := LMc4.out; omega); intro v157 w8 ho hb hg hat; rw [← Ny156.out] at ho; have n0_ := Aside0.mk (IsS60.grown (by repeat (first | (with_reducible first | exact HI0.out | apply IsS60.alloc | apply IsS60.drewN | apply IsS60.drew | apply IsS60.set_0 | apply IsS60.set_1 | apply IsS60.set_2 | apply IsS60.set_3 | apply IsS60.set_4 | apply IsS60.set_6 | apply IsS60.set_8 | apply IsS60.set_9 | apply IsS60.set_10) | exact HI0.out)) hg (IsS60.own_ne HI0.out HO152.out (by decide))); have n1_ := Aside0.mk (Kd.R_after (ok := (fun _ => True)) (by (with_reducible repeat (first | apply Kd.R_alloc | apply Kd.R_drewN | apply Kd.R_drew)); exact HO155.out) hg hat); have n2_ := Aside0.mk (below_weaken (by repeat (first | (with_reducible first | exact HB.out | apply below_alloc | apply pw_below_drewN | apply below_drew1 | refine below_set ?_ (IsS60.ge HI0.out)) | exact HB.out)) HL.out hb); have n3_ := Aside0.mk (KeepBut.trans (by repeat (first | (with_reducible first | exact HK.out | apply KeepBut.set_ | apply keep_drewN | apply keep_drew | apply keep_alloc) | exact HK.out)) (KeepBut.of_grown hg g) (Kd.R_base2 HO152.out)); have n4_ := Aside0.mk (ho); clear HI0; clear HO155; clear HB; clear HK; clear HO152; have HI0 := n0_; have HO155 := n1_; have HB := n2_; have HK := n3_; have HO158 := n4_; clear n0_ n1_ n2_ n3_ n4_; clear ho hb hg hat; obtain ⟨Ao10, co10, eo10⟩ := Kd.R_slice HO158.out; subst eo10))
  go_loopg [4, 11] k (fun kq v4 v11 w' => ∃ (x4_1 : ByteArray) (x11_1 : Int), v4 = .string x4_1 ∧ v11 = .int .i64 x11_1 ∧ Aside0 (query_reader_signed.l0 kq a1 x4_1 y156 (y156.length : Int) x11_1 s0_0 s0_1 s0_2 s0_3 s0_4 s0_5 s0_6 s0_7 s0_8 s0_9 s0_10 = some (r1, r2, r3, r4, r5, r6, r7, r8, r9)) ∧ Aside0 (kq ≤ k) ∧ Aside0 (Kd.R Kd.string 9 w' w.heap.size (fun _ => True) (.slice Ao10 y156.length co10) y156) ∧ Aside0 (IsS60 w0 w' g s0_0 s0_1 s0_2 s0_3 s0_4 s0_5 s0_6 s0_7 s0_8 s0_9 s0_10) ∧ Aside0 (KeepBut w w' g none) ∧ Aside0 (Below w0.heap.size w0 w'))
  case atStart => exact ⟨((⟨#[]⟩ : ByteArray)), (0), (by first | rfl | (simp; done) | (simp [*]; done)), (by first | rfl | (simp; done) | (simp [*]; done)), H', ⟨Nat.le_refl _⟩, ⟨by (with_reducible repeat (first | apply Kd.R_alloc | apply Kd.R_drewN | apply Kd.R_drew)); exact Kd.R_mono HO158.out (fun _ hk => trivial)⟩, ⟨by repeat (first | (with_reducible first | exact HI0.out | apply IsS60.alloc | apply IsS60.drewN | apply IsS60.drew | apply IsS60.set_0 | apply IsS60.set_1 | apply IsS60.set_2 | apply IsS60.set_3 | apply IsS60.set_4 | apply IsS60.set_6 | apply IsS60.set_8 | apply IsS60.set_9 | apply IsS60.set_10) | exact HI0.out)⟩, ⟨by repeat (first | (with_reducible first | exact HK.out | apply KeepBut.set_ | apply keep_drewN | apply keep_drew | apply keep_alloc) | exact HK.out)⟩, ⟨by repeat (first | (with_reducible first | exact HB.out | apply below_alloc | apply pw_below_drewN | apply below_drew1 | refine below_set ?_ (IsS60.ge HI0.out)) | exact HB.out)⟩⟩
  case round =>
   clear H'
   try clear c4
   obtain ⟨x4_1, x11_1, rfl, rfl, HA, HK1, HO_9, HI0, HK, HB⟩ := hrel
   cases gk with
   | zero => exact absurd HA.out (by simp [query_reader_signed.l0])
   | succ k1 =>
    have H := HA.out
    clear HA
    simp only [query_reader_signed.l0] at H
    by_cases c11 : x11_1 < (y156.length : Int)
    ·
     rw [if_pos c11] at H
     have c11b0 : decide (x11_1 < (y156.length : Int)) = true := decide_eq_true c11
     clear c11
     by_cases c12 : 0 ≤ x11_1
     ·
      rw [if_pos c12] at H
      have c12b0 : decide (0 ≤ x11_1) = true := decide_eq_true c12
      clear c12
      by_cases c13 : x11_1 < (y156.length : Int)
      ·
       rw [if_pos c13] at H
       have c13b0 : decide (x11_1 < (y156.length : Int)) = true := decide_eq_true c13
       clear c13
       by_cases c14 : 0 ≤ a1
       ·
        rw [if_pos c14] at H
        have c14b0 := eq_true c14
        have c14b1 : decide (0 ≤ a1) = true := decide_eq_true c14
        clear c14
        by_cases c15 : a1 ≤ (s0_0.size : Int)
        ·
         rw [if_pos c15] at H
         have c15b0 := eq_true c15
         have c15b1 : decide (a1 ≤ (s0_0.size : Int)) = true := decide_eq_true c15
         clear c15
         replace H := Option.bind_eq_some_iff.mp H
         obtain ⟨t160, A160, H⟩ := H
         replace H : (if t160 = true then (if ((rdOf ByteArray.empty y156 x11_1).size : Int) > (x4_1.size : Int) then (query_reader_signed.l0 k1 a1 (rdOf ByteArray.empty y156 x11_1) y156 (y156.length : Int) (wrap64 (x11_1 + 1)) s0_0 s0_1 s0_2 s0_3 s0_4 s0_5 s0_6 s0_7 s0_8 s0_9 s0_10) else (query_reader_signed.l0 k1 a1 x4_1 y156 (y156.length : Int) (wrap64 (x11_1 + 1)) s0_0 s0_1 s0_2 s0_3 s0_4 s0_5 s0_6 s0_7 s0_8 s0_9 s0_10)) else (query_reader_signed.l0 k1 a1 x4_1 y156 (y156.length : Int) (wrap64 (x11_1 + 1)) s0_0 s0_1 s0_2 s0_3 s0_4 s0_5 s0_6 s0_7 s0_8 s0_9 s0_10)) = some (r1, r2, r3, r4, r5, r6, r7, r8, r9) := H
         have A16 := Aside0.mk A160
         clear A160
         by_cases c17 : t160 = true
         ·
          subst c17
          have H1 : (if ((rdOf ByteArray.empty y156 x11_1).size : Int) > (x4_1.size : Int) then (query_reader_signed.l0 k1 a1 (rdOf ByteArray.empty y156 x11_1) y156 (y156.length : Int) (wrap64 (x11_1 + 1)) s0_0 s0_1 s0_2 s0_3 s0_4 s0_5 s0_6 s0_7 s0_8 s0_9 s0_10) else (query_reader_signed.l0 k1 a1 x4_1 y156 (y156.length : Int) (wrap64 (x11_1 + 1)) s0_0 s0_1 s0_2 s0_3 s0_4 s0_5 s0_6 s0_7 s0_8 s0_9 s0_10)) = some (r1, r2, r3, r4, r5, r6, r7, r8, r9) := by rw [if_pos rfl] at H; exact H
          clear H
          have H := H1
          clear H1
          by_cases c18 : ((rdOf ByteArray.empty y156 x11_1).size : Int) > (x4_1.size : Int)
          ·
           rw [if_pos c18] at H
           have c18b0 : decide ((x4_1.size : Int) < ((rdOf ByteArray.empty y156 x11_1).size : Int)) = true := decide_eq_true c18
           have c18b1 : decide (x4_1.size < (rdOf ByteArray.empty y156 x11_1).size) = true := decide_eq_true (Int.ofNat_lt.mp c18)
           clear c18
           have H' := Aside0.mk H
           clear H
           have p159 : 0 ≤ (x11_1 : Int) := of_decide_eq_true (by first | (with_reducible assumption) | assumption)
           have q159 : x11_1 < (y156.length : Int) := of_decide_eq_true (by first | (with_reducible assumption) | assumption)
           obtain ⟨ad159, e159, hx159_0⟩ := Kd.at_string (Kd.R_reads' HO_9.out).2.2 x11_1 p159 q159
           cases e159
           replace p159 := eq_true p159
           replace q159 := eq_true q159
           obtain ⟨HGz19, hgz19⟩ := HI0.out
           have hcz19_0 := cellS60_0 HGz19
           have hcz19_1 := cellS60_1 HGz19
           have hcz19_2 := cellS60_2 HGz19
           have hcz19_3 := cellS60_3 HGz19
           have hcz19_4 := cellS60_4 HGz19
           have hcz19_5 := cellS60_5 HGz19
           have hcz19_6 := cellS60_6 HGz19
           have hcz19_7 := cellS60_7 HGz19
           have hcz19_8 := cellS60_8 HGz19
           have hcz19_9 := cellS60_9 HGz19
           have hcz19_10 := cellS60_10 HGz19
           have hfz19_0 := blk_frozen HGz19 0
           have hfz19_1 := blk_frozen HGz19 1
           have hfz19_2 := blk_frozen HGz19 2
           have hfz19_3 := blk_frozen HGz19 3
           have hfz19_4 := blk_frozen HGz19 4
           have hfz19_6 := blk_frozen HGz19 6
           have hfz19_8 := blk_frozen HGz19 8
           have hfz19_9 := blk_frozen HGz19 9
           have hfz19_10 := blk_frozen HGz19 10
           clear HGz19 hgz19
           go_wp2_with (first | ((with_reducible refine gate_callee (f := 82) rfl ?_); refine goesL_ (some 22) rfl rfl Tryz.func82 (by kernel_rfl) rfl #[.string (s0_0.extract (a1 : Int).toNat s0_0.size), .string (rdOf ByteArray.empty y156 x11_1)] rfl (by (try simp only [List.map_toArray, List.map_cons, List.map_nil]); first | done | rfl | (simp only [List.length_drop, List.length_take]; rfl)) ?_; (with_reducible refine (strings_HasPrefix.calls (s0_0.extract (a1 : Int).toNat s0_0.size) (rdOf ByteArray.empty y156 x11_1) true _ A16.out).mono ?_); rintro e w' ⟨rfl, ⟨nd, rfl⟩⟩; refine ⟨_, rfl, ?_⟩))
           go_roundg k1
           case measure => have := HK1.out; omega
           case rel => exact ⟨(rdOf ByteArray.empty y156 x11_1), (wrap64 (x11_1 + 1)), (by first | rfl | (simp; done) | (simp [*]; done)), (by first | rfl | (simp; done) | (simp [*]; done)), H', ⟨by have := HK1.out; omega⟩, ⟨by (with_reducible repeat (first | apply Kd.R_alloc | apply Kd.R_drewN | apply Kd.R_drew)); exact HO_9.out⟩, ⟨by repeat (first | (with_reducible first | exact HI0.out | apply IsS60.alloc | apply IsS60.drewN | apply IsS60.drew | apply IsS60.set_0 | apply IsS60.set_1 | apply IsS60.set_2 | apply IsS60.set_3 | apply IsS60.set_4 | apply IsS60.set_6 | apply IsS60.set_8 | apply IsS60.set_9 | apply IsS60.set_10) | exact HI0.out)⟩, ⟨by repeat (first | (with_reducible first | exact HK.out | apply KeepBut.set_ | apply keep_drewN | apply keep_drew | apply keep_alloc) | exact HK.out)⟩, ⟨by repeat (first | (with_reducible first | exact HB.out | apply below_alloc | apply pw_below_drewN | apply below_drew1 | refine below_set ?_ (IsS60.ge HI0.out)) | exact HB.out)⟩⟩
          ·
           rw [if_neg c18] at H
           have c18b0 : decide ((x4_1.size : Int) < ((rdOf ByteArray.empty y156 x11_1).size : Int)) = false := decide_eq_false c18
           have c18b1 : decide (x4_1.size < (rdOf ByteArray.empty y156 x11_1).size) = false := decide_eq_false (fun h => c18 (Int.ofNat_lt.mpr h))
           clear c18
           have H' := Aside0.mk H
           clear H
           have p159 : 0 ≤ (x11_1 : Int) := of_decide_eq_true (by first | (with_reducible assumption) | assumption)
           have q159 : x11_1 < (y156.length : Int) := of_decide_eq_true (by first | (with_reducible assumption) | assumption)
           obtain ⟨ad159, e159, hx159_0⟩ := Kd.at_string (Kd.R_reads' HO_9.out).2.2 x11_1 p159 q159
           cases e159
           replace p159 := eq_true p159
           replace q159 := eq_true q159
           obtain ⟨HGz20, hgz20⟩ := HI0.out
           have hcz20_0 := cellS60_0 HGz20
           have hcz20_1 := cellS60_1 HGz20
           have hcz20_2 := cellS60_2 HGz20
           have hcz20_3 := cellS60_3 HGz20
           have hcz20_4 := cellS60_4 HGz20
           have hcz20_5 := cellS60_5 HGz20
           have hcz20_6 := cellS60_6 HGz20
           have hcz20_7 := cellS60_7 HGz20
           have hcz20_8 := cellS60_8 HGz20
           have hcz20_9 := cellS60_9 HGz20
           have hcz20_10 := cellS60_10 HGz20
           have hfz20_0 := blk_frozen HGz20 0
           have hfz20_1 := blk_frozen HGz20 1
           have hfz20_2 := blk_frozen HGz20 2
           have hfz20_3 := blk_frozen HGz20 3
           have hfz20_4 := blk_frozen HGz20 4
           have hfz20_6 := blk_frozen HGz20 6
           have hfz20_8 := blk_frozen HGz20 8
           have hfz20_9 := blk_frozen HGz20 9
           have hfz20_10 := blk_frozen HGz20 10
           clear HGz20 hgz20
           go_wp2_with (first | ((with_reducible refine gate_callee (f := 82) rfl ?_); refine goesL_ (some 22) rfl rfl Tryz.func82 (by kernel_rfl) rfl #[.string (s0_0.extract (a1 : Int).toNat s0_0.size), .string (rdOf ByteArray.empty y156 x11_1)] rfl (by (try simp only [List.map_toArray, List.map_cons, List.map_nil]); first | done | rfl | (simp only [List.length_drop, List.length_take]; rfl)) ?_; (with_reducible refine (strings_HasPrefix.calls (s0_0.extract (a1 : Int).toNat s0_0.size) (rdOf ByteArray.empty y156 x11_1) true _ A16.out).mono ?_); rintro e w' ⟨rfl, ⟨nd, rfl⟩⟩; refine ⟨_, rfl, ?_⟩))
           go_roundg k1
           case measure => have := HK1.out; omega
           case rel => exact ⟨(x4_1), (wrap64 (x11_1 + 1)), (by first | rfl | (simp; done) | (simp [*]; done)), (by first | rfl | (simp; done) | (simp [*]; done)), H', ⟨by have := HK1.out; omega⟩, ⟨by (with_reducible repeat (first | apply Kd.R_alloc | apply Kd.R_drewN | apply Kd.R_drew)); exact HO_9.out⟩, ⟨by repeat (first | (with_reducible first | exact HI0.out | apply IsS60.alloc | apply IsS60.drewN | apply IsS60.drew | apply IsS60.set_0 | apply IsS60.set_1 | apply IsS60.set_2 | apply IsS60.set_3 | apply IsS60.set_4 | apply IsS60.set_6 | apply IsS60.set_8 | apply IsS60.set_9 | apply IsS60.set_10) | exact HI0.out)⟩, ⟨by repeat (first | (with_reducible first | exact HK.out | apply KeepBut.set_ | apply keep_drewN | apply keep_drew | apply keep_alloc) | exact HK.out)⟩, ⟨by repeat (first | (with_reducible first | exact HB.out | apply below_alloc | apply pw_below_drewN | apply below_drew1 | refine below_set ?_ (IsS60.ge HI0.out)) | exact HB.out)⟩⟩
         ·
          replace c17 := Bool.eq_false_iff.mpr c17
          subst c17
          have H1 : (query_reader_signed.l0 k1 a1 x4_1 y156 (y156.length : Int) (wrap64 (x11_1 + 1)) s0_0 s0_1 s0_2 s0_3 s0_4 s0_5 s0_6 s0_7 s0_8 s0_9 s0_10) = some (r1, r2, r3, r4, r5, r6, r7, r8, r9) := by rw [if_neg (show ¬ (false = true) by decide)] at H; exact H
          clear H
          have H := H1
          clear H1
          have H' := Aside0.mk H
          clear H
          have p159 : 0 ≤ (x11_1 : Int) := of_decide_eq_true (by first | (with_reducible assumption) | assumption)
          have q159 : x11_1 < (y156.length : Int) := of_decide_eq_true (by first | (with_reducible assumption) | assumption)
          obtain ⟨ad159, e159, hx159_0⟩ := Kd.at_string (Kd.R_reads' HO_9.out).2.2 x11_1 p159 q159
          cases e159
          replace p159 := eq_true p159
          replace q159 := eq_true q159
          obtain ⟨HGz21, hgz21⟩ := HI0.out
          have hcz21_0 := cellS60_0 HGz21
          have hcz21_1 := cellS60_1 HGz21
          have hcz21_2 := cellS60_2 HGz21
          have hcz21_3 := cellS60_3 HGz21
          have hcz21_4 := cellS60_4 HGz21
          have hcz21_5 := cellS60_5 HGz21
          have hcz21_6 := cellS60_6 HGz21
          have hcz21_7 := cellS60_7 HGz21
          have hcz21_8 := cellS60_8 HGz21
          have hcz21_9 := cellS60_9 HGz21
          have hcz21_10 := cellS60_10 HGz21
          have hfz21_0 := blk_frozen HGz21 0
          have hfz21_1 := blk_frozen HGz21 1
          have hfz21_2 := blk_frozen HGz21 2
          have hfz21_3 := blk_frozen HGz21 3
          have hfz21_4 := blk_frozen HGz21 4
          have hfz21_6 := blk_frozen HGz21 6
          have hfz21_8 := blk_frozen HGz21 8
          have hfz21_9 := blk_frozen HGz21 9
          have hfz21_10 := blk_frozen HGz21 10
          clear HGz21 hgz21
          go_wp2_with (first | ((with_reducible refine gate_callee (f := 82) rfl ?_); refine goesL_ (some 22) rfl rfl Tryz.func82 (by kernel_rfl) rfl #[.string (s0_0.extract (a1 : Int).toNat s0_0.size), .string (rdOf ByteArray.empty y156 x11_1)] rfl (by (try simp only [List.map_toArray, List.map_cons, List.map_nil]); first | done | rfl | (simp only [List.length_drop, List.length_take]; rfl)) ?_; (with_reducible refine (strings_HasPrefix.calls (s0_0.extract (a1 : Int).toNat s0_0.size) (rdOf ByteArray.empty y156 x11_1) false _ A16.out).mono ?_); rintro e w' ⟨rfl, ⟨nd, rfl⟩⟩; refine ⟨_, rfl, ?_⟩))
          go_roundg k1
          case measure => have := HK1.out; omega
          case rel => exact ⟨(x4_1), (wrap64 (x11_1 + 1)), (by first | rfl | (simp; done) | (simp [*]; done)), (by first | rfl | (simp; done) | (simp [*]; done)), H', ⟨by have := HK1.out; omega⟩, ⟨by (with_reducible repeat (first | apply Kd.R_alloc | apply Kd.R_drewN | apply Kd.R_drew)); exact HO_9.out⟩, ⟨by repeat (first | (with_reducible first | exact HI0.out | apply IsS60.alloc | apply IsS60.drewN | apply IsS60.drew | apply IsS60.set_0 | apply IsS60.set_1 | apply IsS60.set_2 | apply IsS60.set_3 | apply IsS60.set_4 | apply IsS60.set_6 | apply IsS60.set_8 | apply IsS60.set_9 | apply IsS60.set_10) | exact HI0.out)⟩, ⟨by repeat (first | (with_reducible first | exact HK.out | apply KeepBut.set_ | apply keep_drewN | apply keep_drew | apply keep_alloc) | exact HK.out)⟩, ⟨by repeat (first | (with_reducible first | exact HB.out | apply below_alloc | apply pw_below_drewN | apply below_drew1 | refine below_set ?_ (IsS60.ge HI0.out)) | exact HB.out)⟩⟩
        ·
         rw [if_neg c15] at H
         exact absurd H (by simp)
       ·
        rw [if_neg c14] at H
        exact absurd H (by simp)
      ·
       rw [if_neg c13] at H
       exact absurd H (by simp)
     ·
      rw [if_neg c12] at H
      exact absurd H (by simp)
    ·
     rw [if_neg c11] at H
     have c11b0 : decide (x11_1 < (y156.length : Int)) = false := decide_eq_false c11
     clear c11
     by_cases c22 : x4_1.toList = ([] : List UInt8)
     ·
      rw [if_pos c22] at H
      have c22b0 : (x4_1.toList == ([] : List UInt8)) = true := beq_iff_eq.mpr c22
      have c22b1 : (x4_1.toList != ([] : List UInt8)) = false := bne_eq_false_iff_eq.mpr c22
      clear c22
      simp only [Option.some.injEq, Prod.mk.injEq] at H
      obtain ⟨rfl, rfl, rfl, rfl, rfl, rfl, rfl, rfl, rfl⟩ := H
      obtain ⟨HGz23, hgz23⟩ := HI0.out
      have hcz23_0 := cellS60_0 HGz23
      have hcz23_1 := cellS60_1 HGz23
      have hcz23_2 := cellS60_2 HGz23
      have hcz23_3 := cellS60_3 HGz23
      have hcz23_4 := cellS60_4 HGz23
      have hcz23_5 := cellS60_5 HGz23
      have hcz23_6 := cellS60_6 HGz23
      have hcz23_7 := cellS60_7 HGz23
      have hcz23_8 := cellS60_8 HGz23
      have hcz23_9 := cellS60_9 HGz23
      have hcz23_10 := cellS60_10 HGz23
      have hfz23_0 := blk_frozen HGz23 0
      have hfz23_1 := blk_frozen HGz23 1
      have hfz23_2 := blk_frozen HGz23 2
      have hfz23_3 := blk_frozen HGz23 3
      have hfz23_4 := blk_frozen HGz23 4
      have hfz23_6 := blk_frozen HGz23 6
      have hfz23_8 := blk_frozen HGz23 8
      have hfz23_9 := blk_frozen HGz23 9
      have hfz23_10 := blk_frozen HGz23 10
      clear HGz23 hgz23
      go_wp2
      first | go_end0 | ((try simp only [Exit.inBlock, Exit.then]); refine bodyPost_ret (results_none rfl _ _ _) rfl ?_)
      exact ⟨by first | rfl | (simp [errW_none, errW_some] <;> rfl) | (simp [*, errW_none, errW_some] <;> rfl), by repeat (first | (with_reducible first | exact HI0.out | apply IsS60.alloc | apply IsS60.drewN | apply IsS60.drew | apply IsS60.set_0 | apply IsS60.set_1 | apply IsS60.set_2 | apply IsS60.set_3 | apply IsS60.set_4 | apply IsS60.set_6 | apply IsS60.set_8 | apply IsS60.set_9 | apply IsS60.set_10) | exact HI0.out), by repeat (first | (with_reducible first | exact HB.out | apply below_alloc | apply pw_below_drewN | apply below_drew1 | refine below_set ?_ (IsS60.ge HI0.out)) | exact HB.out), by repeat (first | (with_reducible first | exact HK.out | apply KeepBut.set_ | apply keep_drewN | apply keep_drew | apply keep_alloc) | exact HK.out)⟩
     ·
      rw [if_neg c22] at H
      have c22b0 : (x4_1.toList == ([] : List UInt8)) = false := beq_eq_false_iff_ne.mpr c22
      have c22b1 : (x4_1.toList != ([] : List UInt8)) = true := bne_iff_ne.mpr c22
      simp only [Option.some.injEq, Prod.mk.injEq] at H
      obtain ⟨rfl, rfl, rfl, rfl, rfl, rfl, rfl, rfl, rfl⟩ := H
      obtain ⟨HGz24, hgz24⟩ := HI0.out
      have hcz24_0 := cellS60_0 HGz24
      have hcz24_1 := cellS60_1 HGz24
      have hcz24_2 := cellS60_2 HGz24
      have hcz24_3 := cellS60_3 HGz24
      have hcz24_4 := cellS60_4 HGz24
      have hcz24_5 := cellS60_5 HGz24
      have hcz24_6 := cellS60_6 HGz24
      have hcz24_7 := cellS60_7 HGz24
      have hcz24_8 := cellS60_8 HGz24
      have hcz24_9 := cellS60_9 HGz24
      have hcz24_10 := cellS60_10 HGz24
      have hfz24_0 := blk_frozen HGz24 0
      have hfz24_1 := blk_frozen HGz24 1
      have hfz24_2 := blk_frozen HGz24 2
      have hfz24_3 := blk_frozen HGz24 3
      have hfz24_4 := blk_frozen HGz24 4
      have hfz24_6 := blk_frozen HGz24 6
      have hfz24_8 := blk_frozen HGz24 8
      have hfz24_9 := blk_frozen HGz24 9
      have hfz24_10 := blk_frozen HGz24 10
      clear HGz24 hgz24
      go_wp2
      first | go_end0 | ((try simp only [Exit.inBlock, Exit.then]); refine bodyPost_ret (results_none rfl _ _ _) rfl ?_)
      exact ⟨by first | rfl | (simp [errW_none, errW_some] <;> rfl) | (simp [*, errW_none, errW_some] <;> rfl), by repeat (first | (with_reducible first | exact HI0.out | apply IsS60.alloc | apply IsS60.drewN | apply IsS60.drew | apply IsS60.set_0 | apply IsS60.set_1 | apply IsS60.set_2 | apply IsS60.set_3 | apply IsS60.set_4 | apply IsS60.set_6 | apply IsS60.set_8 | apply IsS60.set_9 | apply IsS60.set_10) | exact HI0.out), by repeat (first | (with_reducible first | exact HB.out | apply below_alloc | apply pw_below_drewN | apply below_drew1 | refine below_set ?_ (IsS60.ge HI0.out)) | exact HB.out), by repeat (first | (with_reducible first | exact HK.out | apply KeepBut.set_ | apply keep_drewN | apply keep_drew | apply keep_alloc) | exact HK.out)⟩
 ·
  rw [if_neg c4] at H
  exact absurd H (by simp)
def query_reader_is.f (s0_0 : ByteArray) (s0_1 : Int) (s0_2 : Int) (s0_3 : ByteArray) (s0_4 : Int) (s0_5 : Value) (s0_6 : ByteArray) (s0_7 : Value) (s0_8 : ByteArray) (s0_9 : Bool) (s0_10 : Int) (a1 : Int) (a2 : ByteArray) : Option (Bool × ByteArray × Int × Int × ByteArray × Int × ByteArray × ByteArray × Bool × Int) := if s0_2 = a1 then (some ((s0_3.toList == a2.toList), s0_0, s0_1, s0_2, s0_3, s0_4, s0_6, s0_8, s0_9, s0_10)) else (some (false, s0_0, s0_1, s0_2, s0_3, s0_4, s0_6, s0_8, s0_9, s0_10))
set_option maxHeartbeats 8000000 in
set_option maxRecDepth 100000 in
theorem query_reader_is.calls (g : Nat) (s0_0 : ByteArray) (s0_1 : Int) (s0_2 : Int) (s0_3 : ByteArray) (s0_4 : Int) (s0_5 : Value) (s0_6 : ByteArray) (s0_7 : Value) (s0_8 : ByteArray) (s0_9 : Bool) (s0_10 : Int) (a1 : Int) (a2 : ByteArray) (r1 : Bool) (r2 : ByteArray) (r3 : Int) (r4 : Int) (r5 : ByteArray) (r6 : Int) (r7 : ByteArray) (r8 : ByteArray) (r9 : Bool) (r10 : Int) (w0 w : World) (hI : IsS60 w0 w g s0_0 s0_1 s0_2 s0_3 s0_4 s0_5 s0_6 s0_7 s0_8 s0_9 s0_10) (hB : Below w0.heap.size w0 w) (h : query_reader_is.f s0_0 s0_1 s0_2 s0_3 s0_4 s0_5 s0_6 s0_7 s0_8 s0_9 s0_10 a1 a2 = some (r1, r2, r3, r4, r5, r6, r7, r8, r9, r10)) :
  Calls Tryz.prog 69 #[.pointer (some ⟨g, 0, none⟩), .int .i64 a1, .string a2] w fun e w' => e = .returned (.bool r1) ∧ IsS60 w0 w' g r2 r3 r4 r5 r6 s0_5 r7 s0_7 r8 r9 r10 ∧ Below w0.heap.size w0 w' ∧ KeepBut w w' g none := by
 have HI0 := Aside0.mk hI
 have HK := Aside0.mk (KeepBut.refl w g none)
 have HL := Aside0.mk hB.size
 clear hI
 have HW0 := Aside0.mk hB.size
 have HB := Aside0.mk hB
 clear hB
 have H : (if s0_2 = a1 then (some ((s0_3.toList == a2.toList), s0_0, s0_1, s0_2, s0_3, s0_4, s0_6, s0_8, s0_9, s0_10)) else (some (false, s0_0, s0_1, s0_2, s0_3, s0_4, s0_6, s0_8, s0_9, s0_10))) = some (r1, r2, r3, r4, r5, r6, r7, r8, r9, r10) := h
 clear h
 by_cases c4 : s0_2 = a1
 ·
  rw [if_pos c4] at H
  have c4b0 : (s0_2 == a1) = true := beq_iff_eq.mpr c4
  have c4b1 : (s0_2 != a1) = false := bne_eq_false_iff_eq.mpr c4
  clear c4
  simp only [Option.some.injEq, Prod.mk.injEq] at H
  obtain ⟨rfl, rfl, rfl, rfl, rfl, rfl, rfl, rfl, rfl, rfl⟩ := H
  obtain ⟨HGz5, hgz5⟩ := HI0.out
  have hcz5_0 := cellS60_0 HGz5
  have hcz5_1 := cellS60_1 HGz5
  have hcz5_2 := cellS60_2 HGz5
  have hcz5_3 := cellS60_3 HGz5
  have hcz5_4 := cellS60_4 HGz5
  have hcz5_5 := cellS60_5 HGz5
  have hcz5_6 := cellS60_6 HGz5
  have hcz5_7 := cellS60_7 HGz5
  have hcz5_8 := cellS60_8 HGz5
  have hcz5_9 := cellS60_9 HGz5
  have hcz5_10 := cellS60_10 HGz5
  have hfz5_0 := blk_frozen HGz5 0
  have hfz5_1 := blk_frozen HGz5 1
  have hfz5_2 := blk_frozen HGz5 2
  have hfz5_3 := blk_frozen HGz5 3
  have hfz5_4 := blk_frozen HGz5 4
  have hfz5_6 := blk_frozen HGz5 6
  have hfz5_8 := blk_frozen HGz5 8
  have hfz5_9 := blk_frozen HGz5 9
  have hfz5_10 := blk_frozen HGz5 10
  clear HGz5 hgz5
  go_enter Tryz.func69, Tryz.ntmps69
  go_wp2
  go_ret
  exact ⟨by first | rfl | (simp [errW_none, errW_some] <;> rfl) | (simp [*, errW_none, errW_some] <;> rfl), by repeat (first | (with_reducible first | exact HI0.out | apply IsS60.alloc | apply IsS60.drewN | apply IsS60.drew | apply IsS60.set_0 | apply IsS60.set_1 | apply IsS60.set_2 | apply IsS60.set_3 | apply IsS60.set_4 | apply IsS60.set_6 | apply IsS60.set_8 | apply IsS60.set_9 | apply IsS60.set_10) | exact HI0.out), by repeat (first | (with_reducible first | exact HB.out | apply below_alloc | apply pw_below_drewN | apply below_drew1 | refine below_set ?_ (IsS60.ge HI0.out)) | exact HB.out), by repeat (first | (with_reducible first | exact HK.out | apply KeepBut.set_ | apply keep_drewN | apply keep_drew | apply keep_alloc) | exact HK.out)⟩
 ·
  rw [if_neg c4] at H
  have c4b0 : (s0_2 == a1) = false := beq_eq_false_iff_ne.mpr c4
  have c4b1 : (s0_2 != a1) = true := bne_iff_ne.mpr c4
  simp only [Option.some.injEq, Prod.mk.injEq] at H
  obtain ⟨rfl, rfl, rfl, rfl, rfl, rfl, rfl, rfl, rfl, rfl⟩ := H
  obtain ⟨HGz6, hgz6⟩ := HI0.out
  have hcz6_0 := cellS60_0 HGz6
  have hcz6_1 := cellS60_1 HGz6
  have hcz6_2 := cellS60_2 HGz6
  have hcz6_3 := cellS60_3 HGz6
  have hcz6_4 := cellS60_4 HGz6
  have hcz6_5 := cellS60_5 HGz6
  have hcz6_6 := cellS60_6 HGz6
  have hcz6_7 := cellS60_7 HGz6
  have hcz6_8 := cellS60_8 HGz6
  have hcz6_9 := cellS60_9 HGz6
  have hcz6_10 := cellS60_10 HGz6
  have hfz6_0 := blk_frozen HGz6 0
  have hfz6_1 := blk_frozen HGz6 1
  have hfz6_2 := blk_frozen HGz6 2
  have hfz6_3 := blk_frozen HGz6 3
  have hfz6_4 := blk_frozen HGz6 4
  have hfz6_6 := blk_frozen HGz6 6
  have hfz6_8 := blk_frozen HGz6 8
  have hfz6_9 := blk_frozen HGz6 9
  have hfz6_10 := blk_frozen HGz6 10
  clear HGz6 hgz6
  go_enter Tryz.func69, Tryz.ntmps69
  go_wp2
  go_ret
  exact ⟨by first | rfl | (simp [errW_none, errW_some] <;> rfl) | (simp [*, errW_none, errW_some] <;> rfl), by repeat (first | (with_reducible first | exact HI0.out | apply IsS60.alloc | apply IsS60.drewN | apply IsS60.drew | apply IsS60.set_0 | apply IsS60.set_1 | apply IsS60.set_2 | apply IsS60.set_3 | apply IsS60.set_4 | apply IsS60.set_6 | apply IsS60.set_8 | apply IsS60.set_9 | apply IsS60.set_10) | exact HI0.out), by repeat (first | (with_reducible first | exact HB.out | apply below_alloc | apply pw_below_drewN | apply below_drew1 | refine below_set ?_ (IsS60.ge HI0.out)) | exact HB.out), by repeat (first | (with_reducible first | exact HK.out | apply KeepBut.set_ | apply keep_drewN | apply keep_drew | apply keep_alloc) | exact HK.out)⟩
def cairnref32_small.f (a0 : Int) : Option (Bool) := if a0 ≥ 97 then (some (decide (a0 ≤ 122))) else (some false)
set_option maxHeartbeats 8000000 in
set_option maxRecDepth 100000 in
theorem cairnref32_small.calls (a0 : Int) (r : Bool) (w : World) (h : cairnref32_small.f a0 = some r) :
  Calls Tryz.prog 70 #[.int .u8 a0] w fun e w' => e = .returned (.bool r) ∧ Drawn0 w w' := by
 have H : (if a0 ≥ 97 then (some (decide (a0 ≤ 122))) else (some false)) = some r := h
 clear h
 by_cases c2 : a0 ≥ 97
 ·
  rw [if_pos c2] at H
  have c2b0 : decide (97 ≤ a0) = true := decide_eq_true c2
  clear c2
  obtain rfl := Option.some.inj H
  go_enter Tryz.func70, Tryz.ntmps70
  go_wp2
  go_ret
  exact ⟨by first | rfl | (simp; done) | (simp [*]; done), by repeat (first | exact Drawn0.refl _ | apply Drawn0.step)⟩
 ·
  rw [if_neg c2] at H
  have c2b0 : decide (97 ≤ a0) = false := decide_eq_false c2
  clear c2
  obtain rfl := Option.some.inj H
  go_enter Tryz.func70, Tryz.ntmps70
  go_wp2
  go_ret
  exact ⟨by first | rfl | (simp; done) | (simp [*]; done), by repeat (first | exact Drawn0.refl _ | apply Drawn0.step)⟩
def cairnref32_digit.f (a0 : Int) : Option (Bool) := if a0 ≥ 48 then (some (decide (a0 ≤ 57))) else (some false)
set_option maxHeartbeats 8000000 in
set_option maxRecDepth 100000 in
theorem cairnref32_digit.calls (a0 : Int) (r : Bool) (w : World) (h : cairnref32_digit.f a0 = some r) :
  Calls Tryz.prog 71 #[.int .u8 a0] w fun e w' => e = .returned (.bool r) ∧ Drawn0 w w' := by
 have H : (if a0 ≥ 48 then (some (decide (a0 ≤ 57))) else (some false)) = some r := h
 clear h
 by_cases c2 : a0 ≥ 48
 ·
  rw [if_pos c2] at H
  have c2b0 : decide (48 ≤ a0) = true := decide_eq_true c2
  clear c2
  obtain rfl := Option.some.inj H
  go_enter Tryz.func71, Tryz.ntmps71
  go_wp2
  go_ret
  exact ⟨by first | rfl | (simp; done) | (simp [*]; done), by repeat (first | exact Drawn0.refl _ | apply Drawn0.step)⟩
 ·
  rw [if_neg c2] at H
  have c2b0 : decide (48 ≤ a0) = false := decide_eq_false c2
  clear c2
  obtain rfl := Option.some.inj H
  go_enter Tryz.func71, Tryz.ntmps71
  go_wp2
  go_ret
  exact ⟨by first | rfl | (simp; done) | (simp [*]; done), by repeat (first | exact Drawn0.refl _ | apply Drawn0.step)⟩
mutual
def cairnref32_Name.j0 : Nat → ByteArray → Bool → Option (Bool)
 | 0, _, _ => none
 | k + 1, x0, x17 => if x17 = true then (some false) else (cairnref32_Name.l0 k x0 0)
def cairnref32_Name.l0 : Nat → ByteArray → Int → Option (Bool)
 | 0, _, _ => none
 | k + 1, x0, x3 => if x3 < (x0.size : Int) then (if 0 ≤ x3 then ((cairnref32_small.f (bt x0 x3)).bind fun t174 => (if t174 = true then (cairnref32_Name.l0 k x0 (wrap64 (x3 + 1))) else ((cairnref32_digit.f (bt x0 x3)).bind fun t175 => (if t175 = true then (cairnref32_Name.l0 k x0 (wrap64 (x3 + 1))) else (if (bt x0 x3) = 95 then (cairnref32_Name.l0 k x0 (wrap64 (x3 + 1))) else (some false)))))) else (none)) else (some true)
end
def cairnref32_Name.f (k : Nat) (a0 : ByteArray) : Option (Bool) := if (a0.size : Int) < 1 then (cairnref32_Name.j0 k a0 true) else (if (a0.size : Int) > 16 then (cairnref32_Name.j0 k a0 true) else (if 0 < (a0.size : Int) then ((cairnref32_small.f (bt a0 0)).bind fun t173 => (cairnref32_Name.j0 k a0 (!t173))) else (none)))
theorem cairnref32_Name.mono_l : ∀ k, (∀ y0 y1, LeO (cairnref32_Name.j0 k y0 y1) (cairnref32_Name.j0 (k + 1) y0 y1)) ∧ (∀ y0 y1, LeO (cairnref32_Name.l0 k y0 y1) (cairnref32_Name.l0 (k + 1) y0 y1))
 | 0 => ⟨fun _ _ r h => by simp [cairnref32_Name.j0] at h, fun _ _ r h => by simp [cairnref32_Name.l0] at h⟩
 | k + 1 => by
  obtain ⟨ih0, ih1⟩ := cairnref32_Name.mono_l k
  refine ⟨?_, ?_⟩
  ·
   intro y0 y1
   unfold cairnref32_Name.j0
   repeat' first
   | (with_reducible exact ih0 _ _)
   | (with_reducible exact ih1 _ _)
   | (with_reducible exact LeO.refl _)
   | (with_reducible exact LeO.none _)
   | (with_reducible refine LeO.ite ?_ ?_)
   | (with_reducible refine LeO.bind ?_ (fun _ => ?_))
   | exact ih0 _ _
   | exact ih1 _ _
   | exact LeO.none _
   | refine LeO.ite ?_ ?_
   | refine LeO.bind ?_ (fun _ => ?_)
  ·
   intro y0 y1
   unfold cairnref32_Name.l0
   repeat' first
   | (with_reducible exact ih0 _ _)
   | (with_reducible exact ih1 _ _)
   | (with_reducible exact LeO.refl _)
   | (with_reducible exact LeO.none _)
   | (with_reducible refine LeO.ite ?_ ?_)
   | (with_reducible refine LeO.bind ?_ (fun _ => ?_))
   | exact ih0 _ _
   | exact ih1 _ _
   | exact LeO.none _
   | refine LeO.ite ?_ ?_
   | refine LeO.bind ?_ (fun _ => ?_)
theorem cairnref32_Name.mono : ∀ a0 k, LeO (cairnref32_Name.f k a0) (cairnref32_Name.f (k + 1) a0) := by
 intro a0 k
 obtain ⟨ih0, ih1⟩ := cairnref32_Name.mono_l k
 unfold cairnref32_Name.f
 repeat' first
   | (with_reducible exact ih0 _ _)
   | (with_reducible exact ih1 _ _)
   | (with_reducible exact LeO.refl _)
   | (with_reducible exact LeO.none _)
   | (with_reducible refine LeO.ite ?_ ?_)
   | (with_reducible refine LeO.bind ?_ (fun _ => ?_))
   | exact ih0 _ _
   | exact ih1 _ _
   | exact LeO.none _
   | refine LeO.ite ?_ ?_
   | refine LeO.bind ?_ (fun _ => ?_)
set_option maxHeartbeats 8000000 in
set_option maxRecDepth 100000 in
theorem cairnref32_Name.calls (k : Nat) (a0 : ByteArray) (r : Bool) (w : World) (h : cairnref32_Name.f k a0 = some r) :
  Calls Tryz.prog 47 #[.string a0] w fun e w' => e = .returned (.bool r) ∧ Drawn0 w w' := by
 have H : (if (a0.size : Int) < 1 then (cairnref32_Name.j0 k a0 true) else (if (a0.size : Int) > 16 then (cairnref32_Name.j0 k a0 true) else (if 0 < (a0.size : Int) then ((cairnref32_small.f (bt a0 0)).bind fun t173 => (cairnref32_Name.j0 k a0 (!t173))) else (none)))) = some r := h
 clear h
 have HC2 := Aside0.mk H
 clear H
 go_enter Tryz.func47, Tryz.ntmps47
 go_upto_region 1 with (fail)
 go_cut [17] (fun v17 wc => ∃ (kq : Nat) (x17_1 : Bool), v17 = .bool x17_1 ∧ Aside0 (cairnref32_Name.j0 kq a0 x17_1 = some r) ∧ Aside0 (kq ≤ k) ∧ Drawn0 w wc)
 case first =>
  have H := HC2.out
  clear HC2
  by_cases c3 : (a0.size : Int) < 1
  ·
   rw [if_pos c3] at H
   have c3b0 : decide ((a0.size : Int) < 1) = true := decide_eq_true c3
   have c3b1 : decide (a0.size < 1) = true := decide_eq_true (by omega)
   clear c3
   (first | rw [c3b0] | (simp only [i64_w, i32_w]; rw [c3b0]) | skip)
   have H' := Aside0.mk H
   clear H
   go_wp2
   go_meet
   case rel => exact ⟨_, (true), (by first | rfl | (simp; done) | (simp [*]; done)), H', ⟨by first | omega | exact Nat.le_refl _⟩, by repeat (first | exact Drawn0.refl _ | apply Drawn0.step)⟩
  ·
   rw [if_neg c3] at H
   have c3b0 : decide ((a0.size : Int) < 1) = false := decide_eq_false c3
   have c3b1 : decide (a0.size < 1) = false := decide_eq_false (by omega)
   clear c3
   (first | rw [c3b0] | (simp only [i64_w, i32_w]; rw [c3b0]) | skip)
   by_cases c4 : (a0.size : Int) > 16
   ·
    rw [if_pos c4] at H
    have c4b0 : decide (16 < (a0.size : Int)) = true := decide_eq_true c4
    have c4b1 : decide (16 < a0.size) = true := decide_eq_true (by omega)
    clear c4
    have H' := Aside0.mk H
    clear H
    go_wp2
    go_meet
    case rel => exact ⟨_, (true), (by first | rfl | (simp; done) | (simp [*]; done)), H', ⟨by first | omega | exact Nat.le_refl _⟩, by repeat (first | exact Drawn0.refl _ | apply Drawn0.step)⟩
   ·
    rw [if_neg c4] at H
    have c4b0 : decide (16 < (a0.size : Int)) = false := decide_eq_false c4
    have c4b1 : decide (16 < a0.size) = false := decide_eq_false (by omega)
    clear c4
    by_cases c5 : 0 < (a0.size : Int)
    ·
     rw [if_pos c5] at H
     have c5b0 : decide (0 < (a0.size : Int)) = true := decide_eq_true c5
     have c5b1 : decide (0 < a0.size) = true := decide_eq_true (by omega)
     clear c5
     replace H := Option.bind_eq_some_iff.mp H
     obtain ⟨t173, A70, H⟩ := H
     replace H : (cairnref32_Name.j0 k a0 (!t173)) = some r := H
     have A7 := Aside0.mk A70
     clear A70
     have H' := Aside0.mk H
     clear H
     have p6 : 0 ≤ (0 : Int) := (by omega)
     have q6 : 0 < a0.size := (by have : (0 : Int) < (a0.size : Int) := of_decide_eq_true (by first | (with_reducible assumption) | assumption); omega)
     have hx6 : ∀ h : 0 < a0.size, ((a0[0]'h).toNat : Int) = bt a0 0 := bt_at a0 0
     clear p6
     have qi6 : (0 < (a0.size : Int)) = True := eq_true (of_decide_eq_true (by first | (with_reducible assumption) | assumption))
     replace q6 := eq_true q6
     go_wp2_with (first | (go_at_call 70; (with_reducible refine (cairnref32_small.calls (bt a0 0) t173 _ A7.out).mono ?_); rintro e w' ⟨rfl, ⟨nd, rfl⟩⟩))
     go_meet
     case rel => exact ⟨_, (!t173), (by first | rfl | (simp; done) | (simp [*]; done)), H', ⟨by first | omega | exact Nat.le_refl _⟩, by repeat (first | exact Drawn0.refl _ | apply Drawn0.step)⟩
    ·
     rw [if_neg c5] at H
     exact absurd H (by simp)
 case rest =>
  clear HC2
  obtain ⟨kq, x17_1, rfl, HA, HJ1, ⟨mc1, rfl⟩⟩ := hcut
  cases kq with
  | zero => exact absurd HA.out (by simp [cairnref32_Name.j0])
  | succ kj1 =>
   have H := HA.out
   clear HA
   simp only [cairnref32_Name.j0] at H
   by_cases c8 : x17_1 = true
   ·
    subst c8
    have H1 : (some false) = some r := by rw [if_pos rfl] at H; exact H
    clear H
    have H := H1
    clear H1
    obtain rfl := Option.some.inj H
    go_wp2
    go_ret
    exact ⟨by first | rfl | (simp; done) | (simp [*]; done), by repeat (first | exact Drawn0.refl _ | apply Drawn0.step)⟩
   ·
    replace c8 := Bool.eq_false_iff.mpr c8
    subst c8
    have H1 : (cairnref32_Name.l0 kj1 a0 0) = some r := by rw [if_neg (show ¬ (false = true) by decide)] at H; exact H
    clear H
    have H := H1
    clear H1
    have H' := Aside0.mk H
    clear H
    go_wp2
    go_loopg [3] kj1 (fun kq v3 w' => ∃ (x3_2 : Int), v3 = .int .i64 x3_2 ∧ Aside0 (cairnref32_Name.l0 kq a0 x3_2 = some r) ∧ Aside0 (kq ≤ kj1) ∧ Drawn0 w w')
    case atStart => exact ⟨(0), (by first | rfl | (simp; done) | (simp [*]; done)), H', ⟨Nat.le_refl _⟩, by repeat (first | exact Drawn0.refl _ | apply Drawn0.step)⟩
    case round =>
     clear H'
     try clear c8
     obtain ⟨x3_2, rfl, HA, HK2, ⟨m2, rfl⟩⟩ := hrel
     cases gk with
     | zero => exact absurd HA.out (by simp [cairnref32_Name.l0])
     | succ k2 =>
      have H := HA.out
      clear HA
      simp only [cairnref32_Name.l0] at H
      by_cases c9 : x3_2 < (a0.size : Int)
      ·
       rw [if_pos c9] at H
       have c9b0 : decide (x3_2 < (a0.size : Int)) = true := decide_eq_true c9
       clear c9
       by_cases c10 : 0 ≤ x3_2
       ·
        rw [if_pos c10] at H
        have c10b0 : decide (0 ≤ x3_2) = true := decide_eq_true c10
        clear c10
        replace H := Option.bind_eq_some_iff.mp H
        obtain ⟨t174, A120, H⟩ := H
        replace H : (if t174 = true then (cairnref32_Name.l0 k2 a0 (wrap64 (x3_2 + 1))) else ((cairnref32_digit.f (bt a0 x3_2)).bind fun t175 => (if t175 = true then (cairnref32_Name.l0 k2 a0 (wrap64 (x3_2 + 1))) else (if (bt a0 x3_2) = 95 then (cairnref32_Name.l0 k2 a0 (wrap64 (x3_2 + 1))) else (some false))))) = some r := H
        have A12 := Aside0.mk A120
        clear A120
        by_cases c13 : t174 = true
        ·
         subst c13
         have H1 : (cairnref32_Name.l0 k2 a0 (wrap64 (x3_2 + 1))) = some r := by rw [if_pos rfl] at H; exact H
         clear H
         have H := H1
         clear H1
         have H' := Aside0.mk H
         clear H
         have p11 : 0 ≤ (x3_2 : Int) := of_decide_eq_true (by first | (with_reducible assumption) | assumption)
         have q11 : x3_2 < (a0.size : Int) := of_decide_eq_true (by first | (with_reducible assumption) | assumption)
         have hx11 := bt_at a0 x3_2
         replace p11 := eq_true p11
         replace q11 := eq_true q11
         go_wp2_with (first | ((with_reducible refine gate_callee (f := 70) rfl ?_); refine goesL_ (some 27) rfl rfl Tryz.func70 (by kernel_rfl) rfl #[.int .u8 (bt a0 x3_2)] rfl (by (try simp only [List.map_toArray, List.map_cons, List.map_nil]); first | done | rfl | (simp only [List.length_drop, List.length_take]; rfl)) ?_; (with_reducible refine (cairnref32_small.calls (bt a0 x3_2) true _ A12.out).mono ?_); rintro e w' ⟨rfl, ⟨nd, rfl⟩⟩; refine ⟨_, rfl, ?_⟩))
         go_roundg k2
         case measure => have := HJ1.out; have := HK2.out; omega
         case rel => exact ⟨(wrap64 (x3_2 + 1)), (by first | rfl | (simp; done) | (simp [*]; done)), H', ⟨by have := HJ1.out; have := HK2.out; omega⟩, by repeat (first | exact Drawn0.refl _ | apply Drawn0.step)⟩
        ·
         replace c13 := Bool.eq_false_iff.mpr c13
         subst c13
         have H1 : ((cairnref32_digit.f (bt a0 x3_2)).bind fun t175 => (if t175 = true then (cairnref32_Name.l0 k2 a0 (wrap64 (x3_2 + 1))) else (if (bt a0 x3_2) = 95 then (cairnref32_Name.l0 k2 a0 (wrap64 (x3_2 + 1))) else (some false)))) = some r := by rw [if_neg (show ¬ (false = true) by decide)] at H; exact H
         clear H
         have H := H1
         clear H1
         replace H := Option.bind_eq_some_iff.mp H
         obtain ⟨t175, A150, H⟩ := H
         replace H : (if t175 = true then (cairnref32_Name.l0 k2 a0 (wrap64 (x3_2 + 1))) else (if (bt a0 x3_2) = 95 then (cairnref32_Name.l0 k2 a0 (wrap64 (x3_2 + 1))) else (some false))) = some r := H
         have A15 := Aside0.mk A150
         clear A150
         by_cases c16 : t175 = true
         ·
          subst c16
          have H1 : (cairnref32_Name.l0 k2 a0 (wrap64 (x3_2 + 1))) = some r := by rw [if_pos rfl] at H; exact H
          clear H
          have H := H1
          clear H1
          have H' := Aside0.mk H
          clear H
          have p11 : 0 ≤ (x3_2 : Int) := of_decide_eq_true (by first | (with_reducible assumption) | assumption)
          have q11 : x3_2 < (a0.size : Int) := of_decide_eq_true (by first | (with_reducible assumption) | assumption)
          have hx11 := bt_at a0 x3_2
          replace p11 := eq_true p11
          replace q11 := eq_true q11
          go_wp2_with (first | ((with_reducible refine gate_callee (f := 70) rfl ?_); refine goesL_ (some 27) rfl rfl Tryz.func70 (by kernel_rfl) rfl #[.int .u8 (bt a0 x3_2)] rfl (by (try simp only [List.map_toArray, List.map_cons, List.map_nil]); first | done | rfl | (simp only [List.length_drop, List.length_take]; rfl)) ?_; (with_reducible refine (cairnref32_small.calls (bt a0 x3_2) false _ A12.out).mono ?_); rintro e w' ⟨rfl, ⟨nd, rfl⟩⟩; refine ⟨_, rfl, ?_⟩; have p14 : 0 ≤ (x3_2 : Int) := of_decide_eq_true (by first | (with_reducible assumption) | assumption); have q14 : x3_2 < (a0.size : Int) := of_decide_eq_true (by first | (with_reducible assumption) | assumption); have hx14 := bt_at a0 x3_2; replace p14 := eq_true p14; replace q14 := eq_true q14) | (go_at_call 71; (with_reducible refine (cairnref32_digit.calls (bt a0 x3_2) true _ A15.out).mono ?_); rintro e w' ⟨rfl, ⟨nd, rfl⟩⟩))
          go_roundg k2
          case measure => have := HJ1.out; have := HK2.out; omega
          case rel => exact ⟨(wrap64 (x3_2 + 1)), (by first | rfl | (simp; done) | (simp [*]; done)), H', ⟨by have := HJ1.out; have := HK2.out; omega⟩, by repeat (first | exact Drawn0.refl _ | apply Drawn0.step)⟩
         ·
          replace c16 := Bool.eq_false_iff.mpr c16
          subst c16
          have H1 : (if (bt a0 x3_2) = 95 then (cairnref32_Name.l0 k2 a0 (wrap64 (x3_2 + 1))) else (some false)) = some r := by rw [if_neg (show ¬ (false = true) by decide)] at H; exact H
          clear H
          have H := H1
          clear H1
          by_cases c18 : (bt a0 x3_2) = 95
          ·
           rw [if_pos c18] at H
           have c18b0 : ((bt a0 x3_2) == 95) = true := beq_iff_eq.mpr c18
           have c18b1 : ((bt a0 x3_2) != 95) = false := bne_eq_false_iff_eq.mpr c18
           clear c18
           have H' := Aside0.mk H
           clear H
           have p11 : 0 ≤ (x3_2 : Int) := of_decide_eq_true (by first | (with_reducible assumption) | assumption)
           have q11 : x3_2 < (a0.size : Int) := of_decide_eq_true (by first | (with_reducible assumption) | assumption)
           have hx11 := bt_at a0 x3_2
           replace p11 := eq_true p11
           replace q11 := eq_true q11
           go_wp2_with (first | ((with_reducible refine gate_callee (f := 70) rfl ?_); refine goesL_ (some 27) rfl rfl Tryz.func70 (by kernel_rfl) rfl #[.int .u8 (bt a0 x3_2)] rfl (by (try simp only [List.map_toArray, List.map_cons, List.map_nil]); first | done | rfl | (simp only [List.length_drop, List.length_take]; rfl)) ?_; (with_reducible refine (cairnref32_small.calls (bt a0 x3_2) false _ A12.out).mono ?_); rintro e w' ⟨rfl, ⟨nd, rfl⟩⟩; refine ⟨_, rfl, ?_⟩; have p14 : 0 ≤ (x3_2 : Int) := of_decide_eq_true (by first | (with_reducible assumption) | assumption); have q14 : x3_2 < (a0.size : Int) := of_decide_eq_true (by first | (with_reducible assumption) | assumption); have hx14 := bt_at a0 x3_2; replace p14 := eq_true p14; replace q14 := eq_true q14) | (go_at_call 71; (with_reducible refine (cairnref32_digit.calls (bt a0 x3_2) false _ A15.out).mono ?_); rintro e w' ⟨rfl, ⟨nd, rfl⟩⟩; have p17 : 0 ≤ (x3_2 : Int) := of_decide_eq_true (by first | (with_reducible assumption) | assumption); have q17 : x3_2 < (a0.size : Int) := of_decide_eq_true (by first | (with_reducible assumption) | assumption); have hx17 := bt_at a0 x3_2; replace p17 := eq_true p17; replace q17 := eq_true q17))
           go_roundg k2
           case measure => have := HJ1.out; have := HK2.out; omega
           case rel => exact ⟨(wrap64 (x3_2 + 1)), (by first | rfl | (simp; done) | (simp [*]; done)), H', ⟨by have := HJ1.out; have := HK2.out; omega⟩, by repeat (first | exact Drawn0.refl _ | apply Drawn0.step)⟩
          ·
           rw [if_neg c18] at H
           have c18b0 : ((bt a0 x3_2) == 95) = false := beq_eq_false_iff_ne.mpr c18
           have c18b1 : ((bt a0 x3_2) != 95) = true := bne_iff_ne.mpr c18
           obtain rfl := Option.some.inj H
           have p11 : 0 ≤ (x3_2 : Int) := of_decide_eq_true (by first | (with_reducible assumption) | assumption)
           have q11 : x3_2 < (a0.size : Int) := of_decide_eq_true (by first | (with_reducible assumption) | assumption)
           have hx11 := bt_at a0 x3_2
           replace p11 := eq_true p11
           replace q11 := eq_true q11
           go_wp2_with (first | ((with_reducible refine gate_callee (f := 70) rfl ?_); refine goesL_ (some 27) rfl rfl Tryz.func70 (by kernel_rfl) rfl #[.int .u8 (bt a0 x3_2)] rfl (by (try simp only [List.map_toArray, List.map_cons, List.map_nil]); first | done | rfl | (simp only [List.length_drop, List.length_take]; rfl)) ?_; (with_reducible refine (cairnref32_small.calls (bt a0 x3_2) false _ A12.out).mono ?_); rintro e w' ⟨rfl, ⟨nd, rfl⟩⟩; refine ⟨_, rfl, ?_⟩; have p14 : 0 ≤ (x3_2 : Int) := of_decide_eq_true (by first | (with_reducible assumption) | assumption); have q14 : x3_2 < (a0.size : Int) := of_decide_eq_true (by first | (with_reducible assumption) | assumption); have hx14 := bt_at a0 x3_2; replace p14 := eq_true p14; replace q14 := eq_true q14) | (go_at_call 71; (with_reducible refine (cairnref32_digit.calls (bt a0 x3_2) false _ A15.out).mono ?_); rintro e w' ⟨rfl, ⟨nd, rfl⟩⟩; have p17 : 0 ≤ (x3_2 : Int) := of_decide_eq_true (by first | (with_reducible assumption) | assumption); have q17 : x3_2 < (a0.size : Int) := of_decide_eq_true (by first | (with_reducible assumption) | assumption); have hx17 := bt_at a0 x3_2; replace p17 := eq_true p17; replace q17 := eq_true q17))
           go_ret
           exact ⟨by first | rfl | (simp; done) | (simp [*]; done), by repeat (first | exact Drawn0.refl _ | apply Drawn0.step)⟩
       ·
        rw [if_neg c10] at H
        exact absurd H (by simp)
      ·
       rw [if_neg c9] at H
       have c9b0 : decide (x3_2 < (a0.size : Int)) = false := decide_eq_false c9
       clear c9
       obtain rfl := Option.some.inj H
       go_wp2
       go_ret
       exact ⟨by first | rfl | (simp; done) | (simp [*]; done), by repeat (first | exact Drawn0.refl _ | apply Drawn0.step)⟩
end Go.Proofs.YthhemephaabblaaGreatDoor.Q
namespace Go.Proofs.YthhemephaabblaaGreatDoor.Hq
open Go.RowKit Go.Proofs.YthhemephaabblaaGreatDoorW.PrintWords Go.Proofs.YthhemephaabblaaGreatDoorW.PrintLast Go.Proofs.YthhemephaabblaaGreatDoorW.PrintMore Go.Proofs.YthhemephaabblaaGreatDoor Go.Proofs.YthhemephaabblaaGreatDoor.Q
set_option linter.unusedVariables false
set_option linter.unusedSimpArgs false
def stepF (k : Nat) (s : List UInt8) (en : Nat) (s0_2 : Int) (s0_3 : ByteArray) (s0_4 : Int) (s0_5 : Value) (s0_6 : ByteArray) (s0_7 : Value) (s0_8 : ByteArray) (s0_9 : Bool) (s0_10 : Int) : Option (ByteArray × Int × Int × ByteArray × Int × ByteArray × ByteArray × Bool × Int) :=
  match s[runEnd isSp s en]? with
  | none => some (strB s, (runEnd isSp s en : Nat), 0, ⟨#[]⟩, (runEnd isSp s en : Nat), s0_6, s0_8, s0_9, s0_10)
  | some c =>
    if isSm c = true then some (strB s, (runEnd isWd s (runEnd isSp s en) : Nat), 2, strB ((s.drop (runEnd isSp s en)).takeWhile isWd), (runEnd isSp s en : Nat), s0_6, s0_8, s0_9, s0_10)
    else if isDg c = true then some (strB s, (runEnd isDg s (runEnd isSp s en) : Nat), 3, strB ((s.drop (runEnd isSp s en)).takeWhile isDg), (runEnd isSp s en : Nat), s0_6, s0_8, s0_9, s0_10)
    else if c = 34 then query_reader_quoted.f k (strB s) en s0_2 s0_3 s0_4 s0_5 s0_6 s0_7 s0_8 s0_9 s0_10 (runEnd isSp s en : Nat)
    else query_reader_signed.f k (strB s) en s0_2 s0_3 s0_4 s0_5 s0_6 s0_7 s0_8 s0_9 s0_10 (runEnd isSp s en : Nat)
theorem strB_run (p : UInt8 → Bool) (s : List UInt8) (a : Nat) : (strB s).extract a (runEnd p s a) = strB ((s.drop a).takeWhile p) := by
  apply ByteArray.ext
  rw [ByteArray.data_extract]
  show s.toArray.extract a (runEnd p s a) = ((s.drop a).takeWhile p).toArray
  rw [List.extract_toArray]
  congr 1
  rw [List.extract_eq_take_drop]
  unfold runEnd
  rw [Nat.add_sub_cancel_left]
  exact (List.prefix_iff_eq_take.1 (List.takeWhile_prefix p)).symm
set_option maxRecDepth 100000 in
set_option maxHeartbeats 3200000 in
theorem step_calls (k : Nat) (g : Nat) (s : List UInt8) (en : Nat) (s0_2 : Int) (s0_3 : ByteArray) (s0_4 : Int) (s0_5 : Value) (s0_6 : ByteArray) (s0_7 : Value) (s0_8 : ByteArray) (s0_9 : Bool) (s0_10 : Int) (r1 : ByteArray) (r2 : Int) (r3 : Int) (r4 : ByteArray) (r5 : Int) (r6 : ByteArray) (r7 : ByteArray) (r8 : Bool) (r9 : Int) (w0 w : World) (hI : IsS60 w0 w g (strB s) en s0_2 s0_3 s0_4 s0_5 s0_6 s0_7 s0_8 s0_9 s0_10) (hB : Below w0.heap.size w0 w) (hen : en ≤ s.length) (hs : s.length ≤ 1000000000000)
    (h : stepF k s en s0_2 s0_3 s0_4 s0_5 s0_6 s0_7 s0_8 s0_9 s0_10 = some (r1, r2, r3, r4, r5, r6, r7, r8, r9)) :
    Calls Tryz.prog 44 #[.pointer (some ⟨g, 0, none⟩)] w fun e w' => e = .returned (.tuple #[]) ∧ IsS60 w0 w' g r1 r2 r3 r4 r5 s0_5 r6 s0_7 r7 r8 r9 ∧ Below w0.heap.size w0 w' ∧ KeepBut w w' g none := by
  obtain ⟨HG, hg⟩ := hI
  have k0 := cellS60_0 HG
  have k1 := cellS60_1 HG
  have hsz := strB_size s
  obtain ⟨a, ha⟩ : ∃ a, a = runEnd isSp s en := ⟨_, rfl⟩
  have hal : a ≤ s.length := by rw [ha]; exact runEnd_le _ _ _ hen
  have r63 := run63 g s en w k0 hen hs
  rw [← ha] at r63
  unfold stepF at h
  rw [← ha] at h
  have H := Aside0.mk h
  clear h ha
  by_cases hl : a = s.length
  · subst hl
    have hn : s[s.length]? = none := List.getElem?_eq_none (by omega)
    have h := H.out
    rw [hn] at h
    simp only [Option.some.injEq, Prod.mk.injEq] at h
    obtain ⟨rfl, rfl, rfl, rfl, rfl, rfl, rfl, rfl, rfl⟩ := h
    have hb : ((s.length : Int) == (s.length : Int)) = true := by simp
    clear H hn
    go_enter Tryz.func44, Tryz.ntmps44
    go_wp2_with (go_at_call 62; refine r63.mono ?_; rintro e w1 ⟨rfl, hE1⟩; have HG1 := (hE1.block g (blk_lt HG)).trans HG; have hI1 : IsS60 w0 w1 g (strB s) en s0_2 s0_3 s0_4 s0_5 s0_6 s0_7 s0_8 s0_9 s0_10 := ⟨HG1, hg⟩; have hB1 := below_step hB hE1; have hK1 : KeepBut w w1 g none := KeepBut.of_below hE1 g none; have m0 := cellS60_0 HG1; have m1 := cellS60_1 HG1; have m2 := cellS60_2 HG1; have m3 := cellS60_3 HG1; have m4 := cellS60_4 HG1; have f1 := blk_frozen HG1 1; have f2 := blk_frozen HG1 2; have f3 := blk_frozen HG1 3; have f4 := blk_frozen HG1 4)
    first | go_end0 | refine bodyPost_ret (results_none rfl _ _ _) rfl ?_
    exact ⟨rfl, (((hI1.set_1 _).set_2 _).set_3 _).set_4 _, ((((hB1.setCell (p := ⟨g, 1, none⟩) hg _).setCell (p := ⟨g, 2, none⟩) hg _).setCell (p := ⟨g, 3, none⟩) hg _).setCell (p := ⟨g, 4, none⟩) hg _), (((hK1.set_ 1 _).set_ 2 _).set_ 3 _).set_ 4 _⟩
  · have hlt : a < s.length := by omega
    have hb : ((a : Int) == (s.length : Int)) = false := by simp; omega
    obtain ⟨ch, hch⟩ : ∃ c, c = s[a] := ⟨_, rfl⟩
    have hsm : s[a]? = some ch := by rw [hch]; exact List.getElem?_eq_getElem hlt
    have hidx : ∀ h : a < (strB s).size, ((strB s)[a]'h).toNat = ch.toNat := fun h => by rw [hch]; rfl
    have b1 : (0 : Int) ≤ (a : Int) ∧ (a : Int) < s.length := by omega
    have c1 := fun W => sm_calls ch W
    have c2 := fun W => dg_calls ch W
    have h := H.out
    rw [hsm] at h
    simp only [] at h
    clear H hch
    by_cases hq : isSm ch = true
    · rw [if_pos hq] at h
      simp only [Option.some.injEq, Prod.mk.injEq] at h
      obtain ⟨rfl, rfl, rfl, rfl, rfl, rfl, rfl, rfl, rfl⟩ := h
      rw [hq] at c1
      go_enter Tryz.func44, Tryz.ntmps44
      go_wp2_with (first | (go_at_call 62; (with_reducible refine r63.mono ?_); rintro e w1 ⟨rfl, hE1⟩; have HG1 := (hE1.block g (blk_lt HG)).trans HG; have hI1 : IsS60 w0 w1 g (strB s) en s0_2 s0_3 s0_4 s0_5 s0_6 s0_7 s0_8 s0_9 s0_10 := ⟨HG1, hg⟩; have hB1 := below_step hB hE1; have hK1 : KeepBut w w1 g none := KeepBut.of_below hE1 g none; have m0 := cellS60_0 HG1; have m1 := cellS60_1 HG1; have m2 := cellS60_2 HG1; have m3 := cellS60_3 HG1; have m4 := cellS60_4 HG1; have f1 := blk_frozen HG1 1; have f2 := blk_frozen HG1 2; have f3 := blk_frozen HG1 3; have f4 := blk_frozen HG1 4) | (go_at_call 64; refine (c1 _).mono ?_; rintro e w2 ⟨rfl, hE2⟩; have HG2 := (hE2.block g (blk_lt HG1)).trans HG1; have hI2 : IsS60 w0 w2 g (strB s) en s0_2 s0_3 s0_4 s0_5 s0_6 s0_7 s0_8 s0_9 s0_10 := ⟨HG2, hg⟩; have hB2 := below_step hB1 hE2; have hK2 : KeepBut w w2 g none := hK1.trans (KeepBut.of_below hE2 g none) (.inl rfl); have n0 := cellS60_0 HG2; have n1 := cellS60_1 HG2; have n2 := cellS60_2 HG2; have n3 := cellS60_3 HG2; have n4 := cellS60_4 HG2; have e1 := blk_frozen HG2 1; have e2 := blk_frozen HG2 2; have e3 := blk_frozen HG2 3; have e4 := blk_frozen HG2 4) | (go_at_call 62; (with_reducible refine (run65 g s a _ n0 hal hs).mono ?_); rintro e w3 ⟨rfl, hE3⟩; have HG3 := (hE3.block g (blk_lt HG2)).trans HG2; have hI3 : IsS60 w0 w3 g (strB s) en s0_2 s0_3 s0_4 s0_5 s0_6 s0_7 s0_8 s0_9 s0_10 := ⟨HG3, hg⟩; have hB3 := below_step hB2 hE3; have hK3 : KeepBut w w3 g none := hK2.trans (KeepBut.of_below hE3 g none) (.inl rfl); have p0 := cellS60_0 HG3; have p1 := cellS60_1 HG3; have p2 := cellS60_2 HG3; have p3 := cellS60_3 HG3; have p4 := cellS60_4 HG3; have q1 := blk_frozen HG3 1; have q2 := blk_frozen HG3 2; have q3 := blk_frozen HG3 3; have q4 := blk_frozen HG3 4))
      have hI4 := hI3.set_1 ((runEnd isWd s a : Nat) : Int)
      obtain ⟨HG4, hg4⟩ := hI4
      have o0 := cellS60_0 HG4
      have o1 := cellS60_1 HG4
      have o2 := cellS60_2 HG4
      have o3 := cellS60_3 HG4
      have o4 := cellS60_4 HG4
      have x2 := blk_frozen HG4 2
      have x3 := blk_frozen HG4 3
      have x4 := blk_frozen HG4 4
      have hle := runEnd_le isWd s a hal
      have hge : a ≤ runEnd isWd s a := by unfold runEnd; omega
      have b2 : (0 : Int) ≤ (a : Int) ∧ (a : Int) ≤ (runEnd isWd s a : Int) ∧ (runEnd isWd s a : Int) ≤ s.length := by omega
      go_region_with (fail)
      all_goals rw [strB_run]
      all_goals go_end0
      all_goals exact ⟨rfl, (((hI3.set_1 _).set_2 _).set_3 _).set_4 _, below_drew ((((hB3.setCell (p := ⟨g, 1, none⟩) hg _).setCell (p := ⟨g, 2, none⟩) hg _).setCell (p := ⟨g, 3, none⟩) hg _).setCell (p := ⟨g, 4, none⟩) hg _), (((hK3.set_ 1 _).set_ 2 _).set_ 3 _).set_ 4 _⟩
    · rw [if_neg hq] at h
      by_cases hd : isDg ch = true
      · rw [if_pos hd] at h
        simp only [Option.some.injEq, Prod.mk.injEq] at h
        obtain ⟨rfl, rfl, rfl, rfl, rfl, rfl, rfl, rfl, rfl⟩ := h
        rw [Bool.eq_false_iff.2 hq] at c1
        rw [hd] at c2
        go_enter Tryz.func44, Tryz.ntmps44
        go_wp2_with (first | (go_at_call 62; (with_reducible refine r63.mono ?_); rintro e w1 ⟨rfl, hE1⟩; have HG1 := (hE1.block g (blk_lt HG)).trans HG; have hI1 : IsS60 w0 w1 g (strB s) en s0_2 s0_3 s0_4 s0_5 s0_6 s0_7 s0_8 s0_9 s0_10 := ⟨HG1, hg⟩; have hB1 := below_step hB hE1; have hK1 : KeepBut w w1 g none := KeepBut.of_below hE1 g none; have m0 := cellS60_0 HG1; have m1 := cellS60_1 HG1; have m2 := cellS60_2 HG1; have m3 := cellS60_3 HG1; have m4 := cellS60_4 HG1; have f1 := blk_frozen HG1 1; have f2 := blk_frozen HG1 2; have f3 := blk_frozen HG1 3; have f4 := blk_frozen HG1 4) | (go_at_call 64; refine (c1 _).mono ?_; rintro e w2 ⟨rfl, hE2⟩; have HG2 := (hE2.block g (blk_lt HG1)).trans HG1; have hI2 : IsS60 w0 w2 g (strB s) en s0_2 s0_3 s0_4 s0_5 s0_6 s0_7 s0_8 s0_9 s0_10 := ⟨HG2, hg⟩; have hB2 := below_step hB1 hE2; have hK2 : KeepBut w w2 g none := hK1.trans (KeepBut.of_below hE2 g none) (.inl rfl); have n0 := cellS60_0 HG2; have n1 := cellS60_1 HG2; have n2 := cellS60_2 HG2; have n3 := cellS60_3 HG2; have n4 := cellS60_4 HG2; have e1 := blk_frozen HG2 1; have e2 := blk_frozen HG2 2; have e3 := blk_frozen HG2 3; have e4 := blk_frozen HG2 4) | (go_at_call 66; refine (c2 _).mono ?_; rintro e w5 ⟨rfl, hE5⟩; have HG5 := (hE5.block g (blk_lt HG2)).trans HG2; have hB5 := below_step hB2 hE5; have hK5 : KeepBut w w5 g none := hK2.trans (KeepBut.of_below hE5 g none) (.inl rfl); have t0 := cellS60_0 HG5; have hI5 : IsS60 w0 w5 g (strB s) en s0_2 s0_3 s0_4 s0_5 s0_6 s0_7 s0_8 s0_9 s0_10 := ⟨HG5, hg⟩; have t1 := cellS60_1 HG5; have y1 := blk_frozen HG5 1) | (go_at_call 62; (with_reducible refine (run66 g s a _ t0 hal hs).mono ?_); rintro e w3 ⟨rfl, hE3⟩; have HG3 := (hE3.block g (blk_lt HG5)).trans HG5; have hI3 : IsS60 w0 w3 g (strB s) en s0_2 s0_3 s0_4 s0_5 s0_6 s0_7 s0_8 s0_9 s0_10 := ⟨HG3, hg⟩; have hB3 := below_step hB5 hE3; have hK3 : KeepBut w w3 g none := hK5.trans (KeepBut.of_below hE3 g none) (.inl rfl); have p0 := cellS60_0 HG3; have p1 := cellS60_1 HG3; have p2 := cellS60_2 HG3; have p3 := cellS60_3 HG3; have p4 := cellS60_4 HG3; have q1 := blk_frozen HG3 1; have q2 := blk_frozen HG3 2; have q3 := blk_frozen HG3 3; have q4 := blk_frozen HG3 4))
        have hI4 := hI3.set_1 ((runEnd isDg s a : Nat) : Int)
        obtain ⟨HG4, hg4⟩ := hI4
        have o0 := cellS60_0 HG4
        have o1 := cellS60_1 HG4
        have o2 := cellS60_2 HG4
        have o3 := cellS60_3 HG4
        have o4 := cellS60_4 HG4
        have x2 := blk_frozen HG4 2
        have x3 := blk_frozen HG4 3
        have x4 := blk_frozen HG4 4
        have hle := runEnd_le isDg s a hal
        have hge : a ≤ runEnd isDg s a := by unfold runEnd; omega
        have b2 : (0 : Int) ≤ (a : Int) ∧ (a : Int) ≤ (runEnd isDg s a : Int) ∧ (runEnd isDg s a : Int) ≤ s.length := by omega
        go_region_with (fail)
        all_goals rw [strB_run]
        all_goals go_end0
        all_goals exact ⟨rfl, (((hI3.set_1 _).set_2 _).set_3 _).set_4 _, below_drew ((((hB3.setCell (p := ⟨g, 1, none⟩) hg _).setCell (p := ⟨g, 2, none⟩) hg _).setCell (p := ⟨g, 3, none⟩) hg _).setCell (p := ⟨g, 4, none⟩) hg _), (((hK3.set_ 1 _).set_ 2 _).set_ 3 _).set_ 4 _⟩
      · rw [if_neg hd] at h
        rw [Bool.eq_false_iff.2 hq] at c1
        rw [Bool.eq_false_iff.2 hd] at c2
        have h34e : ((ch.toNat : Int) == 34) = decide (ch = 34) := by rw [Bool.eq_iff_iff]; simp [← UInt8.toNat_inj]; omega
        by_cases k34 : ch = 34
        · rw [if_pos k34] at h
          rw [decide_eq_true k34] at h34e
          clear k34
          go_enter Tryz.func44, Tryz.ntmps44
          go_wp2_with (first | (go_at_call 62; (with_reducible refine r63.mono ?_); rintro e w1 ⟨rfl, hE1⟩; have HG1 := (hE1.block g (blk_lt HG)).trans HG; have hI1 : IsS60 w0 w1 g (strB s) en s0_2 s0_3 s0_4 s0_5 s0_6 s0_7 s0_8 s0_9 s0_10 := ⟨HG1, hg⟩; have hB1 := below_step hB hE1; have hK1 : KeepBut w w1 g none := KeepBut.of_below hE1 g none; have m0 := cellS60_0 HG1; have m1 := cellS60_1 HG1; have m2 := cellS60_2 HG1; have m3 := cellS60_3 HG1; have m4 := cellS60_4 HG1; have f1 := blk_frozen HG1 1; have f2 := blk_frozen HG1 2; have f3 := blk_frozen HG1 3; have f4 := blk_frozen HG1 4) | (go_at_call 64; refine (c1 _).mono ?_; rintro e w2 ⟨rfl, hE2⟩; have HG2 := (hE2.block g (blk_lt HG1)).trans HG1; have hI2 : IsS60 w0 w2 g (strB s) en s0_2 s0_3 s0_4 s0_5 s0_6 s0_7 s0_8 s0_9 s0_10 := ⟨HG2, hg⟩; have hB2 := below_step hB1 hE2; have hK2 : KeepBut w w2 g none := hK1.trans (KeepBut.of_below hE2 g none) (.inl rfl); have n0 := cellS60_0 HG2; have n1 := cellS60_1 HG2; have n2 := cellS60_2 HG2; have n3 := cellS60_3 HG2; have n4 := cellS60_4 HG2; have e1 := blk_frozen HG2 1; have e2 := blk_frozen HG2 2; have e3 := blk_frozen HG2 3; have e4 := blk_frozen HG2 4) | (go_at_call 66; refine (c2 _).mono ?_; rintro e w5 ⟨rfl, hE5⟩; have HG5 := (hE5.block g (blk_lt HG2)).trans HG2; have hB5 := below_step hB2 hE5; have hK5 : KeepBut w w5 g none := hK2.trans (KeepBut.of_below hE5 g none) (.inl rfl); have t0 := cellS60_0 HG5; have hI5 : IsS60 w0 w5 g (strB s) en s0_2 s0_3 s0_4 s0_5 s0_6 s0_7 s0_8 s0_9 s0_10 := ⟨HG5, hg⟩; have t1 := cellS60_1 HG5; have y1 := blk_frozen HG5 1) | (go_at_call 67; (with_reducible refine (query_reader_quoted.calls k g (strB s) en s0_2 s0_3 s0_4 s0_5 s0_6 s0_7 s0_8 s0_9 s0_10 a r1 r2 r3 r4 r5 r6 r7 r8 r9 w0 _ hI5 hB5 h).mono ?_); rintro e w6 ⟨rfl, hI6, hB6, hK6⟩))
          first | go_end0 | refine bodyPost_ret (results_none rfl _ _ _) rfl ?_
          exact ⟨rfl, hI6, hB6, hK5.trans hK6 (.inl rfl)⟩
        · rw [if_neg k34] at h
          simp only [k34, decide_false] at h34e
          clear k34
          go_enter Tryz.func44, Tryz.ntmps44
          go_wp2_with (first | (go_at_call 62; (with_reducible refine r63.mono ?_); rintro e w1 ⟨rfl, hE1⟩; have HG1 := (hE1.block g (blk_lt HG)).trans HG; have hI1 : IsS60 w0 w1 g (strB s) en s0_2 s0_3 s0_4 s0_5 s0_6 s0_7 s0_8 s0_9 s0_10 := ⟨HG1, hg⟩; have hB1 := below_step hB hE1; have hK1 : KeepBut w w1 g none := KeepBut.of_below hE1 g none; have m0 := cellS60_0 HG1; have m1 := cellS60_1 HG1; have m2 := cellS60_2 HG1; have m3 := cellS60_3 HG1; have m4 := cellS60_4 HG1; have f1 := blk_frozen HG1 1; have f2 := blk_frozen HG1 2; have f3 := blk_frozen HG1 3; have f4 := blk_frozen HG1 4) | (go_at_call 64; refine (c1 _).mono ?_; rintro e w2 ⟨rfl, hE2⟩; have HG2 := (hE2.block g (blk_lt HG1)).trans HG1; have hI2 : IsS60 w0 w2 g (strB s) en s0_2 s0_3 s0_4 s0_5 s0_6 s0_7 s0_8 s0_9 s0_10 := ⟨HG2, hg⟩; have hB2 := below_step hB1 hE2; have hK2 : KeepBut w w2 g none := hK1.trans (KeepBut.of_below hE2 g none) (.inl rfl); have n0 := cellS60_0 HG2; have n1 := cellS60_1 HG2; have n2 := cellS60_2 HG2; have n3 := cellS60_3 HG2; have n4 := cellS60_4 HG2; have e1 := blk_frozen HG2 1; have e2 := blk_frozen HG2 2; have e3 := blk_frozen HG2 3; have e4 := blk_frozen HG2 4) | (go_at_call 66; refine (c2 _).mono ?_; rintro e w5 ⟨rfl, hE5⟩; have HG5 := (hE5.block g (blk_lt HG2)).trans HG2; have hB5 := below_step hB2 hE5; have hK5 : KeepBut w w5 g none := hK2.trans (KeepBut.of_below hE5 g none) (.inl rfl); have t0 := cellS60_0 HG5; have hI5 : IsS60 w0 w5 g (strB s) en s0_2 s0_3 s0_4 s0_5 s0_6 s0_7 s0_8 s0_9 s0_10 := ⟨HG5, hg⟩; have t1 := cellS60_1 HG5; have y1 := blk_frozen HG5 1) | (go_at_call 68; (with_reducible refine (query_reader_signed.calls k g (strB s) en s0_2 s0_3 s0_4 s0_5 s0_6 s0_7 s0_8 s0_9 s0_10 a r1 r2 r3 r4 r5 r6 r7 r8 r9 w0 _ hI5 hB5 h).mono ?_); rintro e w6 ⟨rfl, hI6, hB6, hK6⟩))
          first | go_end0 | refine bodyPost_ret (results_none rfl _ _ _) rfl ?_
          exact ⟨rfl, hI6, hB6, hK5.trans hK6 (.inl rfl)⟩
end Go.Proofs.YthhemephaabblaaGreatDoor.Hq
namespace Go.Proofs.YthhemephaabblaaGreatDoor.Q
open Go.RowKit  Go.Proofs.YthhemephaabblaaGreatDoorW.PrintWords Go.Proofs.YthhemephaabblaaGreatDoorW.PrintLast Go.Proofs.YthhemephaabblaaGreatDoorW.PrintMore
attribute [local go_sem] max2_int min2_int max_two min_two max_three min_three max_four min_four
set_option linter.unusedVariables false
set_option linter.unusedSimpArgs false
theorem eqA37 (d : Nat) (w : World) (x0 y0 : ByteArray) (x1 y1 : Int) (x2 y2 : ByteArray) :
  (Op.equalIn (d + 2) 37 (.agg #[.string x0, .int .i64 x1, .string x2]) (.agg #[.string y0, .int .i64 y1, .string y2])).run Tryz.prog w = .ok (x0.toList == y0.toList && (x1 == y1 && (x2.toList == y2.toList))) w := by
 refine eqA_of Tryz.underlying37 (by kernel_rfl) ?_
 refine eqf_cons (by rfl) (by go_simp; rfl) (by go_simp; rfl) (by go_simp) ?_
 refine eqf_cons (by rfl) (by go_simp; rfl) (by go_simp; rfl) (by go_simp) ?_
 exact eqf_last (by rfl) (by go_simp; rfl) (by go_simp; rfl) (by go_simp)
end Go.Proofs.YthhemephaabblaaGreatDoor.Q
namespace Go.Proofs.YthhemephaabblaaGreatDoor.Q
open Go.RowKit  Go.Proofs.YthhemephaabblaaGreatDoorW.PrintWords Go.Proofs.YthhemephaabblaaGreatDoorW.PrintLast Go.Proofs.YthhemephaabblaaGreatDoorW.PrintMore
attribute [local go_sem] max2_int min2_int max_two min_two max_three min_three max_four min_four
set_option linter.unusedVariables false
set_option linter.unusedSimpArgs false
mutual
def query_Query_may.j0 : Nat → Bool → List ByteArray → ByteArray → List (S37) → ByteArray → Bool → Int → Option (Bool)
 | 0, _, _, _, _, _, _, _ => none
 | k + 1, x22, x108000, x108001, x108002, x108003, x108004, x108005 => if x22 = true then (some false) else (query_Query_may.l0 k x108000 (x108000.length : Int) 0 x108000 x108001 x108002 x108003 x108004 x108005)
def query_Query_may.l0 : Nat → List ByteArray → Int → Int → List ByteArray → ByteArray → List (S37) → ByteArray → Bool → Int → Option (Bool)
 | 0, _, _, _, _, _, _, _, _, _ => none
 | k + 1, x24, x25, x26, x108000, x108001, x108002, x108003, x108004, x108005 => if x26 < x25 then (if 0 ≤ x26 then (if x26 < (x24.length : Int) then ((query_named.f k (rdOf ByteArray.empty x24 x26)).bind fun t110 => (if t110 = true then (query_Query_may.l0 k x24 x25 (wrap64 (x26 + 1)) x108000 x108001 x108002 x108003 x108004 x108005) else (some false))) else (none)) else (none)) else (query_Query_may.l1 k x108002 (x108002.length : Int) 0 x108000 x108001 x108002 x108003 x108004 x108005)
def query_Query_may.l1 : Nat → List (S37) → Int → Int → List ByteArray → ByteArray → List (S37) → ByteArray → Bool → Int → Option (Bool)
 | 0, _, _, _, _, _, _, _, _, _ => none
 | k + 1, x35, x36, x37, x108000, x108001, x108002, x108003, x108004, x108005 => if x37 < x36 then (if 0 ≤ x37 then (if x37 < (x35.length : Int) then ((query_named.f k ((rd_T37 x35 x37).f0)).bind fun t114 => (if t114 = true then (if ((rd_T37 x35 x37).f1) < 1 then (some false) else ((query_operators.f).bind fun t115 => (if ((rd_T37 x35 x37).f1) > (t115.length : Int) then (some false) else (if (((rd_T37 x35 x37).f2).size : Int) > 1024 then (some false) else (query_Query_may.l1 k x35 x36 (wrap64 (x37 + 1)) x108000 x108001 x108002 x108003 x108004 x108005))))) else (some false))) else (none)) else (none)) else (if x108003.toList = ([] : List UInt8) then (if x108004 = true then (some false) else (if x108005 ≥ 0 then (some (decide (x108005 ≤ 999999999))) else (some false))) else ((query_named.f k x108003).bind fun t111 => (if t111 = true then (if x108005 ≥ 0 then (some (decide (x108005 ≤ 999999999))) else (some false)) else (some false))))
end
def query_Query_may.f (k : Nat) (l0_0 : List ByteArray) (a0_1 : ByteArray) (l0_2 : List (S37)) (a0_3 : ByteArray) (a0_4 : Bool) (a0_5 : Int) : Option (Bool) := if (l0_0.length : Int) > 8 then (query_Query_may.j0 k true l0_0 a0_1 l0_2 a0_3 a0_4 a0_5) else (if (l0_2.length : Int) > 8 then (query_Query_may.j0 k true l0_0 a0_1 l0_2 a0_3 a0_4 a0_5) else ((query_named.f k a0_1).bind fun t108 => (query_Query_may.j0 k (!t108) l0_0 a0_1 l0_2 a0_3 a0_4 a0_5)))
theorem query_Query_may.mono_l : ∀ k, (∀ y0 y1 y2 y3 y4 y5 y6, LeO (query_Query_may.j0 k y0 y1 y2 y3 y4 y5 y6) (query_Query_may.j0 (k + 1) y0 y1 y2 y3 y4 y5 y6)) ∧ (∀ y0 y1 y2 y3 y4 y5 y6 y7 y8, LeO (query_Query_may.l0 k y0 y1 y2 y3 y4 y5 y6 y7 y8) (query_Query_may.l0 (k + 1) y0 y1 y2 y3 y4 y5 y6 y7 y8)) ∧ (∀ y0 y1 y2 y3 y4 y5 y6 y7 y8, LeO (query_Query_may.l1 k y0 y1 y2 y3 y4 y5 y6 y7 y8) (query_Query_may.l1 (k + 1) y0 y1 y2 y3 y4 y5 y6 y7 y8))
 | 0 => ⟨fun _ _ _ _ _ _ _ r h => by simp [query_Query_may.j0] at h, fun _ _ _ _ _ _ _ _ _ r h => by simp [query_Query_may.l0] at h, fun _ _ _ _ _ _ _ _ _ r h => by simp [query_Query_may.l1] at h⟩
 | k + 1 => by
  obtain ⟨ih0, ih1, ih2⟩ := query_Query_may.mono_l k
  refine ⟨?_, ?_, ?_⟩
  ·
   intro y0 y1 y2 y3 y4 y5 y6
   unfold query_Query_may.j0
   repeat' first
   | (with_reducible exact ih0 _ _ _ _ _ _ _)
   | (with_reducible exact ih1 _ _ _ _ _ _ _ _ _)
   | (with_reducible exact ih2 _ _ _ _ _ _ _ _ _)
   | (with_reducible exact query_named.mono _ _)
   | (with_reducible exact LeO.refl _)
   | (with_reducible exact LeO.none _)
   | (with_reducible refine LeO.ite ?_ ?_)
   | (with_reducible refine LeO.bind ?_ (fun _ => ?_))
   | exact ih0 _ _ _ _ _ _ _
   | exact ih1 _ _ _ _ _ _ _ _ _
   | exact ih2 _ _ _ _ _ _ _ _ _
   | exact query_named.mono _ _
   | exact LeO.none _
   | refine LeO.ite ?_ ?_
   | refine LeO.bind ?_ (fun _ => ?_)
  ·
   intro y0 y1 y2 y3 y4 y5 y6 y7 y8
   unfold query_Query_may.l0
   repeat' first
   | (with_reducible exact ih0 _ _ _ _ _ _ _)
   | (with_reducible exact ih1 _ _ _ _ _ _ _ _ _)
   | (with_reducible exact ih2 _ _ _ _ _ _ _ _ _)
   | (with_reducible exact query_named.mono _ _)
   | (with_reducible exact LeO.refl _)
   | (with_reducible exact LeO.none _)
   | (with_reducible refine LeO.ite ?_ ?_)
   | (with_reducible refine LeO.bind ?_ (fun _ => ?_))
   | exact ih0 _ _ _ _ _ _ _
   | exact ih1 _ _ _ _ _ _ _ _ _
   | exact ih2 _ _ _ _ _ _ _ _ _
   | exact query_named.mono _ _
   | exact LeO.none _
   | refine LeO.ite ?_ ?_
   | refine LeO.bind ?_ (fun _ => ?_)
  ·
   intro y0 y1 y2 y3 y4 y5 y6 y7 y8
   unfold query_Query_may.l1
   repeat' first
   | (with_reducible exact ih0 _ _ _ _ _ _ _)
   | (with_reducible exact ih1 _ _ _ _ _ _ _ _ _)
   | (with_reducible exact ih2 _ _ _ _ _ _ _ _ _)
   | (with_reducible exact query_named.mono _ _)
   | (with_reducible exact LeO.refl _)
   | (with_reducible exact LeO.none _)
   | (with_reducible refine LeO.ite ?_ ?_)
   | (with_reducible refine LeO.bind ?_ (fun _ => ?_))
   | exact ih0 _ _ _ _ _ _ _
   | exact ih1 _ _ _ _ _ _ _ _ _
   | exact ih2 _ _ _ _ _ _ _ _ _
   | exact query_named.mono _ _
   | exact LeO.none _
   | refine LeO.ite ?_ ?_
   | refine LeO.bind ?_ (fun _ => ?_)
theorem query_Query_may.mono : ∀ a0 a1 a2 a3 a4 a5 k, LeO (query_Query_may.f k a0 a1 a2 a3 a4 a5) (query_Query_may.f (k + 1) a0 a1 a2 a3 a4 a5) := by
 intro a0 a1 a2 a3 a4 a5 k
 obtain ⟨ih0, ih1, ih2⟩ := query_Query_may.mono_l k
 unfold query_Query_may.f
 repeat' first
   | (with_reducible exact ih0 _ _ _ _ _ _ _)
   | (with_reducible exact ih1 _ _ _ _ _ _ _ _ _)
   | (with_reducible exact ih2 _ _ _ _ _ _ _ _ _)
   | (with_reducible exact query_named.mono _ _)
   | (with_reducible exact LeO.refl _)
   | (with_reducible exact LeO.none _)
   | (with_reducible refine LeO.ite ?_ ?_)
   | (with_reducible refine LeO.bind ?_ (fun _ => ?_))
   | exact ih0 _ _ _ _ _ _ _
   | exact ih1 _ _ _ _ _ _ _ _ _
   | exact ih2 _ _ _ _ _ _ _ _ _
   | exact query_named.mono _ _
   | exact LeO.none _
   | refine LeO.ite ?_ ?_
   | refine LeO.bind ?_ (fun _ => ?_)
end Go.Proofs.YthhemephaabblaaGreatDoor.Q
namespace Go.Proofs.YthhemephaabblaaGreatDoor.Q
open Go.RowKit  Go.Proofs.YthhemephaabblaaGreatDoorW.PrintWords Go.Proofs.YthhemephaabblaaGreatDoorW.PrintLast Go.Proofs.YthhemephaabblaaGreatDoorW.PrintMore
attribute [local go_sem] max2_int min2_int max_two min_two max_three min_three max_four min_four
set_option linter.unusedVariables false
set_option linter.unusedSimpArgs false
mutual
def cairnref32_may.j0 : Nat → Bool → List ByteArray → ByteArray → List (S70) → ByteArray → Bool → Int → Option (Bool)
 | 0, _, _, _, _, _, _, _ => none
 | k + 1, x3, x177000, x177001, x177002, x177003, x177004, x177005 => cairnref32_may.l0 k x3 0 x177000 x177001 x177002 x177003 x177004 x177005
def cairnref32_may.l0 : Nat → Bool → Int → List ByteArray → ByteArray → List (S70) → ByteArray → Bool → Int → Option (Bool)
 | 0, _, _, _, _, _, _, _, _ => none
 | k + 1, x3, x4, x177000, x177001, x177002, x177003, x177004, x177005 => if x4 < (x177000.length : Int) then (if x3 = true then (if 0 ≤ x4 then ((cairnref32_Name.f k (rdOf ByteArray.empty x177000 x4)).bind fun t179 => (cairnref32_may.l0 k t179 (wrap64 (x4 + 1)) x177000 x177001 x177002 x177003 x177004 x177005)) else (none)) else (cairnref32_may.l0 k false (wrap64 (x4 + 1)) x177000 x177001 x177002 x177003 x177004 x177005)) else (cairnref32_may.l1 k x3 0 x177000 x177001 x177002 x177003 x177004 x177005)
def cairnref32_may.l1 : Nat → Bool → Int → List ByteArray → ByteArray → List (S70) → ByteArray → Bool → Int → Option (Bool)
 | 0, _, _, _, _, _, _, _, _ => none
 | k + 1, x3, x5, x177000, x177001, x177002, x177003, x177004, x177005 => if x5 < (x177002.length : Int) then (if x3 = true then (if 0 ≤ x5 then ((cairnref32_Name.f k ((rd_T70 x177002 x5).f0)).bind fun t181 => (if t181 = true then (if ((rd_T70 x177002 x5).f1) ≥ 1 then (if ((rd_T70 x177002 x5).f1) ≤ 6 then (cairnref32_may.l1 k (decide ((((rd_T70 x177002 x5).f2).size : Int) ≤ 1024)) (wrap64 (x5 + 1)) x177000 x177001 x177002 x177003 x177004 x177005) else (cairnref32_may.l1 k false (wrap64 (x5 + 1)) x177000 x177001 x177002 x177003 x177004 x177005)) else (cairnref32_may.l1 k false (wrap64 (x5 + 1)) x177000 x177001 x177002 x177003 x177004 x177005)) else (cairnref32_may.l1 k false (wrap64 (x5 + 1)) x177000 x177001 x177002 x177003 x177004 x177005))) else (none)) else (cairnref32_may.l1 k false (wrap64 (x5 + 1)) x177000 x177001 x177002 x177003 x177004 x177005)) else (if x177003.toList = ([] : List UInt8) then (if x3 = true then (some (!x177004)) else (some false)) else (if x3 = true then ((cairnref32_Name.f k x177003).bind fun t185 => (some t185)) else (some false)))
end
def cairnref32_may.f (k : Nat) (l0_0 : List ByteArray) (a0_1 : ByteArray) (l0_2 : List (S70)) (a0_3 : ByteArray) (a0_4 : Bool) (a0_5 : Int) : Option (Bool) := (cairnref32_Name.f k a0_1).bind fun t177 => (if t177 = true then (if (l0_0.length : Int) ≤ 8 then (if (l0_2.length : Int) ≤ 8 then (if a0_5 ≥ 0 then (cairnref32_may.j0 k (decide (a0_5 ≤ 999999999)) l0_0 a0_1 l0_2 a0_3 a0_4 a0_5) else (cairnref32_may.j0 k false l0_0 a0_1 l0_2 a0_3 a0_4 a0_5)) else (cairnref32_may.j0 k false l0_0 a0_1 l0_2 a0_3 a0_4 a0_5)) else (cairnref32_may.j0 k false l0_0 a0_1 l0_2 a0_3 a0_4 a0_5)) else (cairnref32_may.j0 k false l0_0 a0_1 l0_2 a0_3 a0_4 a0_5))
theorem cairnref32_may.mono_l : ∀ k, (∀ y0 y1 y2 y3 y4 y5 y6, LeO (cairnref32_may.j0 k y0 y1 y2 y3 y4 y5 y6) (cairnref32_may.j0 (k + 1) y0 y1 y2 y3 y4 y5 y6)) ∧ (∀ y0 y1 y2 y3 y4 y5 y6 y7, LeO (cairnref32_may.l0 k y0 y1 y2 y3 y4 y5 y6 y7) (cairnref32_may.l0 (k + 1) y0 y1 y2 y3 y4 y5 y6 y7)) ∧ (∀ y0 y1 y2 y3 y4 y5 y6 y7, LeO (cairnref32_may.l1 k y0 y1 y2 y3 y4 y5 y6 y7) (cairnref32_may.l1 (k + 1) y0 y1 y2 y3 y4 y5 y6 y7))
 | 0 => ⟨fun _ _ _ _ _ _ _ r h => by simp [cairnref32_may.j0] at h, fun _ _ _ _ _ _ _ _ r h => by simp [cairnref32_may.l0] at h, fun _ _ _ _ _ _ _ _ r h => by simp [cairnref32_may.l1] at h⟩
 | k + 1 => by
  obtain ⟨ih0, ih1, ih2⟩ := cairnref32_may.mono_l k
  refine ⟨?_, ?_, ?_⟩
  ·
   intro y0 y1 y2 y3 y4 y5 y6
   unfold cairnref32_may.j0
   repeat' first
   | (with_reducible exact ih0 _ _ _ _ _ _ _)
   | (with_reducible exact ih1 _ _ _ _ _ _ _ _)
   | (with_reducible exact ih2 _ _ _ _ _ _ _ _)
   | (with_reducible exact cairnref32_Name.mono _ _)
   | (with_reducible exact LeO.refl _)
   | (with_reducible exact LeO.none _)
   | (with_reducible refine LeO.ite ?_ ?_)
   | (with_reducible refine LeO.bind ?_ (fun _ => ?_))
   | exact ih0 _ _ _ _ _ _ _
   | exact ih1 _ _ _ _ _ _ _ _
   | exact ih2 _ _ _ _ _ _ _ _
   | exact cairnref32_Name.mono _ _
   | exact LeO.none _
   | refine LeO.ite ?_ ?_
   | refine LeO.bind ?_ (fun _ => ?_)
  ·
   intro y0 y1 y2 y3 y4 y5 y6 y7
   unfold cairnref32_may.l0
   repeat' first
   | (with_reducible exact ih0 _ _ _ _ _ _ _)
   | (with_reducible exact ih1 _ _ _ _ _ _ _ _)
   | (with_reducible exact ih2 _ _ _ _ _ _ _ _)
   | (with_reducible exact cairnref32_Name.mono _ _)
   | (with_reducible exact LeO.refl _)
   | (with_reducible exact LeO.none _)
   | (with_reducible refine LeO.ite ?_ ?_)
   | (with_reducible refine LeO.bind ?_ (fun _ => ?_))
   | exact ih0 _ _ _ _ _ _ _
   | exact ih1 _ _ _ _ _ _ _ _
   | exact ih2 _ _ _ _ _ _ _ _
   | exact cairnref32_Name.mono _ _
   | exact LeO.none _
   | refine LeO.ite ?_ ?_
   | refine LeO.bind ?_ (fun _ => ?_)
  ·
   intro y0 y1 y2 y3 y4 y5 y6 y7
   unfold cairnref32_may.l1
   repeat' first
   | (with_reducible exact ih0 _ _ _ _ _ _ _)
   | (with_reducible exact ih1 _ _ _ _ _ _ _ _)
   | (with_reducible exact ih2 _ _ _ _ _ _ _ _)
   | (with_reducible exact cairnref32_Name.mono _ _)
   | (with_reducible exact LeO.refl _)
   | (with_reducible exact LeO.none _)
   | (with_reducible refine LeO.ite ?_ ?_)
   | (with_reducible refine LeO.bind ?_ (fun _ => ?_))
   | exact ih0 _ _ _ _ _ _ _
   | exact ih1 _ _ _ _ _ _ _ _
   | exact ih2 _ _ _ _ _ _ _ _
   | exact cairnref32_Name.mono _ _
   | exact LeO.none _
   | refine LeO.ite ?_ ?_
   | refine LeO.bind ?_ (fun _ => ?_)
theorem cairnref32_may.mono : ∀ a0 a1 a2 a3 a4 a5 k, LeO (cairnref32_may.f k a0 a1 a2 a3 a4 a5) (cairnref32_may.f (k + 1) a0 a1 a2 a3 a4 a5) := by
 intro a0 a1 a2 a3 a4 a5 k
 obtain ⟨ih0, ih1, ih2⟩ := cairnref32_may.mono_l k
 unfold cairnref32_may.f
 repeat' first
   | (with_reducible exact ih0 _ _ _ _ _ _ _)
   | (with_reducible exact ih1 _ _ _ _ _ _ _ _)
   | (with_reducible exact ih2 _ _ _ _ _ _ _ _)
   | (with_reducible exact cairnref32_Name.mono _ _)
   | (with_reducible exact LeO.refl _)
   | (with_reducible exact LeO.none _)
   | (with_reducible refine LeO.ite ?_ ?_)
   | (with_reducible refine LeO.bind ?_ (fun _ => ?_))
   | exact ih0 _ _ _ _ _ _ _
   | exact ih1 _ _ _ _ _ _ _ _
   | exact ih2 _ _ _ _ _ _ _ _
   | exact cairnref32_Name.mono _ _
   | exact LeO.none _
   | refine LeO.ite ?_ ?_
   | refine LeO.bind ?_ (fun _ => ?_)
end Go.Proofs.YthhemephaabblaaGreatDoor.Q
namespace Go.Proofs.YthhemephaabblaaGreatDoor.Q
open Go.RowKit  Go.Proofs.YthhemephaabblaaGreatDoorW.PrintWords Go.Proofs.YthhemephaabblaaGreatDoorW.PrintLast Go.Proofs.YthhemephaabblaaGreatDoorW.PrintMore
attribute [local go_sem] max2_int min2_int max_two min_two max_three min_three max_four min_four
set_option linter.unusedVariables false
set_option linter.unusedSimpArgs false
def cairnref32_Signs.f  : Option (List ByteArray) := some (([(⟨#[61]⟩ : ByteArray), (⟨#[33, 61]⟩ : ByteArray), (⟨#[60]⟩ : ByteArray), (⟨#[60, 61]⟩ : ByteArray), (⟨#[62]⟩ : ByteArray), (⟨#[62, 61]⟩ : ByteArray)] : List ByteArray))
set_option maxHeartbeats 8000000 in
set_option maxRecDepth 100000 in
theorem cairnref32_Signs.calls  (r : List ByteArray) (w : World) (h : cairnref32_Signs.f  = some r) :
  Calls Tryz.prog 33 #[] w fun e w' => ∃ v0_ : Value, e = .returned (v0_) ∧ Kd.R Kd.string 9 w' w.heap.size (fun _ => True) v0_ r ∧ Below w.heap.size w w' := by
 have HB := Aside0.mk (Below.refl w.heap.size w)
 have H : (some (([(⟨#[61]⟩ : ByteArray), (⟨#[33, 61]⟩ : ByteArray), (⟨#[60]⟩ : ByteArray), (⟨#[60, 61]⟩ : ByteArray), (⟨#[62]⟩ : ByteArray), (⟨#[62, 61]⟩ : ByteArray)] : List ByteArray))) = some r := h
 clear h
 obtain ⟨y186, hy186⟩ : ∃ y_ : List ByteArray, y_ = (([(⟨#[61]⟩ : ByteArray), (⟨#[33, 61]⟩ : ByteArray), (⟨#[60]⟩ : ByteArray), (⟨#[60, 61]⟩ : ByteArray), (⟨#[62]⟩ : ByteArray), (⟨#[62, 61]⟩ : ByteArray)] : List ByteArray)) := ⟨_, rfl⟩
 replace H : (some y186) = some r := by first | (rw [hy186]; with_reducible exact H) | (have H2_ := (Option.bind_some _ _).symm.trans H; rw [hy186]; with_reducible exact H2_) | (have H2_ := (Option.bind_some _ _).symm.trans H; with_reducible exact H2_) | with_reducible exact H | (rw [hy186]; exact H) | exact H
 have Ny186 := Aside0.mk hy186
 clear hy186
 obtain rfl := Option.some.inj H
 go_enter Tryz.func33, Tryz.ntmps33
 go_wp2_with (first | ((with_reducible refine gate_dst (N := 1) rfl ?_); refine Kd.R_lit Kd.string _ 9 ?hg (N := 1) ?hd (xs := ([(⟨#[61]⟩ : ByteArray), (⟨#[33, 61]⟩ : ByteArray), (⟨#[60]⟩ : ByteArray), (⟨#[60, 61]⟩ : ByteArray), (⟨#[62]⟩ : ByteArray), (⟨#[62, 61]⟩ : ByteArray)] : List ByteArray)) (inner := [.string (⟨#[61]⟩ : ByteArray), .string (⟨#[33, 61]⟩ : ByteArray), .string (⟨#[60]⟩ : ByteArray), .string (⟨#[60, 61]⟩ : ByteArray), .string (⟨#[62]⟩ : ByteArray), .string (⟨#[62, 61]⟩ : ByteArray)]) (ok := fun _ => True) (okp := fun _ => True) ?hr ?hp (fun _ hk => hk) trivial (Below.refl _ _) (Nat.le_refl _) (by simp) ?_; (case hd => rfl); (case hg => rfl); (case hr => first | (go_simp; done) | (go_simp; rfl)); (case hp => exact (Reps.one (show Kd.M Kd.string _ _ _ (⟨#[61]⟩ : ByteArray) [.string (⟨#[61]⟩ : ByteArray)] from rfl) (Reps.one (show Kd.M Kd.string _ _ _ (⟨#[33, 61]⟩ : ByteArray) [.string (⟨#[33, 61]⟩ : ByteArray)] from rfl) (Reps.one (show Kd.M Kd.string _ _ _ (⟨#[60]⟩ : ByteArray) [.string (⟨#[60]⟩ : ByteArray)] from rfl) (Reps.one (show Kd.M Kd.string _ _ _ (⟨#[60, 61]⟩ : ByteArray) [.string (⟨#[60, 61]⟩ : ByteArray)] from rfl) (Reps.one (show Kd.M Kd.string _ _ _ (⟨#[62]⟩ : ByteArray) [.string (⟨#[62]⟩ : ByteArray)] from rfl) (Reps.one (show Kd.M Kd.string _ _ _ (⟨#[62, 61]⟩ : ByteArray) [.string (⟨#[62, 61]⟩ : ByteArray)] from rfl) (Reps.none _ _)))))))); intro v187 w1 ho2 hb hg_ hnew_; clear hg_ hnew_; (first | rw [← Ny186.out] at ho2 | (simp only [Int.reduceToNat] at ho2; rw [← Ny186.out] at ho2)); have n0_ := Aside0.mk (Kd.R_lower ho2 (below_size (by repeat (first | (with_reducible first | exact HB.out | apply below_alloc | apply pw_below_drewN | apply below_drew1) | exact HB.out)))); have n1_ := Aside0.mk (below_step (by repeat (first | (with_reducible first | exact HB.out | apply below_alloc | apply pw_below_drewN | apply below_drew1) | exact HB.out)) hb); clear HB; have HO188 := n0_; have HB := n1_; clear n0_ n1_; clear hb ho2))
 go_ret
 exact ⟨_, by first | rfl | (simp [errW_none, errW_some] <;> rfl) | (simp [*, errW_none, errW_some] <;> rfl), by (with_reducible repeat (first | apply Kd.R_alloc | apply Kd.R_drewN | apply Kd.R_drew)); exact HO188.out, by repeat (first | (with_reducible first | exact HB.out | apply below_alloc | apply pw_below_drewN | apply below_drew1) | exact HB.out)⟩
def cairnref32_quoted.l0 : Nat → ByteArray → ByteArray → Int → Option (ByteArray)
 | 0, _, _, _ => none
 | k + 1, x0, x3, x4 => if x4 < (x0.size : Int) then (if 0 ≤ x4 then (if (bt x0 x4) = 34 then (if x3.size + 1 ≤ 9223372036854775807 then (if x4 ≤ (wrap64 (x4 + 1)) then (if (wrap64 (x4 + 1)) ≤ (x0.size : Int) then (if (x3 ++ (⟨#[92]⟩ : ByteArray)).size + (x0.extract (x4 : Int).toNat ((wrap64 (x4 + 1)) : Int).toNat).size ≤ 9223372036854775807 then (cairnref32_quoted.l0 k x0 ((x3 ++ (⟨#[92]⟩ : ByteArray)) ++ (x0.extract (x4 : Int).toNat ((wrap64 (x4 + 1)) : Int).toNat)) (wrap64 (x4 + 1))) else (none)) else (none)) else (none)) else (none)) else (if (bt x0 x4) = 92 then (if x3.size + 1 ≤ 9223372036854775807 then (if x4 ≤ (wrap64 (x4 + 1)) then (if (wrap64 (x4 + 1)) ≤ (x0.size : Int) then (if (x3 ++ (⟨#[92]⟩ : ByteArray)).size + (x0.extract (x4 : Int).toNat ((wrap64 (x4 + 1)) : Int).toNat).size ≤ 9223372036854775807 then (cairnref32_quoted.l0 k x0 ((x3 ++ (⟨#[92]⟩ : ByteArray)) ++ (x0.extract (x4 : Int).toNat ((wrap64 (x4 + 1)) : Int).toNat)) (wrap64 (x4 + 1))) else (none)) else (none)) else (none)) else (none)) else (if x4 ≤ (wrap64 (x4 + 1)) then (if (wrap64 (x4 + 1)) ≤ (x0.size : Int) then (if x3.size + (x0.extract (x4 : Int).toNat ((wrap64 (x4 + 1)) : Int).toNat).size ≤ 9223372036854775807 then (cairnref32_quoted.l0 k x0 (x3 ++ (x0.extract (x4 : Int).toNat ((wrap64 (x4 + 1)) : Int).toNat)) (wrap64 (x4 + 1))) else (none)) else (none)) else (none)))) else (none)) else (if x3.size + 1 ≤ 9223372036854775807 then (some (x3 ++ (⟨#[34]⟩ : ByteArray))) else (none))
def cairnref32_quoted.f (k : Nat) (a0 : ByteArray) : Option (ByteArray) := cairnref32_quoted.l0 k a0 (⟨#[34]⟩ : ByteArray) 0
theorem cairnref32_quoted.mono_l : ∀ k, (∀ y0 y1 y2, LeO (cairnref32_quoted.l0 k y0 y1 y2) (cairnref32_quoted.l0 (k + 1) y0 y1 y2))
 | 0 => fun _ _ _ r h => by simp [cairnref32_quoted.l0] at h
 | k + 1 => by
  have ih0 := cairnref32_quoted.mono_l k
  ·
   intro y0 y1 y2
   unfold cairnref32_quoted.l0
   repeat' first
   | (with_reducible exact ih0 _ _ _)
   | (with_reducible exact LeO.refl _)
   | (with_reducible exact LeO.none _)
   | (with_reducible refine LeO.ite ?_ ?_)
   | (with_reducible refine LeO.bind ?_ (fun _ => ?_))
   | exact ih0 _ _ _
   | exact LeO.none _
   | refine LeO.ite ?_ ?_
   | refine LeO.bind ?_ (fun _ => ?_)
theorem cairnref32_quoted.mono : ∀ a0 k, LeO (cairnref32_quoted.f k a0) (cairnref32_quoted.f (k + 1) a0) := by
 intro a0 k
 have ih0 := cairnref32_quoted.mono_l k
 unfold cairnref32_quoted.f
 repeat' first
   | (with_reducible exact ih0 _ _ _)
   | (with_reducible exact LeO.refl _)
   | (with_reducible exact LeO.none _)
   | (with_reducible refine LeO.ite ?_ ?_)
   | (with_reducible refine LeO.bind ?_ (fun _ => ?_))
   | exact ih0 _ _ _
   | exact LeO.none _
   | refine LeO.ite ?_ ?_
   | refine LeO.bind ?_ (fun _ => ?_)
set_option maxHeartbeats 8000000 in
set_option maxRecDepth 100000 in
theorem cairnref32_quoted.calls (k : Nat) (a0 : ByteArray) (r : ByteArray) (w : World) (h : cairnref32_quoted.f k a0 = some r) :
  Calls Tryz.prog 34 #[.string a0] w fun e w' => e = .returned (.string r) ∧ Drawn0 w w' := by
 have H : (cairnref32_quoted.l0 k a0 (⟨#[34]⟩ : ByteArray) 0) = some r := h
 clear h
 have H' := Aside0.mk H
 clear H
 go_enter Tryz.func34, Tryz.ntmps34
 go_wp2
 go_loopg [3, 4] k (fun kq v3 v4 w' => ∃ (x3_1 : ByteArray) (x4_1 : Int), v3 = .string x3_1 ∧ v4 = .int .i64 x4_1 ∧ Aside0 (cairnref32_quoted.l0 kq a0 x3_1 x4_1 = some r) ∧ Aside0 (kq ≤ k) ∧ Drawn0 w w')
 case atStart => exact ⟨((⟨#[34]⟩ : ByteArray)), (0), (by first | rfl | (simp; done) | (simp [*]; done)), (by first | rfl | (simp; done) | (simp [*]; done)), H', ⟨Nat.le_refl _⟩, by repeat (first | exact Drawn0.refl _ | apply Drawn0.step)⟩
 case round =>
  clear H'
  obtain ⟨x3_1, x4_1, rfl, rfl, HA, HK1, ⟨m1, rfl⟩⟩ := hrel
  cases gk with
  | zero => exact absurd HA.out (by simp [cairnref32_quoted.l0])
  | succ k1 =>
   have H := HA.out
   clear HA
   simp only [cairnref32_quoted.l0] at H
   by_cases c2 : x4_1 < (a0.size : Int)
   ·
    rw [if_pos c2] at H
    have c2b0 : decide (x4_1 < (a0.size : Int)) = true := decide_eq_true c2
    clear c2
    by_cases c3 : 0 ≤ x4_1
    ·
     rw [if_pos c3] at H
     have c3b0 : decide (0 ≤ x4_1) = true := decide_eq_true c3
     clear c3
     by_cases c5 : (bt a0 x4_1) = 34
     ·
      rw [if_pos c5] at H
      have c5b0 : ((bt a0 x4_1) == 34) = true := beq_iff_eq.mpr c5
      have c5b1 : ((bt a0 x4_1) != 34) = false := bne_eq_false_iff_eq.mpr c5
      clear c5
      by_cases c6 : x3_1.size + 1 ≤ 9223372036854775807
      ·
       rw [if_pos c6] at H
       have c6b0 := eq_true c6
       have c6b1 : decide (x3_1.size + 1 ≤ 9223372036854775807) = true := decide_eq_true c6
       try have c6b2 : (9223372036854775807 < x3_1.size + 1) = False := eq_false (Nat.not_lt.2 c6)
       have c7b0 := eq_true (of_decide_eq_true (by first | (with_reducible assumption) | assumption) : 0 ≤ x4_1)
       by_cases c8 : x4_1 ≤ (wrap64 (x4_1 + 1))
       ·
        rw [if_pos c8] at H
        have c8b0 := eq_true c8
        have c8b1 : decide (x4_1 ≤ (wrap64 (x4_1 + 1))) = true := decide_eq_true c8
        by_cases c9 : (wrap64 (x4_1 + 1)) ≤ (a0.size : Int)
        ·
         rw [if_pos c9] at H
         have c9b0 := eq_true c9
         have c9b1 : decide ((wrap64 (x4_1 + 1)) ≤ (a0.size : Int)) = true := decide_eq_true c9
         by_cases c10 : (x3_1 ++ (⟨#[92]⟩ : ByteArray)).size + (a0.extract (x4_1 : Int).toNat ((wrap64 (x4_1 + 1)) : Int).toNat).size ≤ 9223372036854775807
         ·
          rw [if_pos c10] at H
          have c10b0 := eq_true c10
          have c10b1 : decide ((x3_1 ++ (⟨#[92]⟩ : ByteArray)).size + (a0.extract (x4_1 : Int).toNat ((wrap64 (x4_1 + 1)) : Int).toNat).size ≤ 9223372036854775807) = true := decide_eq_true c10
          try have c10b2 : (9223372036854775807 < (x3_1 ++ (⟨#[92]⟩ : ByteArray)).size + (a0.extract (x4_1 : Int).toNat ((wrap64 (x4_1 + 1)) : Int).toNat).size) = False := eq_false (Nat.not_lt.2 c10)
          have H' := Aside0.mk H
          clear H
          have p4 : 0 ≤ (x4_1 : Int) := of_decide_eq_true (by first | (with_reducible assumption) | assumption)
          have q4 : x4_1 < (a0.size : Int) := of_decide_eq_true (by first | (with_reducible assumption) | assumption)
          have hx4 := bt_at a0 x4_1
          replace p4 := eq_true p4
          replace q4 := eq_true q4
          go_wp2
          go_roundg k1
          case measure => have := HK1.out; omega
          case rel => exact ⟨((x3_1 ++ (⟨#[92]⟩ : ByteArray)) ++ (a0.extract (x4_1 : Int).toNat ((wrap64 (x4_1 + 1)) : Int).toNat)), (wrap64 (x4_1 + 1)), (by first | rfl | (simp; done) | (simp [*]; done)), (by first | rfl | (simp; done) | (simp [*]; done)), H', ⟨by have := HK1.out; omega⟩, by repeat (first | exact Drawn0.refl _ | apply Drawn0.step)⟩
         ·
          rw [if_neg c10] at H
          exact absurd H (by simp)
        ·
         rw [if_neg c9] at H
         exact absurd H (by simp)
       ·
        rw [if_neg c8] at H
        exact absurd H (by simp)
      ·
       rw [if_neg c6] at H
       exact absurd H (by simp)
     ·
      rw [if_neg c5] at H
      have c5b0 : ((bt a0 x4_1) == 34) = false := beq_eq_false_iff_ne.mpr c5
      have c5b1 : ((bt a0 x4_1) != 34) = true := bne_iff_ne.mpr c5
      by_cases c12 : (bt a0 x4_1) = 92
      ·
       rw [if_pos c12] at H
       have c12b0 : ((bt a0 x4_1) == 92) = true := beq_iff_eq.mpr c12
       have c12b1 : ((bt a0 x4_1) != 92) = false := bne_eq_false_iff_eq.mpr c12
       clear c12
       by_cases c13 : x3_1.size + 1 ≤ 9223372036854775807
       ·
        rw [if_pos c13] at H
        have c13b0 := eq_true c13
        have c13b1 : decide (x3_1.size + 1 ≤ 9223372036854775807) = true := decide_eq_true c13
        try have c13b2 : (9223372036854775807 < x3_1.size + 1) = False := eq_false (Nat.not_lt.2 c13)
        have c14b0 := eq_true (of_decide_eq_true (by first | (with_reducible assumption) | assumption) : 0 ≤ x4_1)
        by_cases c15 : x4_1 ≤ (wrap64 (x4_1 + 1))
        ·
         rw [if_pos c15] at H
         have c15b0 := eq_true c15
         have c15b1 : decide (x4_1 ≤ (wrap64 (x4_1 + 1))) = true := decide_eq_true c15
         by_cases c16 : (wrap64 (x4_1 + 1)) ≤ (a0.size : Int)
         ·
          rw [if_pos c16] at H
          have c16b0 := eq_true c16
          have c16b1 : decide ((wrap64 (x4_1 + 1)) ≤ (a0.size : Int)) = true := decide_eq_true c16
          by_cases c17 : (x3_1 ++ (⟨#[92]⟩ : ByteArray)).size + (a0.extract (x4_1 : Int).toNat ((wrap64 (x4_1 + 1)) : Int).toNat).size ≤ 9223372036854775807
          ·
           rw [if_pos c17] at H
           have c17b0 := eq_true c17
           have c17b1 : decide ((x3_1 ++ (⟨#[92]⟩ : ByteArray)).size + (a0.extract (x4_1 : Int).toNat ((wrap64 (x4_1 + 1)) : Int).toNat).size ≤ 9223372036854775807) = true := decide_eq_true c17
           try have c17b2 : (9223372036854775807 < (x3_1 ++ (⟨#[92]⟩ : ByteArray)).size + (a0.extract (x4_1 : Int).toNat ((wrap64 (x4_1 + 1)) : Int).toNat).size) = False := eq_false (Nat.not_lt.2 c17)
           have H' := Aside0.mk H
           clear H
           have p4 : 0 ≤ (x4_1 : Int) := of_decide_eq_true (by first | (with_reducible assumption) | assumption)
           have q4 : x4_1 < (a0.size : Int) := of_decide_eq_true (by first | (with_reducible assumption) | assumption)
           have hx4 := bt_at a0 x4_1
           replace p4 := eq_true p4
           replace q4 := eq_true q4
           have p11 : 0 ≤ (x4_1 : Int) := of_decide_eq_true (by first | (with_reducible assumption) | assumption)
           have q11 : x4_1 < (a0.size : Int) := of_decide_eq_true (by first | (with_reducible assumption) | assumption)
           have hx11 := bt_at a0 x4_1
           replace p11 := eq_true p11
           replace q11 := eq_true q11
           go_wp2
           go_roundg k1
           case measure => have := HK1.out; omega
           case rel => exact ⟨((x3_1 ++ (⟨#[92]⟩ : ByteArray)) ++ (a0.extract (x4_1 : Int).toNat ((wrap64 (x4_1 + 1)) : Int).toNat)), (wrap64 (x4_1 + 1)), (by first | rfl | (simp; done) | (simp [*]; done)), (by first | rfl | (simp; done) | (simp [*]; done)), H', ⟨by have := HK1.out; omega⟩, by repeat (first | exact Drawn0.refl _ | apply Drawn0.step)⟩
          ·
           rw [if_neg c17] at H
           exact absurd H (by simp)
         ·
          rw [if_neg c16] at H
          exact absurd H (by simp)
        ·
         rw [if_neg c15] at H
         exact absurd H (by simp)
       ·
        rw [if_neg c13] at H
        exact absurd H (by simp)
      ·
       rw [if_neg c12] at H
       have c12b0 : ((bt a0 x4_1) == 92) = false := beq_eq_false_iff_ne.mpr c12
       have c12b1 : ((bt a0 x4_1) != 92) = true := bne_iff_ne.mpr c12
       have c18b0 := eq_true (of_decide_eq_true (by first | (with_reducible assumption) | assumption) : 0 ≤ x4_1)
       by_cases c19 : x4_1 ≤ (wrap64 (x4_1 + 1))
       ·
        rw [if_pos c19] at H
        have c19b0 := eq_true c19
        have c19b1 : decide (x4_1 ≤ (wrap64 (x4_1 + 1))) = true := decide_eq_true c19
        by_cases c20 : (wrap64 (x4_1 + 1)) ≤ (a0.size : Int)
        ·
         rw [if_pos c20] at H
         have c20b0 := eq_true c20
         have c20b1 : decide ((wrap64 (x4_1 + 1)) ≤ (a0.size : Int)) = true := decide_eq_true c20
         by_cases c21 : x3_1.size + (a0.extract (x4_1 : Int).toNat ((wrap64 (x4_1 + 1)) : Int).toNat).size ≤ 9223372036854775807
         ·
          rw [if_pos c21] at H
          have c21b0 := eq_true c21
          have c21b1 : decide (x3_1.size + (a0.extract (x4_1 : Int).toNat ((wrap64 (x4_1 + 1)) : Int).toNat).size ≤ 9223372036854775807) = true := decide_eq_true c21
          try have c21b2 : (9223372036854775807 < x3_1.size + (a0.extract (x4_1 : Int).toNat ((wrap64 (x4_1 + 1)) : Int).toNat).size) = False := eq_false (Nat.not_lt.2 c21)
          have H' := Aside0.mk H
          clear H
          have p4 : 0 ≤ (x4_1 : Int) := of_decide_eq_true (by first | (with_reducible assumption) | assumption)
          have q4 : x4_1 < (a0.size : Int) := of_decide_eq_true (by first | (with_reducible assumption) | assumption)
          have hx4 := bt_at a0 x4_1
          replace p4 := eq_true p4
          replace q4 := eq_true q4
          have p11 : 0 ≤ (x4_1 : Int) := of_decide_eq_true (by first | (with_reducible assumption) | assumption)
          have q11 : x4_1 < (a0.size : Int) := of_decide_eq_true (by first | (with_reducible assumption) | assumption)
          have hx11 := bt_at a0 x4_1
          replace p11 := eq_true p11
          replace q11 := eq_true q11
          go_wp2
          go_roundg k1
          case measure => have := HK1.out; omega
          case rel => exact ⟨(x3_1 ++ (a0.extract (x4_1 : Int).toNat ((wrap64 (x4_1 + 1)) : Int).toNat)), (wrap64 (x4_1 + 1)), (by first | rfl | (simp; done) | (simp [*]; done)), (by first | rfl | (simp; done) | (simp [*]; done)), H', ⟨by have := HK1.out; omega⟩, by repeat (first | exact Drawn0.refl _ | apply Drawn0.step)⟩
         ·
          rw [if_neg c21] at H
          exact absurd H (by simp)
        ·
         rw [if_neg c20] at H
         exact absurd H (by simp)
       ·
        rw [if_neg c19] at H
        exact absurd H (by simp)
    ·
     rw [if_neg c3] at H
     exact absurd H (by simp)
   ·
    rw [if_neg c2] at H
    have c2b0 : decide (x4_1 < (a0.size : Int)) = false := decide_eq_false c2
    clear c2
    by_cases c22 : x3_1.size + 1 ≤ 9223372036854775807
    ·
     rw [if_pos c22] at H
     have c22b0 := eq_true c22
     have c22b1 : decide (x3_1.size + 1 ≤ 9223372036854775807) = true := decide_eq_true c22
     try have c22b2 : (9223372036854775807 < x3_1.size + 1) = False := eq_false (Nat.not_lt.2 c22)
     obtain rfl := Option.some.inj H
     go_wp2
     go_ret
     exact ⟨by first | rfl | (simp; done) | (simp [*]; done), by repeat (first | exact Drawn0.refl _ | apply Drawn0.step)⟩
    ·
     rw [if_neg c22] at H
     exact absurd H (by simp)
end Go.Proofs.YthhemephaabblaaGreatDoor.Q
