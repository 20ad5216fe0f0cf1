
import Derived.Test.YthhemephaabblaaGreatDoorZDi
import Derived.Test.YthhemephaabblaaGreatDoorZDh
import Derived.Deep.LoopGhost
import Derived.Test.YthhemephaabblaaGreatDoorZDc
namespace Go.Proofs.YthhemephaabblaaGreatDoor.R
open Go.RowKit Go.Proofs.YthhemephaabblaaGreatDoor.Q Go.Proofs.YthhemephaabblaaGreatDoor.Hq  Go.Proofs.YthhemephaabblaaGreatDoorW.PrintWords Go.Proofs.YthhemephaabblaaGreatDoorW.PrintLast Go.Proofs.YthhemephaabblaaGreatDoorW.PrintMore
attribute [local go_sem] max2_int min2_int max_two min_two max_three min_three max_four min_four
set_option linter.unusedVariables false
set_option linter.unusedSimpArgs false
def query_reader_name.f (k : Nat) (s0_0 : ByteArray) (s0_1 : Int) (s0_2 : Int) (s0_3 : ByteArray) (s0_4 : Int) (s0_5 : Value) (s0_6 : ByteArray) (s0_7 : Value) (s0_8 : ByteArray) (s0_9 : Bool) (s0_10 : Int) : Option (ByteArray × Bool × ByteArray × Int × Int × ByteArray × Int × ByteArray × ByteArray × Bool × Int) := if s0_2 = 2 then (if (s0_3.size : Int) > 16 then (some ((⟨#[]⟩ : ByteArray), false, s0_0, s0_1, s0_2, s0_3, s0_4, s0_6, s0_8, s0_9, s0_10)) else ((query_reader_step.f k s0_0 s0_1 s0_2 s0_3 s0_4 s0_5 s0_6 s0_7 s0_8 s0_9 s0_10).bind fun bt234 => (some (s0_3, true, bt234.1, bt234.2.1, bt234.2.2.1, bt234.2.2.2.1, bt234.2.2.2.2.1, bt234.2.2.2.2.2.1, bt234.2.2.2.2.2.2.1, bt234.2.2.2.2.2.2.2.1, bt234.2.2.2.2.2.2.2.2)))) else (some ((⟨#[]⟩ : ByteArray), false, s0_0, s0_1, s0_2, s0_3, s0_4, s0_6, s0_8, s0_9, s0_10))
set_option maxHeartbeats 8000000 in
set_option maxRecDepth 100000 in
theorem query_reader_name.calls (k : Nat) (g : Nat) (s0_0 : ByteArray) (s0_1 : Int) (s0_2 : Int) (s0_3 : ByteArray) (s0_4 : Int) (s0_5 : Value) (s0_6 : ByteArray) (s0_7 : Value) (s0_8 : ByteArray) (s0_9 : Bool) (s0_10 : Int) (r1 : ByteArray) (r2 : Bool) (r3 : ByteArray) (r4 : Int) (r5 : Int) (r6 : ByteArray) (r7 : Int) (r8 : ByteArray) (r9 : ByteArray) (r10 : Bool) (r11 : Int) (w0 w : World) (hI : IsS60 w0 w g s0_0 s0_1 s0_2 s0_3 s0_4 s0_5 s0_6 s0_7 s0_8 s0_9 s0_10) (hB : Below w0.heap.size w0 w) (h : query_reader_name.f k s0_0 s0_1 s0_2 s0_3 s0_4 s0_5 s0_6 s0_7 s0_8 s0_9 s0_10 = some (r1, r2, r3, r4, r5, r6, r7, r8, r9, r10, r11)) :
  Calls Tryz.prog 61 #[.pointer (some ⟨g, 0, none⟩)] w fun e w' => e = .returned (.tuple #[.string r1, .bool r2]) ∧ IsS60 w0 w' g r3 r4 r5 r6 r7 s0_5 r8 s0_7 r9 r10 r11 ∧ Below w0.heap.size w0 w' ∧ KeepBut w w' g none := by
 have HI0 := Aside0.mk hI
 have HK := Aside0.mk (KeepBut.refl w g none)
 have HL := Aside0.mk hB.size
 clear hI
 have HW0 := Aside0.mk hB.size
 have HB := Aside0.mk hB
 clear hB
 have H : (if s0_2 = 2 then (if (s0_3.size : Int) > 16 then (some ((⟨#[]⟩ : ByteArray), false, s0_0, s0_1, s0_2, s0_3, s0_4, s0_6, s0_8, s0_9, s0_10)) else ((query_reader_step.f k s0_0 s0_1 s0_2 s0_3 s0_4 s0_5 s0_6 s0_7 s0_8 s0_9 s0_10).bind fun bt234 => (some (s0_3, true, bt234.1, bt234.2.1, bt234.2.2.1, bt234.2.2.2.1, bt234.2.2.2.2.1, bt234.2.2.2.2.2.1, bt234.2.2.2.2.2.2.1, bt234.2.2.2.2.2.2.2.1, bt234.2.2.2.2.2.2.2.2)))) else (some ((⟨#[]⟩ : ByteArray), false, s0_0, s0_1, s0_2, s0_3, s0_4, s0_6, s0_8, s0_9, s0_10))) = some (r1, r2, r3, r4, r5, r6, r7, r8, r9, r10, r11) := h
 clear h
 by_cases c2 : s0_2 = 2
 ·
  rw [if_pos c2] at H
  have c2b0 : (s0_2 == 2) = true := beq_iff_eq.mpr c2
  have c2b1 : (s0_2 != 2) = false := bne_eq_false_iff_eq.mpr c2
  clear c2
  by_cases c3 : (s0_3.size : Int) > 16
  ·
   rw [if_pos c3] at H
   have c3b0 : decide (16 < (s0_3.size : Int)) = true := decide_eq_true c3
   have c3b1 : decide (16 < s0_3.size) = true := decide_eq_true (by omega)
   clear c3
   simp only [Option.some.injEq, Prod.mk.injEq] at H
   obtain ⟨rfl, rfl, rfl, rfl, rfl, rfl, rfl, rfl, rfl, rfl, rfl⟩ := H
   obtain ⟨HGz4, hgz4⟩ := HI0.out
   have hcz4_0 := cellS60_0 HGz4
   have hcz4_1 := cellS60_1 HGz4
   have hcz4_2 := cellS60_2 HGz4
   have hcz4_3 := cellS60_3 HGz4
   have hcz4_4 := cellS60_4 HGz4
   have hcz4_5 := cellS60_5 HGz4
   have hcz4_6 := cellS60_6 HGz4
   have hcz4_7 := cellS60_7 HGz4
   have hcz4_8 := cellS60_8 HGz4
   have hcz4_9 := cellS60_9 HGz4
   have hcz4_10 := cellS60_10 HGz4
   have hfz4_0 := blk_frozen HGz4 0
   have hfz4_1 := blk_frozen HGz4 1
   have hfz4_2 := blk_frozen HGz4 2
   have hfz4_3 := blk_frozen HGz4 3
   have hfz4_4 := blk_frozen HGz4 4
   have hfz4_6 := blk_frozen HGz4 6
   have hfz4_8 := blk_frozen HGz4 8
   have hfz4_9 := blk_frozen HGz4 9
   have hfz4_10 := blk_frozen HGz4 10
   clear HGz4 hgz4
   go_enter Tryz.func61, Tryz.ntmps61
   go_wp2
   go_ret2
   exact ⟨by first | rfl | (simp [errW_none, errW_some] <;> rfl) | (simp [*, errW_none, errW_some] <;> rfl), by repeat (first | (with_reducible first | exact HI0.out | apply IsS60.alloc | apply IsS60.drewN | apply IsS60.drew | apply IsS60.set_0 | apply IsS60.set_1 | apply IsS60.set_2 | apply IsS60.set_3 | apply IsS60.set_4 | apply IsS60.set_6 | apply IsS60.set_8 | apply IsS60.set_9 | apply IsS60.set_10) | exact HI0.out), by repeat (first | (with_reducible first | exact HB.out | apply below_alloc | apply pw_below_drewN | apply below_drew1 | refine below_set ?_ (IsS60.ge HI0.out)) | exact HB.out), by repeat (first | (with_reducible first | exact HK.out | apply KeepBut.set_ | apply keep_drewN | apply keep_drew | apply keep_alloc) | exact HK.out)⟩
  ·
   rw [if_neg c3] at H
   have c3b0 : decide (16 < (s0_3.size : Int)) = false := decide_eq_false c3
   have c3b1 : decide (16 < s0_3.size) = false := decide_eq_false (by omega)
   clear c3
   replace H := Option.bind_eq_some_iff.mp H
   obtain ⟨⟨t234, t235, t236, t237, t238, t239, t240, t241, t242⟩, A50, H⟩ := H
   replace H : (some (s0_3, true, t234, t235, t236, t237, t238, t239, t240, t241, t242)) = some (r1, r2, r3, r4, r5, r6, r7, r8, r9, r10, r11) := H
   have A5 := Aside0.mk A50
   clear A50
   simp only [Option.some.injEq, Prod.mk.injEq] at H
   obtain ⟨rfl, rfl, rfl, rfl, rfl, rfl, rfl, rfl, rfl, rfl, rfl⟩ := H
   obtain ⟨HGz6, hgz6⟩ := HI0.out
   have hcz6_0 := cellS60_0 HGz6
   have hcz6_1 := cellS60_1 HGz6
   have hcz6_2 := cellS60_2 HGz6
   have hcz6_3 := cellS60_3 HGz6
   have hcz6_4 := cellS60_4 HGz6
   have hcz6_5 := cellS60_5 HGz6
   have hcz6_6 := cellS60_6 HGz6
   have hcz6_7 := cellS60_7 HGz6
   have hcz6_8 := cellS60_8 HGz6
   have hcz6_9 := cellS60_9 HGz6
   have hcz6_10 := cellS60_10 HGz6
   have hfz6_0 := blk_frozen HGz6 0
   have hfz6_1 := blk_frozen HGz6 1
   have hfz6_2 := blk_frozen HGz6 2
   have hfz6_3 := blk_frozen HGz6 3
   have hfz6_4 := blk_frozen HGz6 4
   have hfz6_6 := blk_frozen HGz6 6
   have hfz6_8 := blk_frozen HGz6 8
   have hfz6_9 := blk_frozen HGz6 9
   have hfz6_10 := blk_frozen HGz6 10
   clear HGz6 hgz6
   go_enter Tryz.func61, Tryz.ntmps61
   go_wp2_with (first | ((with_reducible refine gate_callee (f := 44) rfl ?_); refine goesL_ (some 22) rfl rfl Tryz.func44 (by kernel_rfl) rfl #[.pointer (some ⟨g, 0, none⟩)] rfl (by (try simp only [List.map_toArray, List.map_cons, List.map_nil]); first | done | rfl | (simp only [List.length_drop, List.length_take]; rfl)) ?_; (with_reducible refine (query_reader_step.calls k g s0_0 s0_1 s0_2 s0_3 s0_4 s0_5 s0_6 s0_7 s0_8 s0_9 s0_10 t234 t235 t236 t237 t238 t239 t240 t241 t242 w0 _ ?side1 ?side2 A5.out).mono ?_); (case side1 => repeat (first | (with_reducible first | exact HI0.out | apply IsS60.alloc | apply IsS60.drewN | apply IsS60.drew | apply IsS60.set_0 | apply IsS60.set_1 | apply IsS60.set_2 | apply IsS60.set_3 | apply IsS60.set_4 | apply IsS60.set_6 | apply IsS60.set_8 | apply IsS60.set_9 | apply IsS60.set_10) | exact HI0.out)); (case side2 => repeat (first | (with_reducible first | exact HB.out | apply below_alloc | apply pw_below_drewN | apply below_drew1 | refine below_set ?_ (IsS60.ge HI0.out)) | exact HB.out)); rintro e w7 ⟨rfl, hi, hb, hk⟩; refine ⟨_, rfl, ?_⟩; have n0_ := Aside0.mk (KeepBut.trans (by repeat (first | (with_reducible first | exact HK.out | apply KeepBut.set_ | apply keep_drewN | apply keep_drew | apply keep_alloc) | exact HK.out)) hk (.inl rfl)); have n1_ := Aside0.mk (hb); have n2_ := Aside0.mk (hi); clear HK; clear HB; clear HI0; have HK := n0_; have HB := n1_; have HI0 := n2_; clear n0_ n1_ n2_; (try clear hb); (try clear hb2); (try clear hk); (try clear hi)))
   go_ret2
   exact ⟨by first | rfl | (simp [errW_none, errW_some] <;> rfl) | (simp [*, errW_none, errW_some] <;> rfl), by repeat (first | (with_reducible first | exact HI0.out | apply IsS60.alloc | apply IsS60.drewN | apply IsS60.drew | apply IsS60.set_0 | apply IsS60.set_1 | apply IsS60.set_2 | apply IsS60.set_3 | apply IsS60.set_4 | apply IsS60.set_6 | apply IsS60.set_8 | apply IsS60.set_9 | apply IsS60.set_10) | exact HI0.out), by repeat (first | (with_reducible first | exact HB.out | apply below_alloc | apply pw_below_drewN | apply below_drew1 | refine below_set ?_ (IsS60.ge HI0.out)) | exact HB.out), by repeat (first | (with_reducible first | exact HK.out | apply KeepBut.set_ | apply keep_drewN | apply keep_drew | apply keep_alloc) | exact HK.out)⟩
 ·
  rw [if_neg c2] at H
  have c2b0 : (s0_2 == 2) = false := beq_eq_false_iff_ne.mpr c2
  have c2b1 : (s0_2 != 2) = true := bne_iff_ne.mpr c2
  simp only [Option.some.injEq, Prod.mk.injEq] at H
  obtain ⟨rfl, rfl, rfl, rfl, rfl, rfl, rfl, rfl, rfl, rfl, rfl⟩ := H
  obtain ⟨HGz8, hgz8⟩ := HI0.out
  have hcz8_0 := cellS60_0 HGz8
  have hcz8_1 := cellS60_1 HGz8
  have hcz8_2 := cellS60_2 HGz8
  have hcz8_3 := cellS60_3 HGz8
  have hcz8_4 := cellS60_4 HGz8
  have hcz8_5 := cellS60_5 HGz8
  have hcz8_6 := cellS60_6 HGz8
  have hcz8_7 := cellS60_7 HGz8
  have hcz8_8 := cellS60_8 HGz8
  have hcz8_9 := cellS60_9 HGz8
  have hcz8_10 := cellS60_10 HGz8
  have hfz8_0 := blk_frozen HGz8 0
  have hfz8_1 := blk_frozen HGz8 1
  have hfz8_2 := blk_frozen HGz8 2
  have hfz8_3 := blk_frozen HGz8 3
  have hfz8_4 := blk_frozen HGz8 4
  have hfz8_6 := blk_frozen HGz8 6
  have hfz8_8 := blk_frozen HGz8 8
  have hfz8_9 := blk_frozen HGz8 9
  have hfz8_10 := blk_frozen HGz8 10
  clear HGz8 hgz8
  go_enter Tryz.func61, Tryz.ntmps61
  go_wp2
  go_ret2
  exact ⟨by first | rfl | (simp [errW_none, errW_some] <;> rfl) | (simp [*, errW_none, errW_some] <;> rfl), by repeat (first | (with_reducible first | exact HI0.out | apply IsS60.alloc | apply IsS60.drewN | apply IsS60.drew | apply IsS60.set_0 | apply IsS60.set_1 | apply IsS60.set_2 | apply IsS60.set_3 | apply IsS60.set_4 | apply IsS60.set_6 | apply IsS60.set_8 | apply IsS60.set_9 | apply IsS60.set_10) | exact HI0.out), by repeat (first | (with_reducible first | exact HB.out | apply below_alloc | apply pw_below_drewN | apply below_drew1 | refine below_set ?_ (IsS60.ge HI0.out)) | exact HB.out), by repeat (first | (with_reducible first | exact HK.out | apply KeepBut.set_ | apply keep_drewN | apply keep_drew | apply keep_alloc) | exact HK.out)⟩
def query_reader_table.f (k : Nat) (s0_0 : ByteArray) (s0_1 : Int) (s0_2 : Int) (s0_3 : ByteArray) (s0_4 : Int) (s0_5 : Value) (s0_6 : ByteArray) (s0_7 : Value) (s0_8 : ByteArray) (s0_9 : Bool) (s0_10 : Int) : Option (Bool × ByteArray × Int × Int × ByteArray × Int × ByteArray × ByteArray × Bool × Int) := (query_reader_name.f k s0_0 s0_1 s0_2 s0_3 s0_4 s0_5 s0_6 s0_7 s0_8 s0_9 s0_10).bind fun bt264 => (some (bt264.2.1, bt264.2.2.1, bt264.2.2.2.1, bt264.2.2.2.2.1, bt264.2.2.2.2.2.1, bt264.2.2.2.2.2.2.1, bt264.1, bt264.2.2.2.2.2.2.2.2.1, bt264.2.2.2.2.2.2.2.2.2.1, bt264.2.2.2.2.2.2.2.2.2.2))
set_option maxHeartbeats 8000000 in
set_option maxRecDepth 100000 in
theorem query_reader_table.calls (k : Nat) (g : Nat) (s0_0 : ByteArray) (s0_1 : Int) (s0_2 : Int) (s0_3 : ByteArray) (s0_4 : Int) (s0_5 : Value) (s0_6 : ByteArray) (s0_7 : Value) (s0_8 : ByteArray) (s0_9 : Bool) (s0_10 : Int) (r1 : Bool) (r2 : ByteArray) (r3 : Int) (r4 : Int) (r5 : ByteArray) (r6 : Int) (r7 : ByteArray) (r8 : ByteArray) (r9 : Bool) (r10 : Int) (w0 w : World) (hI : IsS60 w0 w g s0_0 s0_1 s0_2 s0_3 s0_4 s0_5 s0_6 s0_7 s0_8 s0_9 s0_10) (hB : Below w0.heap.size w0 w) (h : query_reader_table.f k s0_0 s0_1 s0_2 s0_3 s0_4 s0_5 s0_6 s0_7 s0_8 s0_9 s0_10 = some (r1, r2, r3, r4, r5, r6, r7, r8, r9, r10)) :
  Calls Tryz.prog 40 #[.pointer (some ⟨g, 0, none⟩)] w fun e w' => e = .returned (.bool r1) ∧ IsS60 w0 w' g r2 r3 r4 r5 r6 s0_5 r7 s0_7 r8 r9 r10 ∧ Below w0.heap.size w0 w' ∧ KeepBut w w' g none := by
 have HI0 := Aside0.mk hI
 have HK := Aside0.mk (KeepBut.refl w g none)
 have HL := Aside0.mk hB.size
 clear hI
 have HW0 := Aside0.mk hB.size
 have HB := Aside0.mk hB
 clear hB
 have H : ((query_reader_name.f k s0_0 s0_1 s0_2 s0_3 s0_4 s0_5 s0_6 s0_7 s0_8 s0_9 s0_10).bind fun bt264 => (some (bt264.2.1, bt264.2.2.1, bt264.2.2.2.1, bt264.2.2.2.2.1, bt264.2.2.2.2.2.1, bt264.2.2.2.2.2.2.1, bt264.1, bt264.2.2.2.2.2.2.2.2.1, bt264.2.2.2.2.2.2.2.2.2.1, bt264.2.2.2.2.2.2.2.2.2.2))) = some (r1, r2, r3, r4, r5, r6, r7, r8, r9, r10) := h
 clear h
 replace H := Option.bind_eq_some_iff.mp H
 obtain ⟨⟨t264, t265, t266, t267, t268, t269, t270, t271, t272, t273, t274⟩, A20, H⟩ := H
 replace H : (some (t265, t266, t267, t268, t269, t270, t264, t272, t273, t274)) = some (r1, r2, r3, r4, r5, r6, r7, r8, r9, r10) := H
 have A2 := Aside0.mk A20
 clear A20
 simp only [Option.some.injEq, Prod.mk.injEq] at H
 obtain ⟨rfl, rfl, rfl, rfl, rfl, rfl, rfl, rfl, rfl, rfl⟩ := H
 go_enter Tryz.func40, Tryz.ntmps40
 go_wp2_with (first | ((with_reducible refine gate_callee (f := 61) rfl ?_); refine goesL_ (some 6) rfl rfl Tryz.func61 (by kernel_rfl) rfl #[.pointer (some ⟨g, 0, none⟩)] rfl (by (try simp only [List.map_toArray, List.map_cons, List.map_nil]); first | done | rfl | (simp only [List.length_drop, List.length_take]; rfl)) ?_; (with_reducible refine (query_reader_name.calls k g s0_0 s0_1 s0_2 s0_3 s0_4 s0_5 s0_6 s0_7 s0_8 s0_9 s0_10 t264 t265 t266 t267 t268 t269 t270 t271 t272 t273 t274 w0 _ ?side1 ?side2 A2.out).mono ?_); (case side1 => repeat (first | (with_reducible first | exact HI0.out | apply IsS60.alloc | apply IsS60.drewN | apply IsS60.drew | apply IsS60.set_0 | apply IsS60.set_1 | apply IsS60.set_2 | apply IsS60.set_3 | apply IsS60.set_4 | apply IsS60.set_6 | apply IsS60.set_8 | apply IsS60.set_9 | apply IsS60.set_10) | exact HI0.out)); (case side2 => repeat (first | (with_reducible first | exact HB.out | apply below_alloc | apply pw_below_drewN | apply below_drew1 | refine below_set ?_ (IsS60.ge HI0.out)) | exact HB.out)); rintro e w3 ⟨rfl, hi, hb, hk⟩; refine ⟨_, rfl, ?_⟩; have n0_ := Aside0.mk (KeepBut.trans (by repeat (first | (with_reducible first | exact HK.out | apply KeepBut.set_ | apply keep_drewN | apply keep_drew | apply keep_alloc) | exact HK.out)) hk (.inl rfl)); have n1_ := Aside0.mk (hb); have n2_ := Aside0.mk (hi); clear HK; clear HB; clear HI0; have HK := n0_; have HB := n1_; have HI0 := n2_; clear n0_ n1_ n2_; (try clear hb); (try clear hb2); (try clear hk); (try clear hi); obtain ⟨HGz4, hgz4⟩ := HI0.out; have hcz4_0 := cellS60_0 HGz4; have hcz4_1 := cellS60_1 HGz4; have hcz4_2 := cellS60_2 HGz4; have hcz4_3 := cellS60_3 HGz4; have hcz4_4 := cellS60_4 HGz4; have hcz4_5 := cellS60_5 HGz4; have hcz4_6 := cellS60_6 HGz4; have hcz4_7 := cellS60_7 HGz4; have hcz4_8 := cellS60_8 HGz4; have hcz4_9 := cellS60_9 HGz4; have hcz4_10 := cellS60_10 HGz4; have hfz4_0 := blk_frozen HGz4 0; have hfz4_1 := blk_frozen HGz4 1; have hfz4_2 := blk_frozen HGz4 2; have hfz4_3 := blk_frozen HGz4 3; have hfz4_4 := blk_frozen HGz4 4; have hfz4_6 := blk_frozen HGz4 6; have hfz4_8 := blk_frozen HGz4 8; have hfz4_9 := blk_frozen HGz4 9; have hfz4_10 := blk_frozen HGz4 10; clear HGz4 hgz4))
 go_ret
 exact ⟨by first | rfl | (simp [errW_none, errW_some] <;> rfl) | (simp [*, errW_none, errW_some] <;> rfl), by repeat (first | (with_reducible first | exact HI0.out | apply IsS60.alloc | apply IsS60.drewN | apply IsS60.drew | apply IsS60.set_0 | apply IsS60.set_1 | apply IsS60.set_2 | apply IsS60.set_3 | apply IsS60.set_4 | apply IsS60.set_6 | apply IsS60.set_8 | apply IsS60.set_9 | apply IsS60.set_10) | exact HI0.out), by repeat (first | (with_reducible first | exact HB.out | apply below_alloc | apply pw_below_drewN | apply below_drew1 | refine below_set ?_ (IsS60.ge HI0.out)) | exact HB.out), by repeat (first | (with_reducible first | exact HK.out | apply KeepBut.set_ | apply keep_drewN | apply keep_drew | apply keep_alloc) | exact HK.out)⟩
def query_reader_order.f (k : Nat) (s0_0 : ByteArray) (s0_1 : Int) (s0_2 : Int) (s0_3 : ByteArray) (s0_4 : Int) (s0_5 : Value) (s0_6 : ByteArray) (s0_7 : Value) (s0_8 : ByteArray) (s0_9 : Bool) (s0_10 : Int) : Option (Bool × ByteArray × Int × Int × ByteArray × Int × ByteArray × ByteArray × Bool × Int) := (query_reader_pass.f k s0_0 s0_1 s0_2 s0_3 s0_4 s0_5 s0_6 s0_7 s0_8 s0_9 s0_10 2 (⟨#[98, 121]⟩ : ByteArray)).bind fun bt309 => (if bt309.1 = true then ((query_reader_name.f k bt309.2.1 bt309.2.2.1 bt309.2.2.2.1 bt309.2.2.2.2.1 bt309.2.2.2.2.2.1 s0_5 bt309.2.2.2.2.2.2.1 s0_7 bt309.2.2.2.2.2.2.2.1 bt309.2.2.2.2.2.2.2.2.1 bt309.2.2.2.2.2.2.2.2.2).bind fun bt319 => (if bt319.2.1 = true then ((query_reader_pass.f k bt319.2.2.1 bt319.2.2.2.1 bt319.2.2.2.2.1 bt319.2.2.2.2.2.1 bt319.2.2.2.2.2.2.1 s0_5 bt319.2.2.2.2.2.2.2.1 s0_7 bt319.1 bt319.2.2.2.2.2.2.2.2.2.1 bt319.2.2.2.2.2.2.2.2.2.2 2 (⟨#[100, 111, 119, 110]⟩ : ByteArray)).bind fun bt330 => (some (bt319.2.1, bt330.2.1, bt330.2.2.1, bt330.2.2.2.1, bt330.2.2.2.2.1, bt330.2.2.2.2.2.1, bt330.2.2.2.2.2.2.1, bt330.2.2.2.2.2.2.2.1, bt330.1, bt330.2.2.2.2.2.2.2.2.2))) else (some (bt319.2.1, bt319.2.2.1, bt319.2.2.2.1, bt319.2.2.2.2.1, bt319.2.2.2.2.2.1, bt319.2.2.2.2.2.2.1, bt319.2.2.2.2.2.2.2.1, bt319.1, bt319.2.2.2.2.2.2.2.2.2.1, bt319.2.2.2.2.2.2.2.2.2.2)))) else (some (false, bt309.2.1, bt309.2.2.1, bt309.2.2.2.1, bt309.2.2.2.2.1, bt309.2.2.2.2.2.1, bt309.2.2.2.2.2.2.1, bt309.2.2.2.2.2.2.2.1, bt309.2.2.2.2.2.2.2.2.1, bt309.2.2.2.2.2.2.2.2.2)))
set_option maxHeartbeats 8000000 in
set_option maxRecDepth 100000 in
theorem query_reader_order.calls (k : Nat) (g : Nat) (s0_0 : ByteArray) (s0_1 : Int) (s0_2 : Int) (s0_3 : ByteArray) (s0_4 : Int) (s0_5 : Value) (s0_6 : ByteArray) (s0_7 : Value) (s0_8 : ByteArray) (s0_9 : Bool) (s0_10 : Int) (r1 : Bool) (r2 : ByteArray) (r3 : Int) (r4 : Int) (r5 : ByteArray) (r6 : Int) (r7 : ByteArray) (r8 : ByteArray) (r9 : Bool) (r10 : Int) (w0 w : World) (hI : IsS60 w0 w g s0_0 s0_1 s0_2 s0_3 s0_4 s0_5 s0_6 s0_7 s0_8 s0_9 s0_10) (hB : Below w0.heap.size w0 w) (h : query_reader_order.f k s0_0 s0_1 s0_2 s0_3 s0_4 s0_5 s0_6 s0_7 s0_8 s0_9 s0_10 = some (r1, r2, r3, r4, r5, r6, r7, r8, r9, r10)) :
  Calls Tryz.prog 42 #[.pointer (some ⟨g, 0, none⟩)] w fun e w' => e = .returned (.bool r1) ∧ IsS60 w0 w' g r2 r3 r4 r5 r6 s0_5 r7 s0_7 r8 r9 r10 ∧ Below w0.heap.size w0 w' ∧ KeepBut w w' g none := by
 have HI0 := Aside0.mk hI
 have HK := Aside0.mk (KeepBut.refl w g none)
 have HL := Aside0.mk hB.size
 clear hI
 have HW0 := Aside0.mk hB.size
 have HB := Aside0.mk hB
 clear hB
 have H : ((query_reader_pass.f k s0_0 s0_1 s0_2 s0_3 s0_4 s0_5 s0_6 s0_7 s0_8 s0_9 s0_10 2 (⟨#[98, 121]⟩ : ByteArray)).bind fun bt309 => (if bt309.1 = true then ((query_reader_name.f k bt309.2.1 bt309.2.2.1 bt309.2.2.2.1 bt309.2.2.2.2.1 bt309.2.2.2.2.2.1 s0_5 bt309.2.2.2.2.2.2.1 s0_7 bt309.2.2.2.2.2.2.2.1 bt309.2.2.2.2.2.2.2.2.1 bt309.2.2.2.2.2.2.2.2.2).bind fun bt319 => (if bt319.2.1 = true then ((query_reader_pass.f k bt319.2.2.1 bt319.2.2.2.1 bt319.2.2.2.2.1 bt319.2.2.2.2.2.1 bt319.2.2.2.2.2.2.1 s0_5 bt319.2.2.2.2.2.2.2.1 s0_7 bt319.1 bt319.2.2.2.2.2.2.2.2.2.1 bt319.2.2.2.2.2.2.2.2.2.2 2 (⟨#[100, 111, 119, 110]⟩ : ByteArray)).bind fun bt330 => (some (bt319.2.1, bt330.2.1, bt330.2.2.1, bt330.2.2.2.1, bt330.2.2.2.2.1, bt330.2.2.2.2.2.1, bt330.2.2.2.2.2.2.1, bt330.2.2.2.2.2.2.2.1, bt330.1, bt330.2.2.2.2.2.2.2.2.2))) else (some (bt319.2.1, bt319.2.2.1, bt319.2.2.2.1, bt319.2.2.2.2.1, bt319.2.2.2.2.2.1, bt319.2.2.2.2.2.2.1, bt319.2.2.2.2.2.2.2.1, bt319.1, bt319.2.2.2.2.2.2.2.2.2.1, bt319.2.2.2.2.2.2.2.2.2.2)))) else (some (false, bt309.2.1, bt309.2.2.1, bt309.2.2.2.1, bt309.2.2.2.2.1, bt309.2.2.2.2.2.1, bt309.2.2.2.2.2.2.1, bt309.2.2.2.2.2.2.2.1, bt309.2.2.2.2.2.2.2.2.1, bt309.2.2.2.2.2.2.2.2.2)))) = some (r1, r2, r3, r4, r5, r6, r7, r8, r9, r10) := h
 clear h
 replace H := Option.bind_eq_some_iff.mp H
 obtain ⟨⟨t309, t310, t311, t312, t313, t314, t315, t316, t317, t318⟩, A20, H⟩ := H
 replace H : (if t309 = true then ((query_reader_name.f k t310 t311 t312 t313 t314 s0_5 t315 s0_7 t316 t317 t318).bind fun bt319 => (if bt319.2.1 = true then ((query_reader_pass.f k bt319.2.2.1 bt319.2.2.2.1 bt319.2.2.2.2.1 bt319.2.2.2.2.2.1 bt319.2.2.2.2.2.2.1 s0_5 bt319.2.2.2.2.2.2.2.1 s0_7 bt319.1 bt319.2.2.2.2.2.2.2.2.2.1 bt319.2.2.2.2.2.2.2.2.2.2 2 (⟨#[100, 111, 119, 110]⟩ : ByteArray)).bind fun bt330 => (some (bt319.2.1, bt330.2.1, bt330.2.2.1, bt330.2.2.2.1, bt330.2.2.2.2.1, bt330.2.2.2.2.2.1, bt330.2.2.2.2.2.2.1, bt330.2.2.2.2.2.2.2.1, bt330.1, bt330.2.2.2.2.2.2.2.2.2))) else (some (bt319.2.1, bt319.2.2.1, bt319.2.2.2.1, bt319.2.2.2.2.1, bt319.2.2.2.2.2.1, bt319.2.2.2.2.2.2.1, bt319.2.2.2.2.2.2.2.1, bt319.1, bt319.2.2.2.2.2.2.2.2.2.1, bt319.2.2.2.2.2.2.2.2.2.2)))) else (some (false, t310, t311, t312, t313, t314, t315, t316, t317, t318))) = some (r1, r2, r3, r4, r5, r6, r7, r8, r9, r10) := H
 have A2 := Aside0.mk A20
 clear A20
 by_cases c3 : t309 = true
 ·
  subst c3
  have H1 : ((query_reader_name.f k t310 t311 t312 t313 t314 s0_5 t315 s0_7 t316 t317 t318).bind fun bt319 => (if bt319.2.1 = true then ((query_reader_pass.f k bt319.2.2.1 bt319.2.2.2.1 bt319.2.2.2.2.1 bt319.2.2.2.2.2.1 bt319.2.2.2.2.2.2.1 s0_5 bt319.2.2.2.2.2.2.2.1 s0_7 bt319.1 bt319.2.2.2.2.2.2.2.2.2.1 bt319.2.2.2.2.2.2.2.2.2.2 2 (⟨#[100, 111, 119, 110]⟩ : ByteArray)).bind fun bt330 => (some (bt319.2.1, bt330.2.1, bt330.2.2.1, bt330.2.2.2.1, bt330.2.2.2.2.1, bt330.2.2.2.2.2.1, bt330.2.2.2.2.2.2.1, bt330.2.2.2.2.2.2.2.1, bt330.1, bt330.2.2.2.2.2.2.2.2.2))) else (some (bt319.2.1, bt319.2.2.1, bt319.2.2.2.1, bt319.2.2.2.2.1, bt319.2.2.2.2.2.1, bt319.2.2.2.2.2.2.1, bt319.2.2.2.2.2.2.2.1, bt319.1, bt319.2.2.2.2.2.2.2.2.2.1, bt319.2.2.2.2.2.2.2.2.2.2)))) = some (r1, r2, r3, r4, r5, r6, r7, r8, r9, r10) := by rw [if_pos rfl] at H; exact H
  clear H
  have H := H1
  clear H1
  replace H := Option.bind_eq_some_iff.mp H
  obtain ⟨⟨t319, t320, t321, t322, t323, t324, t325, t326, t327, t328, t329⟩, A40, H⟩ := H
  replace H : (if t320 = true then ((query_reader_pass.f k t321 t322 t323 t324 t325 s0_5 t326 s0_7 t319 t328 t329 2 (⟨#[100, 111, 119, 110]⟩ : ByteArray)).bind fun bt330 => (some (t320, bt330.2.1, bt330.2.2.1, bt330.2.2.2.1, bt330.2.2.2.2.1, bt330.2.2.2.2.2.1, bt330.2.2.2.2.2.2.1, bt330.2.2.2.2.2.2.2.1, bt330.1, bt330.2.2.2.2.2.2.2.2.2))) else (some (t320, t321, t322, t323, t324, t325, t326, t319, t328, t329))) = some (r1, r2, r3, r4, r5, r6, r7, r8, r9, r10) := H
  have A4 := Aside0.mk A40
  clear A40
  by_cases c5 : t320 = true
  ·
   subst c5
   have H1 : ((query_reader_pass.f k t321 t322 t323 t324 t325 s0_5 t326 s0_7 t319 t328 t329 2 (⟨#[100, 111, 119, 110]⟩ : ByteArray)).bind fun bt330 => (some (true, bt330.2.1, bt330.2.2.1, bt330.2.2.2.1, bt330.2.2.2.2.1, bt330.2.2.2.2.2.1, bt330.2.2.2.2.2.2.1, bt330.2.2.2.2.2.2.2.1, bt330.1, bt330.2.2.2.2.2.2.2.2.2))) = some (r1, r2, r3, r4, r5, r6, r7, r8, r9, r10) := by rw [if_pos rfl] at H; exact H
   clear H
   have H := H1
   clear H1
   replace H := Option.bind_eq_some_iff.mp H
   obtain ⟨⟨t330, t331, t332, t333, t334, t335, t336, t337, t338, t339⟩, A60, H⟩ := H
   replace H : (some (true, t331, t332, t333, t334, t335, t336, t337, t330, t339)) = some (r1, r2, r3, r4, r5, r6, r7, r8, r9, r10) := H
   have A6 := Aside0.mk A60
   clear A60
   simp only [Option.some.injEq, Prod.mk.injEq] at H
   obtain ⟨rfl, rfl, rfl, rfl, rfl, rfl, rfl, rfl, rfl, rfl⟩ := H
   go_enter Tryz.func42, Tryz.ntmps42
   go_wp2_with (first | ((with_reducible refine gate_callee (f := 45) rfl ?_); refine goesL_ (some 4) rfl rfl Tryz.func45 (by kernel_rfl) rfl #[.pointer (some ⟨g, 0, none⟩), .int .i64 2, .string (⟨#[98, 121]⟩ : ByteArray)] rfl (by (try simp only [List.map_toArray, List.map_cons, List.map_nil]); first | done | rfl | (simp only [List.length_drop, List.length_take]; rfl)) ?_; (with_reducible refine (query_reader_pass.calls k g s0_0 s0_1 s0_2 s0_3 s0_4 s0_5 s0_6 s0_7 s0_8 s0_9 s0_10 2 (⟨#[98, 121]⟩ : ByteArray) true t310 t311 t312 t313 t314 t315 t316 t317 t318 w0 _ ?side1 ?side2 A2.out).mono ?_); (case side1 => repeat (first | (with_reducible first | exact HI0.out | apply IsS60.alloc | apply IsS60.drewN | apply IsS60.drew | apply IsS60.set_0 | apply IsS60.set_1 | apply IsS60.set_2 | apply IsS60.set_3 | apply IsS60.set_4 | apply IsS60.set_6 | apply IsS60.set_8 | apply IsS60.set_9 | apply IsS60.set_10) | exact HI0.out)); (case side2 => repeat (first | (with_reducible first | exact HB.out | apply below_alloc | apply pw_below_drewN | apply below_drew1 | refine below_set ?_ (IsS60.ge HI0.out)) | exact HB.out)); rintro e w7 ⟨rfl, hi, hb, hk⟩; refine ⟨_, rfl, ?_⟩; have n0_ := Aside0.mk (KeepBut.trans (by repeat (first | (with_reducible first | exact HK.out | apply KeepBut.set_ | apply keep_drewN | apply keep_drew | apply keep_alloc) | exact HK.out)) hk (.inl rfl)); have n1_ := Aside0.mk (hb); have n2_ := Aside0.mk (hi); clear HK; clear HB; clear HI0; have HK := n0_; have HB := n1_; have HI0 := n2_; clear n0_ n1_ n2_; (try clear hb); (try clear hb2); (try clear hk); (try clear hi)) | ((with_reducible refine gate_callee (f := 61) rfl ?_); refine goesL_ (some 9) rfl rfl Tryz.func61 (by kernel_rfl) rfl #[.pointer (some ⟨g, 0, none⟩)] rfl (by (try simp only [List.map_toArray, List.map_cons, List.map_nil]); first | done | rfl | (simp only [List.length_drop, List.length_take]; rfl)) ?_; (with_reducible refine (query_reader_name.calls k g t310 t311 t312 t313 t314 s0_5 t315 s0_7 t316 t317 t318 t319 true t321 t322 t323 t324 t325 t326 t327 t328 t329 w0 _ ?side1 ?side2 A4.out).mono ?_); (case side1 => repeat (first | (with_reducible first | exact HI0.out | apply IsS60.alloc | apply IsS60.drewN | apply IsS60.drew | apply IsS60.set_0 | apply IsS60.set_1 | apply IsS60.set_2 | apply IsS60.set_3 | apply IsS60.set_4 | apply IsS60.set_6 | apply IsS60.set_8 | apply IsS60.set_9 | apply IsS60.set_10) | exact HI0.out)); (case side2 => repeat (first | (with_reducible first | exact HB.out | apply below_alloc | apply pw_below_drewN | apply below_drew1 | refine below_set ?_ (IsS60.ge HI0.out)) | exact HB.out)); rintro e w8 ⟨rfl, hi, hb, hk⟩; refine ⟨_, rfl, ?_⟩; have n0_ := Aside0.mk (KeepBut.trans (by repeat (first | (with_reducible first | exact HK.out | apply KeepBut.set_ | apply keep_drewN | apply keep_drew | apply keep_alloc) | exact HK.out)) hk (.inl rfl)); have n1_ := Aside0.mk (hb); have n2_ := Aside0.mk (hi); clear HK; clear HB; clear HI0; have HK := n0_; have HB := n1_; have HI0 := n2_; clear n0_ n1_ n2_; (try clear hb); (try clear hb2); (try clear hk); (try clear hi); obtain ⟨HGz9, hgz9⟩ := HI0.out; have hcz9_0 := cellS60_0 HGz9; have hcz9_1 := cellS60_1 HGz9; have hcz9_2 := cellS60_2 HGz9; have hcz9_3 := cellS60_3 HGz9; have hcz9_4 := cellS60_4 HGz9; have hcz9_5 := cellS60_5 HGz9; have hcz9_6 := cellS60_6 HGz9; have hcz9_7 := cellS60_7 HGz9; have hcz9_8 := cellS60_8 HGz9; have hcz9_9 := cellS60_9 HGz9; have hcz9_10 := cellS60_10 HGz9; have hfz9_0 := blk_frozen HGz9 0; have hfz9_1 := blk_frozen HGz9 1; have hfz9_2 := blk_frozen HGz9 2; have hfz9_3 := blk_frozen HGz9 3; have hfz9_4 := blk_frozen HGz9 4; have hfz9_6 := blk_frozen HGz9 6; have hfz9_8 := blk_frozen HGz9 8; have hfz9_9 := blk_frozen HGz9 9; have hfz9_10 := blk_frozen HGz9 10; clear HGz9 hgz9) | ((with_reducible refine gate_callee (f := 45) rfl ?_); refine goesL_ (some 18) rfl rfl Tryz.func45 (by kernel_rfl) rfl #[.pointer (some ⟨g, 0, none⟩), .int .i64 2, .string (⟨#[100, 111, 119, 110]⟩ : ByteArray)] rfl (by (try simp only [List.map_toArray, List.map_cons, List.map_nil]); first | done | rfl | (simp only [List.length_drop, List.length_take]; rfl)) ?_; (with_reducible refine (query_reader_pass.calls k g t321 t322 t323 t324 t325 s0_5 t326 s0_7 t319 t328 t329 2 (⟨#[100, 111, 119, 110]⟩ : ByteArray) t330 t331 t332 t333 t334 t335 t336 t337 t338 t339 w0 _ ?side1 ?side2 A6.out).mono ?_); (case side1 => repeat (first | (with_reducible first | exact HI0.out | apply IsS60.alloc | apply IsS60.drewN | apply IsS60.drew | apply IsS60.set_0 | apply IsS60.set_1 | apply IsS60.set_2 | apply IsS60.set_3 | apply IsS60.set_4 | apply IsS60.set_6 | apply IsS60.set_8 | apply IsS60.set_9 | apply IsS60.set_10) | exact HI0.out)); (case side2 => repeat (first | (with_reducible first | exact HB.out | apply below_alloc | apply pw_below_drewN | apply below_drew1 | refine below_set ?_ (IsS60.ge HI0.out)) | exact HB.out)); rintro e w10 ⟨rfl, hi, hb, hk⟩; refine ⟨_, rfl, ?_⟩; have n0_ := Aside0.mk (KeepBut.trans (by repeat (first | (with_reducible first | exact HK.out | apply KeepBut.set_ | apply keep_drewN | apply keep_drew | apply keep_alloc) | exact HK.out)) hk (.inl rfl)); have n1_ := Aside0.mk (hb); have n2_ := Aside0.mk (hi); clear HK; clear HB; clear HI0; have HK := n0_; have HB := n1_; have HI0 := n2_; clear n0_ n1_ n2_; (try clear hb); (try clear hb2); (try clear hk); (try clear hi); obtain ⟨HGz11, hgz11⟩ := HI0.out; have hcz11_0 := cellS60_0 HGz11; have hcz11_1 := cellS60_1 HGz11; have hcz11_2 := cellS60_2 HGz11; have hcz11_3 := cellS60_3 HGz11; have hcz11_4 := cellS60_4 HGz11; have hcz11_5 := cellS60_5 HGz11; have hcz11_6 := cellS60_6 HGz11; have hcz11_7 := cellS60_7 HGz11; have hcz11_8 := cellS60_8 HGz11; have hcz11_9 := cellS60_9 HGz11; have hcz11_10 := cellS60_10 HGz11; have hfz11_0 := blk_frozen HGz11 0; have hfz11_1 := blk_frozen HGz11 1; have hfz11_2 := blk_frozen HGz11 2; have hfz11_3 := blk_frozen HGz11 3; have hfz11_4 := blk_frozen HGz11 4; have hfz11_6 := blk_frozen HGz11 6; have hfz11_8 := blk_frozen HGz11 8; have hfz11_9 := blk_frozen HGz11 9; have hfz11_10 := blk_frozen HGz11 10; clear HGz11 hgz11))
   go_ret
   exact ⟨by first | rfl | (simp [errW_none, errW_some] <;> rfl) | (simp [*, errW_none, errW_some] <;> rfl), by repeat (first | (with_reducible first | exact HI0.out | apply IsS60.alloc | apply IsS60.drewN | apply IsS60.drew | apply IsS60.set_0 | apply IsS60.set_1 | apply IsS60.set_2 | apply IsS60.set_3 | apply IsS60.set_4 | apply IsS60.set_6 | apply IsS60.set_8 | apply IsS60.set_9 | apply IsS60.set_10) | exact HI0.out), by repeat (first | (with_reducible first | exact HB.out | apply below_alloc | apply pw_below_drewN | apply below_drew1 | refine below_set ?_ (IsS60.ge HI0.out)) | exact HB.out), by repeat (first | (with_reducible first | exact HK.out | apply KeepBut.set_ | apply keep_drewN | apply keep_drew | apply keep_alloc) | exact HK.out)⟩
  ·
   replace c5 := Bool.eq_false_iff.mpr c5
   subst c5
   have H1 : (some (false, t321, t322, t323, t324, t325, t326, t319, t328, t329)) = some (r1, r2, r3, r4, r5, r6, r7, r8, r9, r10) := by rw [if_neg (show ¬ (false = true) by decide)] at H; exact H
   clear H
   have H := H1
   clear H1
   simp only [Option.some.injEq, Prod.mk.injEq] at H
   obtain ⟨rfl, rfl, rfl, rfl, rfl, rfl, rfl, rfl, rfl, rfl⟩ := H
   go_enter Tryz.func42, Tryz.ntmps42
   go_wp2_with (first | ((with_reducible refine gate_callee (f := 45) rfl ?_); refine goesL_ (some 4) rfl rfl Tryz.func45 (by kernel_rfl) rfl #[.pointer (some ⟨g, 0, none⟩), .int .i64 2, .string (⟨#[98, 121]⟩ : ByteArray)] rfl (by (try simp only [List.map_toArray, List.map_cons, List.map_nil]); first | done | rfl | (simp only [List.length_drop, List.length_take]; rfl)) ?_; (with_reducible refine (query_reader_pass.calls k g s0_0 s0_1 s0_2 s0_3 s0_4 s0_5 s0_6 s0_7 s0_8 s0_9 s0_10 2 (⟨#[98, 121]⟩ : ByteArray) true t310 t311 t312 t313 t314 t315 t316 t317 t318 w0 _ ?side1 ?side2 A2.out).mono ?_); (case side1 => repeat (first | (with_reducible first | exact HI0.out | apply IsS60.alloc | apply IsS60.drewN | apply IsS60.drew | apply IsS60.set_0 | apply IsS60.set_1 | apply IsS60.set_2 | apply IsS60.set_3 | apply IsS60.set_4 | apply IsS60.set_6 | apply IsS60.set_8 | apply IsS60.set_9 | apply IsS60.set_10) | exact HI0.out)); (case side2 => repeat (first | (with_reducible first | exact HB.out | apply below_alloc | apply pw_below_drewN | apply below_drew1 | refine below_set ?_ (IsS60.ge HI0.out)) | exact HB.out)); rintro e w12 ⟨rfl, hi, hb, hk⟩; refine ⟨_, rfl, ?_⟩; have n0_ := Aside0.mk (KeepBut.trans (by repeat (first | (with_reducible first | exact HK.out | apply KeepBut.set_ | apply keep_drewN | apply keep_drew | apply keep_alloc) | exact HK.out)) hk (.inl rfl)); have n1_ := Aside0.mk (hb); have n2_ := Aside0.mk (hi); clear HK; clear HB; clear HI0; have HK := n0_; have HB := n1_; have HI0 := n2_; clear n0_ n1_ n2_; (try clear hb); (try clear hb2); (try clear hk); (try clear hi)) | ((with_reducible refine gate_callee (f := 61) rfl ?_); refine goesL_ (some 9) rfl rfl Tryz.func61 (by kernel_rfl) rfl #[.pointer (some ⟨g, 0, none⟩)] rfl (by (try simp only [List.map_toArray, List.map_cons, List.map_nil]); first | done | rfl | (simp only [List.length_drop, List.length_take]; rfl)) ?_; (with_reducible refine (query_reader_name.calls k g t310 t311 t312 t313 t314 s0_5 t315 s0_7 t316 t317 t318 t319 false t321 t322 t323 t324 t325 t326 t327 t328 t329 w0 _ ?side1 ?side2 A4.out).mono ?_); (case side1 => repeat (first | (with_reducible first | exact HI0.out | apply IsS60.alloc | apply IsS60.drewN | apply IsS60.drew | apply IsS60.set_0 | apply IsS60.set_1 | apply IsS60.set_2 | apply IsS60.set_3 | apply IsS60.set_4 | apply IsS60.set_6 | apply IsS60.set_8 | apply IsS60.set_9 | apply IsS60.set_10) | exact HI0.out)); (case side2 => repeat (first | (with_reducible first | exact HB.out | apply below_alloc | apply pw_below_drewN | apply below_drew1 | refine below_set ?_ (IsS60.ge HI0.out)) | exact HB.out)); rintro e w13 ⟨rfl, hi, hb, hk⟩; refine ⟨_, rfl, ?_⟩; have n0_ := Aside0.mk (KeepBut.trans (by repeat (first | (with_reducible first | exact HK.out | apply KeepBut.set_ | apply keep_drewN | apply keep_drew | apply keep_alloc) | exact HK.out)) hk (.inl rfl)); have n1_ := Aside0.mk (hb); have n2_ := Aside0.mk (hi); clear HK; clear HB; clear HI0; have HK := n0_; have HB := n1_; have HI0 := n2_; clear n0_ n1_ n2_; (try clear hb); (try clear hb2); (try clear hk); (try clear hi); obtain ⟨HGz14, hgz14⟩ := HI0.out; have hcz14_0 := cellS60_0 HGz14; have hcz14_1 := cellS60_1 HGz14; have hcz14_2 := cellS60_2 HGz14; have hcz14_3 := cellS60_3 HGz14; have hcz14_4 := cellS60_4 HGz14; have hcz14_5 := cellS60_5 HGz14; have hcz14_6 := cellS60_6 HGz14; have hcz14_7 := cellS60_7 HGz14; have hcz14_8 := cellS60_8 HGz14; have hcz14_9 := cellS60_9 HGz14; have hcz14_10 := cellS60_10 HGz14; have hfz14_0 := blk_frozen HGz14 0; have hfz14_1 := blk_frozen HGz14 1; have hfz14_2 := blk_frozen HGz14 2; have hfz14_3 := blk_frozen HGz14 3; have hfz14_4 := blk_frozen HGz14 4; have hfz14_6 := blk_frozen HGz14 6; have hfz14_8 := blk_frozen HGz14 8; have hfz14_9 := blk_frozen HGz14 9; have hfz14_10 := blk_frozen HGz14 10; clear HGz14 hgz14))
   go_ret
   exact ⟨by first | rfl | (simp [errW_none, errW_some] <;> rfl) | (simp [*, errW_none, errW_some] <;> rfl), by repeat (first | (with_reducible first | exact HI0.out | apply IsS60.alloc | apply IsS60.drewN | apply IsS60.drew | apply IsS60.set_0 | apply IsS60.set_1 | apply IsS60.set_2 | apply IsS60.set_3 | apply IsS60.set_4 | apply IsS60.set_6 | apply IsS60.set_8 | apply IsS60.set_9 | apply IsS60.set_10) | exact HI0.out), by repeat (first | (with_reducible first | exact HB.out | apply below_alloc | apply pw_below_drewN | apply below_drew1 | refine below_set ?_ (IsS60.ge HI0.out)) | exact HB.out), by repeat (first | (with_reducible first | exact HK.out | apply KeepBut.set_ | apply keep_drewN | apply keep_drew | apply keep_alloc) | exact HK.out)⟩
 ·
  replace c3 := Bool.eq_false_iff.mpr c3
  subst c3
  have H1 : (some (false, t310, t311, t312, t313, t314, t315, t316, t317, t318)) = some (r1, r2, r3, r4, r5, r6, r7, r8, r9, r10) := by rw [if_neg (show ¬ (false = true) by decide)] at H; exact H
  clear H
  have H := H1
  clear H1
  simp only [Option.some.injEq, Prod.mk.injEq] at H
  obtain ⟨rfl, rfl, rfl, rfl, rfl, rfl, rfl, rfl, rfl, rfl⟩ := H
  go_enter Tryz.func42, Tryz.ntmps42
  go_wp2_with (first | ((with_reducible refine gate_callee (f := 45) rfl ?_); refine goesL_ (some 4) rfl rfl Tryz.func45 (by kernel_rfl) rfl #[.pointer (some ⟨g, 0, none⟩), .int .i64 2, .string (⟨#[98, 121]⟩ : ByteArray)] rfl (by (try simp only [List.map_toArray, List.map_cons, List.map_nil]); first | done | rfl | (simp only [List.length_drop, List.length_take]; rfl)) ?_; (with_reducible refine (query_reader_pass.calls k g s0_0 s0_1 s0_2 s0_3 s0_4 s0_5 s0_6 s0_7 s0_8 s0_9 s0_10 2 (⟨#[98, 121]⟩ : ByteArray) false t310 t311 t312 t313 t314 t315 t316 t317 t318 w0 _ ?side1 ?side2 A2.out).mono ?_); (case side1 => repeat (first | (with_reducible first | exact HI0.out | apply IsS60.alloc | apply IsS60.drewN | apply IsS60.drew | apply IsS60.set_0 | apply IsS60.set_1 | apply IsS60.set_2 | apply IsS60.set_3 | apply IsS60.set_4 | apply IsS60.set_6 | apply IsS60.set_8 | apply IsS60.set_9 | apply IsS60.set_10) | exact HI0.out)); (case side2 => repeat (first | (with_reducible first | exact HB.out | apply below_alloc | apply pw_below_drewN | apply below_drew1 | refine below_set ?_ (IsS60.ge HI0.out)) | exact HB.out)); rintro e w15 ⟨rfl, hi, hb, hk⟩; refine ⟨_, rfl, ?_⟩; have n0_ := Aside0.mk (KeepBut.trans (by repeat (first | (with_reducible first | exact HK.out | apply KeepBut.set_ | apply keep_drewN | apply keep_drew | apply keep_alloc) | exact HK.out)) hk (.inl rfl)); have n1_ := Aside0.mk (hb); have n2_ := Aside0.mk (hi); clear HK; clear HB; clear HI0; have HK := n0_; have HB := n1_; have HI0 := n2_; clear n0_ n1_ n2_; (try clear hb); (try clear hb2); (try clear hk); (try clear hi)))
  go_ret
  exact ⟨by first | rfl | (simp [errW_none, errW_some] <;> rfl) | (simp [*, errW_none, errW_some] <;> rfl), by repeat (first | (with_reducible first | exact HI0.out | apply IsS60.alloc | apply IsS60.drewN | apply IsS60.drew | apply IsS60.set_0 | apply IsS60.set_1 | apply IsS60.set_2 | apply IsS60.set_3 | apply IsS60.set_4 | apply IsS60.set_6 | apply IsS60.set_8 | apply IsS60.set_9 | apply IsS60.set_10) | exact HI0.out), by repeat (first | (with_reducible first | exact HB.out | apply below_alloc | apply pw_below_drewN | apply below_drew1 | refine below_set ?_ (IsS60.ge HI0.out)) | exact HB.out), by repeat (first | (with_reducible first | exact HK.out | apply KeepBut.set_ | apply keep_drewN | apply keep_drew | apply keep_alloc) | exact HK.out)⟩
def query_reader_limit.j0 : Nat → ByteArray → Bool → ByteArray → Int → Int → ByteArray → Int → Value → ByteArray → Value → ByteArray → Bool → Int → Option (Bool × ByteArray × Int × Int × ByteArray × Int × ByteArray × ByteArray × Bool × Int)
 | 0, _, _, _, _, _, _, _, _, _, _, _, _, _ => none
 | k + 1, x3, x24, x1000, x1001, x1002, x1003, x1004, x1005, x1006, x1007, x1008, x1009, x1010 => if x24 = true then (some (false, x1000, x1001, x1002, x1003, x1004, x1006, x1008, x1009, x1010)) else ((strconv_Atoi.f x3).bind fun bt340 => ((query_reader_step.f k x1000 x1001 x1002 x1003 x1004 x1005 x1006 x1007 x1008 x1009 bt340.1).bind fun bt342 => (some (true, bt342.1, bt342.2.1, bt342.2.2.1, bt342.2.2.2.1, bt342.2.2.2.2.1, bt342.2.2.2.2.2.1, bt342.2.2.2.2.2.2.1, bt342.2.2.2.2.2.2.2.1, bt342.2.2.2.2.2.2.2.2))))
def query_reader_limit.f (k : Nat) (s0_0 : ByteArray) (s0_1 : Int) (s0_2 : Int) (s0_3 : ByteArray) (s0_4 : Int) (s0_5 : Value) (s0_6 : ByteArray) (s0_7 : Value) (s0_8 : ByteArray) (s0_9 : Bool) (s0_10 : Int) : Option (Bool × ByteArray × Int × Int × ByteArray × Int × ByteArray × ByteArray × Bool × Int) := if s0_2 = 3 then (if (s0_3.size : Int) > 9 then (query_reader_limit.j0 k s0_3 true s0_0 s0_1 s0_2 s0_3 s0_4 s0_5 s0_6 s0_7 s0_8 s0_9 s0_10) else (if 0 < (s0_3.size : Int) then (query_reader_limit.j0 k s0_3 ((bt s0_3 0) == 48) s0_0 s0_1 s0_2 s0_3 s0_4 s0_5 s0_6 s0_7 s0_8 s0_9 s0_10) else (none))) else (query_reader_limit.j0 k s0_3 true s0_0 s0_1 s0_2 s0_3 s0_4 s0_5 s0_6 s0_7 s0_8 s0_9 s0_10)
set_option maxHeartbeats 8000000 in
set_option maxRecDepth 100000 in
theorem query_reader_limit.calls (k : Nat) (g : Nat) (s0_0 : ByteArray) (s0_1 : Int) (s0_2 : Int) (s0_3 : ByteArray) (s0_4 : Int) (s0_5 : Value) (s0_6 : ByteArray) (s0_7 : Value) (s0_8 : ByteArray) (s0_9 : Bool) (s0_10 : Int) (r1 : Bool) (r2 : ByteArray) (r3 : Int) (r4 : Int) (r5 : ByteArray) (r6 : Int) (r7 : ByteArray) (r8 : ByteArray) (r9 : Bool) (r10 : Int) (w0 w : World) (hI : IsS60 w0 w g s0_0 s0_1 s0_2 s0_3 s0_4 s0_5 s0_6 s0_7 s0_8 s0_9 s0_10) (hB : Below w0.heap.size w0 w) (h : query_reader_limit.f k s0_0 s0_1 s0_2 s0_3 s0_4 s0_5 s0_6 s0_7 s0_8 s0_9 s0_10 = some (r1, r2, r3, r4, r5, r6, r7, r8, r9, r10)) :
  Calls Tryz.prog 43 #[.pointer (some ⟨g, 0, none⟩)] w fun e w' => e = .returned (.bool r1) ∧ IsS60 w0 w' g r2 r3 r4 r5 r6 s0_5 r7 s0_7 r8 r9 r10 ∧ Below w0.heap.size w0 w' ∧ KeepBut w w' g none := by
 have HI0 := Aside0.mk hI
 have HK := Aside0.mk (KeepBut.refl w g none)
 have HL := Aside0.mk hB.size
 clear hI
 have HW0 := Aside0.mk hB.size
 have HB := Aside0.mk hB
 clear hB
 have H : (if s0_2 = 3 then (if (s0_3.size : Int) > 9 then (query_reader_limit.j0 k s0_3 true s0_0 s0_1 s0_2 s0_3 s0_4 s0_5 s0_6 s0_7 s0_8 s0_9 s0_10) else (if 0 < (s0_3.size : Int) then (query_reader_limit.j0 k s0_3 ((bt s0_3 0) == 48) s0_0 s0_1 s0_2 s0_3 s0_4 s0_5 s0_6 s0_7 s0_8 s0_9 s0_10) else (none))) else (query_reader_limit.j0 k s0_3 true s0_0 s0_1 s0_2 s0_3 s0_4 s0_5 s0_6 s0_7 s0_8 s0_9 s0_10)) = some (r1, r2, r3, r4, r5, r6, r7, r8, r9, r10) := h
 clear h
 have HC2 := Aside0.mk H
 clear H
 obtain ⟨HGz3, hgz3⟩ := HI0.out
 have hcz3_0 := cellS60_0 HGz3
 have hcz3_1 := cellS60_1 HGz3
 have hcz3_2 := cellS60_2 HGz3
 have hcz3_3 := cellS60_3 HGz3
 have hcz3_4 := cellS60_4 HGz3
 have hcz3_5 := cellS60_5 HGz3
 have hcz3_6 := cellS60_6 HGz3
 have hcz3_7 := cellS60_7 HGz3
 have hcz3_8 := cellS60_8 HGz3
 have hcz3_9 := cellS60_9 HGz3
 have hcz3_10 := cellS60_10 HGz3
 have hfz3_0 := blk_frozen HGz3 0
 have hfz3_1 := blk_frozen HGz3 1
 have hfz3_2 := blk_frozen HGz3 2
 have hfz3_3 := blk_frozen HGz3 3
 have hfz3_4 := blk_frozen HGz3 4
 have hfz3_6 := blk_frozen HGz3 6
 have hfz3_8 := blk_frozen HGz3 8
 have hfz3_9 := blk_frozen HGz3 9
 have hfz3_10 := blk_frozen HGz3 10
 clear HGz3 hgz3
 go_enter Tryz.func43, Tryz.ntmps43
 go_upto_region 2 with (fail)
 go_cut [24] (fun v24 wc => ∃ (kq : Nat) (x24_1 : Bool), v24 = .bool x24_1 ∧ Aside0 (query_reader_limit.j0 kq s0_3 x24_1 s0_0 s0_1 s0_2 s0_3 s0_4 s0_5 s0_6 s0_7 s0_8 s0_9 s0_10 = some (r1, r2, r3, r4, r5, r6, r7, r8, r9, r10)) ∧ Aside0 (kq ≤ k) ∧ Aside0 (IsS60 w0 wc g s0_0 s0_1 s0_2 s0_3 s0_4 s0_5 s0_6 s0_7 s0_8 s0_9 s0_10) ∧ Aside0 (KeepBut w wc g none) ∧ Aside0 (Below w0.heap.size w0 wc))
 case first =>
  have H := HC2.out
  clear HC2
  by_cases c4 : s0_2 = 3
  ·
   rw [if_pos c4] at H
   have c4b0 : (s0_2 == 3) = true := beq_iff_eq.mpr c4
   have c4b1 : (s0_2 != 3) = false := bne_eq_false_iff_eq.mpr c4
   clear c4
   (first | rw [c4b0] | (simp only [i64_w, i32_w]; rw [c4b0]) | skip)
   by_cases c5 : (s0_3.size : Int) > 9
   ·
    rw [if_pos c5] at H
    have c5b0 : decide (9 < (s0_3.size : Int)) = true := decide_eq_true c5
    have c5b1 : decide (9 < s0_3.size) = true := decide_eq_true (by omega)
    clear c5
    have H' := Aside0.mk H
    clear H
    obtain ⟨HGz6, hgz6⟩ := HI0.out
    have hcz6_0 := cellS60_0 HGz6
    have hcz6_1 := cellS60_1 HGz6
    have hcz6_2 := cellS60_2 HGz6
    have hcz6_3 := cellS60_3 HGz6
    have hcz6_4 := cellS60_4 HGz6
    have hcz6_5 := cellS60_5 HGz6
    have hcz6_6 := cellS60_6 HGz6
    have hcz6_7 := cellS60_7 HGz6
    have hcz6_8 := cellS60_8 HGz6
    have hcz6_9 := cellS60_9 HGz6
    have hcz6_10 := cellS60_10 HGz6
    have hfz6_0 := blk_frozen HGz6 0
    have hfz6_1 := blk_frozen HGz6 1
    have hfz6_2 := blk_frozen HGz6 2
    have hfz6_3 := blk_frozen HGz6 3
    have hfz6_4 := blk_frozen HGz6 4
    have hfz6_6 := blk_frozen HGz6 6
    have hfz6_8 := blk_frozen HGz6 8
    have hfz6_9 := blk_frozen HGz6 9
    have hfz6_10 := blk_frozen HGz6 10
    clear HGz6 hgz6
    go_wp2
    go_meet
    case rel => exact ⟨_, (true), (by first | rfl | (simp; done) | (simp [*]; done)), H', ⟨by first | omega | exact Nat.le_refl _⟩, ⟨by repeat (first | (with_reducible first | exact HI0.out | apply IsS60.alloc | apply IsS60.drewN | apply IsS60.drew | apply IsS60.set_0 | apply IsS60.set_1 | apply IsS60.set_2 | apply IsS60.set_3 | apply IsS60.set_4 | apply IsS60.set_6 | apply IsS60.set_8 | apply IsS60.set_9 | apply IsS60.set_10) | exact HI0.out)⟩, ⟨by repeat (first | (with_reducible first | exact HK.out | apply KeepBut.set_ | apply keep_drewN | apply keep_drew | apply keep_alloc) | exact HK.out)⟩, ⟨by repeat (first | (with_reducible first | exact HB.out | apply below_alloc | apply pw_below_drewN | apply below_drew1 | refine below_set ?_ (IsS60.ge HI0.out)) | exact HB.out)⟩⟩
   ·
    rw [if_neg c5] at H
    have c5b0 : decide (9 < (s0_3.size : Int)) = false := decide_eq_false c5
    have c5b1 : decide (9 < s0_3.size) = false := decide_eq_false (by omega)
    clear c5
    by_cases c7 : 0 < (s0_3.size : Int)
    ·
     rw [if_pos c7] at H
     have c7b0 : decide (0 < (s0_3.size : Int)) = true := decide_eq_true c7
     have c7b1 : decide (0 < s0_3.size) = true := decide_eq_true (by omega)
     clear c7
     have H' := Aside0.mk H
     clear H
     obtain ⟨HGz9, hgz9⟩ := HI0.out
     have hcz9_0 := cellS60_0 HGz9
     have hcz9_1 := cellS60_1 HGz9
     have hcz9_2 := cellS60_2 HGz9
     have hcz9_3 := cellS60_3 HGz9
     have hcz9_4 := cellS60_4 HGz9
     have hcz9_5 := cellS60_5 HGz9
     have hcz9_6 := cellS60_6 HGz9
     have hcz9_7 := cellS60_7 HGz9
     have hcz9_8 := cellS60_8 HGz9
     have hcz9_9 := cellS60_9 HGz9
     have hcz9_10 := cellS60_10 HGz9
     have hfz9_0 := blk_frozen HGz9 0
     have hfz9_1 := blk_frozen HGz9 1
     have hfz9_2 := blk_frozen HGz9 2
     have hfz9_3 := blk_frozen HGz9 3
     have hfz9_4 := blk_frozen HGz9 4
     have hfz9_6 := blk_frozen HGz9 6
     have hfz9_8 := blk_frozen HGz9 8
     have hfz9_9 := blk_frozen HGz9 9
     have hfz9_10 := blk_frozen HGz9 10
     clear HGz9 hgz9
     have p8 : 0 ≤ (0 : Int) := (by omega)
     have q8 : 0 < s0_3.size := (by have : (0 : Int) < (s0_3.size : Int) := of_decide_eq_true (by first | (with_reducible assumption) | assumption); omega)
     have hx8 : ∀ h : 0 < s0_3.size, ((s0_3[0]'h).toNat : Int) = bt s0_3 0 := bt_at s0_3 0
     clear p8
     have qi8 : (0 < (s0_3.size : Int)) = True := eq_true (of_decide_eq_true (by first | (with_reducible assumption) | assumption))
     replace q8 := eq_true q8
     go_wp2
     go_meet
     case rel => exact ⟨_, (((bt s0_3 0) == 48)), (by first | rfl | (simp; done) | (simp [*]; done)), H', ⟨by first | omega | exact Nat.le_refl _⟩, ⟨by repeat (first | (with_reducible first | exact HI0.out | apply IsS60.alloc | apply IsS60.drewN | apply IsS60.drew | apply IsS60.set_0 | apply IsS60.set_1 | apply IsS60.set_2 | apply IsS60.set_3 | apply IsS60.set_4 | apply IsS60.set_6 | apply IsS60.set_8 | apply IsS60.set_9 | apply IsS60.set_10) | exact HI0.out)⟩, ⟨by repeat (first | (with_reducible first | exact HK.out | apply KeepBut.set_ | apply keep_drewN | apply keep_drew | apply keep_alloc) | exact HK.out)⟩, ⟨by repeat (first | (with_reducible first | exact HB.out | apply below_alloc | apply pw_below_drewN | apply below_drew1 | refine below_set ?_ (IsS60.ge HI0.out)) | exact HB.out)⟩⟩
    ·
     rw [if_neg c7] at H
     exact absurd H (by simp)
  ·
   rw [if_neg c4] at H
   have c4b0 : (s0_2 == 3) = false := beq_eq_false_iff_ne.mpr c4
   have c4b1 : (s0_2 != 3) = true := bne_iff_ne.mpr c4
   (first | rw [c4b0] | (simp only [i64_w, i32_w]; rw [c4b0]) | skip)
   have H' := Aside0.mk H
   clear H
   obtain ⟨HGz10, hgz10⟩ := HI0.out
   have hcz10_0 := cellS60_0 HGz10
   have hcz10_1 := cellS60_1 HGz10
   have hcz10_2 := cellS60_2 HGz10
   have hcz10_3 := cellS60_3 HGz10
   have hcz10_4 := cellS60_4 HGz10
   have hcz10_5 := cellS60_5 HGz10
   have hcz10_6 := cellS60_6 HGz10
   have hcz10_7 := cellS60_7 HGz10
   have hcz10_8 := cellS60_8 HGz10
   have hcz10_9 := cellS60_9 HGz10
   have hcz10_10 := cellS60_10 HGz10
   have hfz10_0 := blk_frozen HGz10 0
   have hfz10_1 := blk_frozen HGz10 1
   have hfz10_2 := blk_frozen HGz10 2
   have hfz10_3 := blk_frozen HGz10 3
   have hfz10_4 := blk_frozen HGz10 4
   have hfz10_6 := blk_frozen HGz10 6
   have hfz10_8 := blk_frozen HGz10 8
   have hfz10_9 := blk_frozen HGz10 9
   have hfz10_10 := blk_frozen HGz10 10
   clear HGz10 hgz10
   go_wp2
   go_meet
   case rel => exact ⟨_, (true), (by first | rfl | (simp; done) | (simp [*]; done)), H', ⟨by first | omega | exact Nat.le_refl _⟩, ⟨by repeat (first | (with_reducible first | exact HI0.out | apply IsS60.alloc | apply IsS60.drewN | apply IsS60.drew | apply IsS60.set_0 | apply IsS60.set_1 | apply IsS60.set_2 | apply IsS60.set_3 | apply IsS60.set_4 | apply IsS60.set_6 | apply IsS60.set_8 | apply IsS60.set_9 | apply IsS60.set_10) | exact HI0.out)⟩, ⟨by repeat (first | (with_reducible first | exact HK.out | apply KeepBut.set_ | apply keep_drewN | apply keep_drew | apply keep_alloc) | exact HK.out)⟩, ⟨by repeat (first | (with_reducible first | exact HB.out | apply below_alloc | apply pw_below_drewN | apply below_drew1 | refine below_set ?_ (IsS60.ge HI0.out)) | exact HB.out)⟩⟩
 case rest =>
  clear HC2
  try clear hcz3_0
  try clear hcz3_1
  try clear hcz3_10
  try clear hcz3_2
  try clear hcz3_3
  try clear hcz3_4
  try clear hcz3_5
  try clear hcz3_6
  try clear hcz3_7
  try clear hcz3_8
  try clear hcz3_9
  try clear hfz3_0
  try clear hfz3_1
  try clear hfz3_10
  try clear hfz3_2
  try clear hfz3_3
  try clear hfz3_4
  try clear hfz3_6
  try clear hfz3_8
  try clear hfz3_9
  obtain ⟨kq, x24_1, rfl, HA, HJ1, HI0, HK, HB⟩ := hcut
  cases kq with
  | zero => exact absurd HA.out (by simp [query_reader_limit.j0])
  | succ kj1 =>
   have H := HA.out
   clear HA
   simp only [query_reader_limit.j0] at H
   by_cases c11 : x24_1 = true
   ·
    subst c11
    have H1 : (some (false, s0_0, s0_1, s0_2, s0_3, s0_4, s0_6, s0_8, s0_9, s0_10)) = some (r1, r2, r3, r4, r5, r6, r7, r8, r9, r10) := by rw [if_pos rfl] at H; exact H
    clear H
    have H := H1
    clear H1
    simp only [Option.some.injEq, Prod.mk.injEq] at H
    obtain ⟨rfl, rfl, rfl, rfl, rfl, rfl, rfl, rfl, rfl, rfl⟩ := H
    go_wp2
    go_ret
    exact ⟨by first | rfl | (simp [errW_none, errW_some] <;> rfl) | (simp [*, errW_none, errW_some] <;> rfl), by repeat (first | (with_reducible first | exact HI0.out | apply IsS60.alloc | apply IsS60.drewN | apply IsS60.drew | apply IsS60.set_0 | apply IsS60.set_1 | apply IsS60.set_2 | apply IsS60.set_3 | apply IsS60.set_4 | apply IsS60.set_6 | apply IsS60.set_8 | apply IsS60.set_9 | apply IsS60.set_10) | exact HI0.out), by repeat (first | (with_reducible first | exact HB.out | apply below_alloc | apply pw_below_drewN | apply below_drew1 | refine below_set ?_ (IsS60.ge HI0.out)) | exact HB.out), by repeat (first | (with_reducible first | exact HK.out | apply KeepBut.set_ | apply keep_drewN | apply keep_drew | apply keep_alloc) | exact HK.out)⟩
   ·
    replace c11 := Bool.eq_false_iff.mpr c11
    subst c11
    have H1 : ((strconv_Atoi.f s0_3).bind fun bt340 => ((query_reader_step.f kj1 s0_0 s0_1 s0_2 s0_3 s0_4 s0_5 s0_6 s0_7 s0_8 s0_9 bt340.1).bind fun bt342 => (some (true, bt342.1, bt342.2.1, bt342.2.2.1, bt342.2.2.2.1, bt342.2.2.2.2.1, bt342.2.2.2.2.2.1, bt342.2.2.2.2.2.2.1, bt342.2.2.2.2.2.2.2.1, bt342.2.2.2.2.2.2.2.2)))) = some (r1, r2, r3, r4, r5, r6, r7, r8, r9, r10) := by rw [if_neg (show ¬ (false = true) by decide)] at H; exact H
    clear H
    have H := H1
    clear H1
    replace H := Option.bind_eq_some_iff.mp H
    obtain ⟨⟨t340, t341⟩, A120, H⟩ := H
    replace H : ((query_reader_step.f kj1 s0_0 s0_1 s0_2 s0_3 s0_4 s0_5 s0_6 s0_7 s0_8 s0_9 t340).bind fun bt342 => (some (true, bt342.1, bt342.2.1, bt342.2.2.1, bt342.2.2.2.1, bt342.2.2.2.2.1, bt342.2.2.2.2.2.1, bt342.2.2.2.2.2.2.1, bt342.2.2.2.2.2.2.2.1, bt342.2.2.2.2.2.2.2.2))) = some (r1, r2, r3, r4, r5, r6, r7, r8, r9, r10) := H
    have A12 := Aside0.mk A120
    clear A120
    replace H := Option.bind_eq_some_iff.mp H
    obtain ⟨⟨t342, t343, t344, t345, t346, t347, t348, t349, t350⟩, A130, H⟩ := H
    replace H : (some (true, t342, t343, t344, t345, t346, t347, t348, t349, t350)) = some (r1, r2, r3, r4, r5, r6, r7, r8, r9, r10) := H
    have A13 := Aside0.mk A130
    clear A130
    simp only [Option.some.injEq, Prod.mk.injEq] at H
    obtain ⟨rfl, rfl, rfl, rfl, rfl, rfl, rfl, rfl, rfl, rfl⟩ := H
    go_wp2_with (first | ((with_reducible refine gate_callee (f := 48) rfl ?_); refine goesL_ (some 28) rfl rfl Tryz.func48 (by kernel_rfl) rfl #[.string s0_3] rfl (by (try simp only [List.map_toArray, List.map_cons, List.map_nil]); first | done | rfl | (simp only [List.length_drop, List.length_take]; rfl)) ?_; (with_reducible refine (strconv_Atoi.calls s0_3 t340 t341 _ A12.out).mono ?_); rintro e w14 ⟨rfl, hb⟩; refine ⟨_, rfl, ?_⟩; have n0_ := Aside0.mk (IsS60.below (by repeat (first | (with_reducible first | exact HI0.out | apply IsS60.alloc | apply IsS60.drewN | apply IsS60.drew | apply IsS60.set_0 | apply IsS60.set_1 | apply IsS60.set_2 | apply IsS60.set_3 | apply IsS60.set_4 | apply IsS60.set_6 | apply IsS60.set_8 | apply IsS60.set_9 | apply IsS60.set_10) | exact HI0.out)) hb); have n1_ := Aside0.mk (KeepBut.trans (by repeat (first | (with_reducible first | exact HK.out | apply KeepBut.set_ | apply keep_drewN | apply keep_drew | apply keep_alloc) | exact HK.out)) (KeepBut.of_below hb g none) (.inl rfl)); have n2_ := Aside0.mk (below_step (by repeat (first | (with_reducible first | exact HB.out | apply below_alloc | apply pw_below_drewN | apply below_drew1 | refine below_set ?_ (IsS60.ge HI0.out)) | exact HB.out)) hb); clear HI0; clear HK; clear HB; have HI0 := n0_; have HK := n1_; have HB := n2_; clear n0_ n1_ n2_; (try clear hb); (try clear hb2); (try clear hk); (try clear hi); (try simp only [errW_none, errW_some]); obtain ⟨HGz15, hgz15⟩ := HI0.out; have hcz15_0 := cellS60_0 HGz15; have hcz15_1 := cellS60_1 HGz15; have hcz15_2 := cellS60_2 HGz15; have hcz15_3 := cellS60_3 HGz15; have hcz15_4 := cellS60_4 HGz15; have hcz15_5 := cellS60_5 HGz15; have hcz15_6 := cellS60_6 HGz15; have hcz15_7 := cellS60_7 HGz15; have hcz15_8 := cellS60_8 HGz15; have hcz15_9 := cellS60_9 HGz15; have hcz15_10 := cellS60_10 HGz15; have hfz15_0 := blk_frozen HGz15 0; have hfz15_1 := blk_frozen HGz15 1; have hfz15_2 := blk_frozen HGz15 2; have hfz15_3 := blk_frozen HGz15 3; have hfz15_4 := blk_frozen HGz15 4; have hfz15_6 := blk_frozen HGz15 6; have hfz15_8 := blk_frozen HGz15 8; have hfz15_9 := blk_frozen HGz15 9; have hfz15_10 := blk_frozen HGz15 10; clear HGz15 hgz15) | ((with_reducible refine gate_callee (f := 44) rfl ?_); refine goesL_ (some 35) rfl rfl Tryz.func44 (by kernel_rfl) rfl #[.pointer (some ⟨g, 0, none⟩)] rfl (by (try simp only [List.map_toArray, List.map_cons, List.map_nil]); first | done | rfl | (simp only [List.length_drop, List.length_take]; rfl)) ?_; (with_reducible refine (query_reader_step.calls kj1 g s0_0 s0_1 s0_2 s0_3 s0_4 s0_5 s0_6 s0_7 s0_8 s0_9 t340 t342 t343 t344 t345 t346 t347 t348 t349 t350 w0 _ ?side1 ?side2 A13.out).mono ?_); (case side1 => repeat (first | (with_reducible first | exact HI0.out | apply IsS60.alloc | apply IsS60.drewN | apply IsS60.drew | apply IsS60.set_0 | apply IsS60.set_1 | apply IsS60.set_2 | apply IsS60.set_3 | apply IsS60.set_4 | apply IsS60.set_6 | apply IsS60.set_8 | apply IsS60.set_9 | apply IsS60.set_10) | exact HI0.out)); (case side2 => repeat (first | (with_reducible first | exact HB.out | apply below_alloc | apply pw_below_drewN | apply below_drew1 | refine below_set ?_ (IsS60.ge HI0.out)) | exact HB.out)); rintro e w16 ⟨rfl, hi, hb, hk⟩; refine ⟨_, rfl, ?_⟩; have n0_ := Aside0.mk (KeepBut.trans (by repeat (first | (with_reducible first | exact HK.out | apply KeepBut.set_ | apply keep_drewN | apply keep_drew | apply keep_alloc) | exact HK.out)) hk (.inl rfl)); have n1_ := Aside0.mk (hb); have n2_ := Aside0.mk (hi); clear HK; clear HB; clear HI0; have HK := n0_; have HB := n1_; have HI0 := n2_; clear n0_ n1_ n2_; (try clear hb); (try clear hb2); (try clear hk); (try clear hi)))
    go_ret
    exact ⟨by first | rfl | (simp [errW_none, errW_some] <;> rfl) | (simp [*, errW_none, errW_some] <;> rfl), by repeat (first | (with_reducible first | exact HI0.out | apply IsS60.alloc | apply IsS60.drewN | apply IsS60.drew | apply IsS60.set_0 | apply IsS60.set_1 | apply IsS60.set_2 | apply IsS60.set_3 | apply IsS60.set_4 | apply IsS60.set_6 | apply IsS60.set_8 | apply IsS60.set_9 | apply IsS60.set_10) | exact HI0.out), by repeat (first | (with_reducible first | exact HB.out | apply below_alloc | apply pw_below_drewN | apply below_drew1 | refine below_set ?_ (IsS60.ge HI0.out)) | exact HB.out), by repeat (first | (with_reducible first | exact HK.out | apply KeepBut.set_ | apply keep_drewN | apply keep_drew | apply keep_alloc) | exact HK.out)⟩
end Go.Proofs.YthhemephaabblaaGreatDoor.R
namespace Go.Proofs.YthhemephaabblaaGreatDoor.Hq
open Go.RowKit Go.Proofs.YthhemephaabblaaGreatDoorW.PrintWords Go.Proofs.YthhemephaabblaaGreatDoorW.PrintLast Go.Proofs.YthhemephaabblaaGreatDoorW.PrintMore Go.Proofs.YthhemephaabblaaGreatDoor Go.Proofs.YthhemephaabblaaGreatDoor.Q Go.Proofs.YthhemephaabblaaGreatDoor.R
set_option linter.unusedVariables false
set_option linter.unusedSimpArgs false
def Rd (w0 w : World) (g : Nat) (s : List UInt8) (L : List Tk) (v5 : Value) (tab : List UInt8) (v7 : Value) (ord : List UInt8) (down : Bool) (lim : Int) : Prop :=
 ∃ p, p ≤ s.length ∧ toks s p = L ∧ IsS60 w0 w g (strB s) ((tokAt s p).2 : Int) ((hdT L).kind : Int) (strB (hdT L).says) ((hdT L).place : Int) v5 (strB tab) v7 (strB ord) down lim
theorem hd_toks (s : List UInt8) (p : Nat) (hp : p ≤ s.length) : hdT (toks s p) = (tokAt s p).1 := by rw [toks_eq s p hp]; rfl
theorem tl_toks (s : List UInt8) (p : Nat) (hp : p ≤ s.length) (hk : 2 ≤ (tokAt s p).1.kind) : (toks s p).tail = toks s (tokAt s p).2 := by rw [toks_eq s p hp, List.tail_cons, if_neg (by omega)]
theorem tok_end (s : List UInt8) (p : Nat) (hp : p ≤ s.length) : (tokAt s p).2 ≤ s.length := by
 have hr := runEnd_le isSp s p hp
 have ht := tk_le s (runEnd isSp s p) hr
 rw [← tokAt_tk] at ht
 exact ht.2.1
theorem stepF_f (s : List UInt8) (hs : s.length ≤ 1000000000000) (e : Nat) (he : e ≤ s.length) (k : Nat) (hk : s.length + 20 < k) (x2 : Int) (x3 : ByteArray) (x4 : Int) (s5 : Value) (s6 : ByteArray) (s7 : Value) (s8 : ByteArray) (s9 : Bool) (s10 : Int) :
  query_reader_step.f k (strB s) (e : Int) x2 x3 x4 s5 s6 s7 s8 s9 s10 = some (strB s, ((tokAt s e).2 : Int), ((hdT (toks s e)).kind : Int), strB (hdT (toks s e)).says, ((hdT (toks s e)).place : Int), s6, s8, s9, s10) := by
 unfold query_reader_step.f
 have hd : (strB s).data.toList = s := rfl
 rw [hd, if_pos (by omega), Int.toNat_natCast, if_pos (show e ≤ s.length from he), if_pos (show s.length ≤ 1000000000000 from hs), hd_toks s e he]
 exact step_f s hs e he k hk x2 x3 x4 s5 s6 s7 s8 s9 s10
theorem is_f (k : Nat) (w : List UInt8) (L : List Tk) (x0 : ByteArray) (x1 x4 : Int) (s5 : Value) (s6 : ByteArray) (s7 : Value) (s8 : ByteArray) (s9 : Bool) (s10 : Int) :
  query_reader_is.f x0 x1 ((hdT L).kind : Int) (strB (hdT L).says) x4 s5 s6 s7 s8 s9 s10 (k : Int) (strB w) = some ((passL k w L).1, x0, x1, ((hdT L).kind : Int), strB (hdT L).says, x4, s6, s8, s9, s10) := by
 unfold query_reader_is.f passL
 rw [toList_strB, toList_strB]
 by_cases h : (hdT L).kind = k
 ·
  rw [if_pos (by omega)]
  by_cases h2 : (hdT L).says = w
  ·
   rw [if_pos ⟨h, h2⟩]; simp [h2]
  ·
   rw [if_neg (fun e => h2 e.2)]; simp [h2]
 ·
  rw [if_neg (by omega), if_neg (fun e => h e.1)]
section
variable {w0 w : World} {g : Nat} {s : List UInt8} {L : List Tk} {v5 : Value} {tab : List UInt8} {v7 : Value} {ord : List UInt8} {down : Bool} {lim : Int}
theorem pass_f (hs : s.length ≤ 1000000000000) (p : Nat) (hp : p ≤ s.length) (hL : toks s p = L) (kf : Nat) (hk : s.length + 20 < kf) (k : Nat) (hk2 : 2 ≤ k) (wd : List UInt8) :
  ∃ p', p' ≤ s.length ∧ toks s p' = (passL k wd L).2 ∧ query_reader_pass.f kf (strB s) ((tokAt s p).2 : Int) ((hdT L).kind : Int) (strB (hdT L).says) ((hdT L).place : Int) v5 (strB tab) v7 (strB ord) down lim (k : Int) (strB wd) =
   some ((passL k wd L).1, strB s, ((tokAt s p').2 : Int), ((hdT (passL k wd L).2).kind : Int), strB (hdT (passL k wd L).2).says, ((hdT (passL k wd L).2).place : Int), strB tab, strB ord, down, lim) := by
 unfold query_reader_pass.f
 rw [is_f]
 simp only [Option.bind_some]
 by_cases hm : (hdT L).kind = k ∧ (hdT L).says = wd
 ·
  have e : passL k wd L = (true, L.tail) := if_pos hm
  have hh : hdT L = (tokAt s p).1 := by rw [← hL]; exact hd_toks s p hp
  have he := tok_end s p hp
  have ht : toks s (tokAt s p).2 = L.tail := by rw [← hL]; exact (tl_toks s p hp (by rw [← hh, hm.1]; exact hk2)).symm
  rw [e]
  refine ⟨(tokAt s p).2, he, ht, ?_⟩
  rw [if_pos rfl, stepF_f s hs _ he kf hk, ht]
  rfl
 ·
  have e : passL k wd L = (false, L) := if_neg hm
  rw [e]
  refine ⟨p, hp, hL, ?_⟩
  rw [if_neg Bool.false_ne_true]
theorem pass_rd (hs : s.length ≤ 1000000000000) (h : Rd w0 w g s L v5 tab v7 ord down lim) (hB : Below w0.heap.size w0 w) (k : Nat) (hk2 : 2 ≤ k) (wd : List UInt8) :
  Calls Tryz.prog 45 #[.pointer (some ⟨g, 0, none⟩), .int .i64 k, .string (strB wd)] w fun e w' => e = .returned (.bool (passL k wd L).1) ∧ Rd w0 w' g s (passL k wd L).2 v5 tab v7 ord down lim ∧ Below w0.heap.size w0 w' ∧ KeepBut w w' g none := by
 obtain ⟨p, hp, hL, hI⟩ := h
 obtain ⟨p', hp', hL', hf⟩ := pass_f (v5 := v5) (tab := tab) (v7 := v7) (ord := ord) (down := down) (lim := lim) hs p hp hL (s.length + 21) (by omega) k hk2 wd
 refine (query_reader_pass.calls (s.length + 21) g _ _ _ _ _ _ _ _ _ _ _ _ _ _ _ _ _ _ _ _ _ _ _ w0 w hI hB hf).mono ?_
 rintro e w' ⟨rfl, hI', hB', hK⟩
 exact ⟨rfl, ⟨p', hp', hL', hI'⟩, hB', hK⟩
theorem name_f (hs : s.length ≤ 1000000000000) (p : Nat) (hp : p ≤ s.length) (hL : toks s p = L) (kf : Nat) (hk : s.length + 20 < kf) :
  ∃ p', p' ≤ s.length ∧ toks s p' = (nameL L).2 ∧ query_reader_name.f kf (strB s) ((tokAt s p).2 : Int) ((hdT L).kind : Int) (strB (hdT L).says) ((hdT L).place : Int) v5 (strB tab) v7 (strB ord) down lim =
   some (strB ((nameL L).1.getD []), (nameL L).1.isSome, strB s, ((tokAt s p').2 : Int), ((hdT (nameL L).2).kind : Int), strB (hdT (nameL L).2).says, ((hdT (nameL L).2).place : Int), strB tab, strB ord, down, lim) := by
 unfold query_reader_name.f
 rw [strB_size]
 by_cases hm : (hdT L).kind = 2 ∧ (hdT L).says.length ≤ 16
 ·
  have e : nameL L = (some (hdT L).says, L.tail) := if_pos hm
  have hh : hdT L = (tokAt s p).1 := by rw [← hL]; exact hd_toks s p hp
  have he := tok_end s p hp
  have ht : toks s (tokAt s p).2 = L.tail := by rw [← hL]; exact (tl_toks s p hp (by rw [← hh, hm.1]; omega)).symm
  rw [e]
  refine ⟨(tokAt s p).2, he, ht, ?_⟩
  rw [if_pos (by omega), if_neg (by omega), stepF_f s hs _ he kf hk, ht]
  rfl
 ·
  have e : nameL L = (none, L) := if_neg hm
  rw [e]
  refine ⟨p, hp, hL, ?_⟩
  by_cases h2 : (hdT L).kind = 2
  ·
   have h3 : ¬ (hdT L).says.length ≤ 16 := fun h => hm ⟨h2, h⟩
   rw [if_pos (by omega), if_pos (by omega)]
   rfl
  ·
   rw [if_neg (by omega)]
   rfl
theorem name_rd (hs : s.length ≤ 1000000000000) (h : Rd w0 w g s L v5 tab v7 ord down lim) (hB : Below w0.heap.size w0 w) :
  Calls Tryz.prog 61 #[.pointer (some ⟨g, 0, none⟩)] w fun e w' => e = .returned (.tuple #[.string (strB ((nameL L).1.getD [])), .bool (nameL L).1.isSome]) ∧ Rd w0 w' g s (nameL L).2 v5 tab v7 ord down lim ∧ Below w0.heap.size w0 w' ∧ KeepBut w w' g none := by
 obtain ⟨p, hp, hL, hI⟩ := h
 obtain ⟨p', hp', hL', hf⟩ := name_f (v5 := v5) (tab := tab) (v7 := v7) (ord := ord) (down := down) (lim := lim) hs p hp hL (s.length + 21) (by omega)
 refine (query_reader_name.calls (s.length + 21) g _ _ _ _ _ _ _ _ _ _ _ _ _ _ _ _ _ _ _ _ _ _ w0 w hI hB hf).mono ?_
 rintro e w' ⟨rfl, hI', hB', hK⟩
 exact ⟨rfl, ⟨p', hp', hL', hI'⟩, hB', hK⟩
theorem table_rd (hs : s.length ≤ 1000000000000) (h : Rd w0 w g s L v5 tab v7 ord down lim) (hB : Below w0.heap.size w0 w) :
  Calls Tryz.prog 40 #[.pointer (some ⟨g, 0, none⟩)] w fun e w' => e = .returned (.bool (nameL L).1.isSome) ∧ Rd w0 w' g s (nameL L).2 v5 ((nameL L).1.getD []) v7 ord down lim ∧ Below w0.heap.size w0 w' ∧ KeepBut w w' g none := by
 obtain ⟨p, hp, hL, hI⟩ := h
 obtain ⟨p', hp', hL', hf⟩ := name_f (v5 := v5) (tab := tab) (v7 := v7) (ord := ord) (down := down) (lim := lim) hs p hp hL (s.length + 21) (by omega)
 have hf' := congrArg (fun o => o.bind fun (bt : ByteArray × Bool × ByteArray × Int × Int × ByteArray × Int × ByteArray × ByteArray × Bool × Int) => some (bt.2.1, bt.2.2.1, bt.2.2.2.1, bt.2.2.2.2.1, bt.2.2.2.2.2.1, bt.2.2.2.2.2.2.1, bt.1, bt.2.2.2.2.2.2.2.2.1, bt.2.2.2.2.2.2.2.2.2.1, bt.2.2.2.2.2.2.2.2.2.2)) hf
 refine (query_reader_table.calls (s.length + 21) g _ _ _ _ _ _ _ _ _ _ _ _ _ _ _ _ _ _ _ _ _ w0 w hI hB hf').mono ?_
 rintro e w' ⟨rfl, hI', hB', hK⟩
 exact ⟨rfl, ⟨p', hp', hL', hI'⟩, hB', hK⟩
theorem order_rd (hs : s.length ≤ 1000000000000) (h : Rd w0 w g s L v5 tab v7 [] false lim) (hB : Below w0.heap.size w0 w) :
  Calls Tryz.prog 42 #[.pointer (some ⟨g, 0, none⟩)] w fun e w' => e = .returned (.bool (orderL L).1.isSome) ∧ Rd w0 w' g s (orderL L).2 v5 tab v7 (((orderL L).1.map (·.1)).getD []) (((orderL L).1.map (·.2)).getD false) lim ∧ Below w0.heap.size w0 w' ∧ KeepBut w w' g none := by
 obtain ⟨p, hp, hL, hI⟩ := h
 obtain ⟨p1, hp1, hL1, hf1⟩ := pass_f (v5 := v5) (tab := tab) (v7 := v7) (ord := []) (down := false) (lim := lim) hs p hp hL (s.length + 21) (by omega) 2 (by omega) wBy
 obtain ⟨p2, hp2, hL2, hf2⟩ := name_f (v5 := v5) (tab := tab) (v7 := v7) (ord := []) (down := false) (lim := lim) hs p1 hp1 hL1 (s.length + 21) (by omega)
 obtain ⟨p3, hp3, hL3, hf3⟩ := pass_f (v5 := v5) (tab := tab) (v7 := v7) (ord := (nameL (passL 2 wBy L).2).1.getD []) (down := false) (lim := lim) hs p2 hp2 hL2 (s.length + 21) (by omega) 2 (by omega) wDown
 have fin : ∃ p', p' ≤ s.length ∧ toks s p' = (orderL L).2 ∧ query_reader_order.f (s.length + 21) (strB s) ((tokAt s p).2 : Int) ((hdT L).kind : Int) (strB (hdT L).says) ((hdT L).place : Int) v5 (strB tab) v7 (strB []) false lim =
   some ((orderL L).1.isSome, strB s, ((tokAt s p').2 : Int), ((hdT (orderL L).2).kind : Int), strB (hdT (orderL L).2).says, ((hdT (orderL L).2).place : Int), strB tab, strB (((orderL L).1.map (·.1)).getD []), ((orderL L).1.map (·.2)).getD false, lim) := by
  unfold query_reader_order.f
  rw [show (⟨#[98, 121]⟩ : ByteArray) = strB wBy from rfl, show (⟨#[100, 111, 119, 110]⟩ : ByteArray) = strB wDown from rfl, show (2 : Int) = ((2 : Nat) : Int) from rfl, hf1]
  simp only [Option.bind_some]
  unfold orderL
  by_cases h1 : (passL 2 wBy L).1 = true
  ·
   rw [if_pos h1, if_pos h1, hf2]
   simp only [Option.bind_some]
   cases hn : nameL (passL 2 wBy L).2 with
   | mk o L2 =>
    rw [hn] at hf3 hL2 hL3
    cases o with
    | none =>
     refine ⟨p2, hp2, hL2, ?_⟩
     rfl
    | some c =>
     refine ⟨p3, hp3, hL3, ?_⟩
     simp only [Option.isSome_some, Option.getD_some, if_true] at hf3 ⊢
     rw [hf3]
     rfl
  ·
   have h1f : (passL 2 wBy L).1 = false := by simpa using h1
   have e2 : (passL 2 wBy L).2 = L := by
    unfold passL at h1 ⊢
    split
    ·
     rename_i hh; rw [if_pos hh] at h1; exact absurd rfl h1
    ·
     rfl
   rw [if_neg h1, if_neg h1]
   refine ⟨p1, hp1, by rw [hL1, e2], ?_⟩
   rw [e2]
   rfl
 obtain ⟨p', hp', hL', hf⟩ := fin
 refine (query_reader_order.calls (s.length + 21) g _ _ _ _ _ _ _ _ _ _ _ _ _ _ _ _ _ _ _ _ _ w0 w hI hB hf).mono ?_
 rintro e w' ⟨rfl, hI', hB', hK⟩
 exact ⟨rfl, ⟨p', hp', hL', hI'⟩, hB', hK⟩
def numOk (L : List Tk) : Prop := (hdT L).kind = 3 → (hdT L).says ≠ [] ∧ ∀ c ∈ (hdT L).says, isDg c = true
theorem atoi_digits (l : List UInt8) (h0 : l ≠ []) (h : ∀ c ∈ l, isDg c = true) (hl : l.length ≤ 9) : ∃ n : Int, Lib.atoi l = some n ∧ 0 ≤ n ∧ n ≤ 999999999 ∧ (l.head? ≠ some 48 → 1 ≤ n) := by
 have dv : ∀ c, isDg c = true → Lib.digitVal c = some (c.toNat - 48) ∧ 48 ≤ c.toNat ∧ c.toNat ≤ 57 := by
  intro c hc
  rw [dgI, decide_eq_true_eq] at hc
  refine ⟨?_, by omega, by omega⟩
  unfold Lib.digitVal
  rw [if_pos (by omega)]
 have key : ∀ (l : List UInt8) (acc : Nat), (∀ c ∈ l, isDg c = true) → ∃ m, Lib.decFrom acc l = some m ∧ acc ≤ m := by
  intro l
  induction l with
  | nil => intro acc _; exact ⟨acc, rfl, Nat.le_refl _⟩
  | cons c l ih =>
   intro acc hc
   obtain ⟨h1, h2, h3⟩ := dv c (hc c (by simp))
   obtain ⟨m, hm, hle⟩ := ih (acc * 10 + (c.toNat - 48)) (fun x hx => hc x (by simp [hx]))
   refine ⟨m, ?_, by omega⟩
   unfold Lib.decFrom
   rw [h1]
   exact hm
 match l, h0, h, hl with
 | c :: r, _, h, hl =>
  obtain ⟨h1, h2, h3⟩ := dv c (h c (by simp))
  obtain ⟨m, hm, _⟩ := key (c :: r) 0 h
  have hlt := Lib.decFrom_lt (c :: r) 0 m hm
  have h45 : (c == 45) = false := by rw [beq_eq_false_iff_ne]; rintro rfl; revert h2; decide
  have h43 : (c == 43) = false := by rw [beq_eq_false_iff_ne]; rintro rfl; revert h2; decide
  refine ⟨(m : Int), ?_, by omega, ?_, ?_⟩
  ·
   unfold Lib.atoi
   show (if (c == 45) = true then _ else if (c == 43) = true then _ else (Lib.decNat (c :: r)).map fun (m : Nat) => (m : Int)) = _
   rw [h45, h43, if_neg Bool.false_ne_true, if_neg Bool.false_ne_true]
   unfold Lib.decNat
   rw [if_neg (by simp), hm]
   rfl
  ·
   have h9 : 10 ^ (c :: r).length ≤ 10 ^ 9 := Nat.pow_le_pow_right (by omega) hl
   have : (0 + 1) * 10 ^ (c :: r).length ≤ 10 ^ 9 := by rw [Nat.zero_add, Nat.one_mul]; exact h9
   omega
  ·
   intro h48
   have hc48 : c.toNat ≠ 48 := fun e => h48 (by rw [List.head?_cons]; congr 1; rw [← UInt8.toNat_inj]; exact e)
   have hm2 : Lib.decFrom (0 * 10 + (c.toNat - 48)) r = some m := by
    have := hm
    unfold Lib.decFrom at this
    rw [h1] at this
    exact this
   obtain ⟨m2, hm3, hle⟩ := key r (0 * 10 + (c.toNat - 48)) (fun x hx => h x (by simp [hx]))
   rw [hm2] at hm3
   obtain rfl := Option.some.inj hm3
   omega
theorem limit_rd (hs : s.length ≤ 1000000000000) (h : Rd w0 w g s L v5 tab v7 ord down 0) (hB : Below w0.heap.size w0 w) (hN : numOk L) :
  Calls Tryz.prog 43 #[.pointer (some ⟨g, 0, none⟩)] w fun e w' => e = .returned (.bool (limitL L).1.isSome) ∧ Rd w0 w' g s (limitL L).2 v5 tab v7 ord down ((limitL L).1.getD 0) ∧ Below w0.heap.size w0 w' ∧ KeepBut w w' g none := by
 obtain ⟨p, hp, hL, hI⟩ := h
 have fin : ∃ p', p' ≤ s.length ∧ toks s p' = (limitL L).2 ∧ query_reader_limit.f (s.length + 22) (strB s) ((tokAt s p).2 : Int) ((hdT L).kind : Int) (strB (hdT L).says) ((hdT L).place : Int) v5 (strB tab) v7 (strB ord) down 0 =
   some ((limitL L).1.isSome, strB s, ((tokAt s p').2 : Int), ((hdT (limitL L).2).kind : Int), strB (hdT (limitL L).2).says, ((hdT (limitL L).2).place : Int), strB tab, strB ord, down, (limitL L).1.getD 0) := by
  unfold query_reader_limit.f limitL
  rw [strB_size]
  by_cases hk : (hdT L).kind = 3
  ·
   obtain ⟨hne, hdg⟩ := hN hk
   rw [if_pos (show ((hdT L).kind : Int) = 3 by omega)]
   by_cases h9 : (hdT L).says.length ≤ 9
   ·
    have hpos : 0 < (hdT L).says.length := List.length_pos_iff.2 hne
    rw [if_neg (show ¬ (((hdT L).says.length : Nat) : Int) > 9 by omega), if_pos (show (0 : Int) < ((hdT L).says.length : Nat) by omega)]
    have hbt : bt (strB (hdT L).says) 0 = ((hdT L).says[0].toNat : Int) := bt_strB (hdT L).says 0 hpos
    have hh : (hdT L).says.head? = some (hdT L).says[0] := List.head?_eq_getElem? .. |>.trans (List.getElem?_eq_getElem hpos)
    have e48 : (((hdT L).says[0].toNat : Int) = 48) ↔ (hdT L).says[0] = 48 := u8eq _ 48
    rw [hbt, hh, query_reader_limit.j0]
    by_cases h48 : (hdT L).says[0] = 48
    ·
     rw [if_neg (fun (e : (hdT L).kind = 3 ∧ (hdT L).says.length ≤ 9 ∧ some (hdT L).says[0] ≠ some 48) => e.2.2 (by rw [h48])), if_pos (show (((hdT L).says[0].toNat : Int) == 48) = true by rw [beq_iff_eq]; exact e48.2 h48)]
     exact ⟨p, hp, hL, rfl⟩
    ·
     rw [if_pos (show (hdT L).kind = 3 ∧ (hdT L).says.length ≤ 9 ∧ some (hdT L).says[0] ≠ some 48 from ⟨hk, h9, fun e => h48 (Option.some.inj e)⟩), if_neg (show ¬ (((hdT L).says[0].toNat : Int) == 48) = true by rw [beq_iff_eq]; exact fun e => h48 (e48.1 e))]
     obtain ⟨n, hn, hn0, hn1, _⟩ := atoi_digits _ hne hdg h9
     have hht : hdT L = (tokAt s p).1 := by rw [← hL]; exact hd_toks s p hp
     have he := tok_end s p hp
     have ht : toks s (tokAt s p).2 = L.tail := by rw [← hL]; exact (tl_toks s p hp (by rw [← hht, hk]; omega)).symm
     have ha : strconv_Atoi.f (strB (hdT L).says) = some (n, none) := by
      unfold strconv_Atoi.f
      rw [strB_size, if_pos (by omega), show (strB (hdT L).says).data.toList = (hdT L).says from rfl, hn]
      rfl
     rw [ha, hn]
     simp only [Option.bind_some]
     refine ⟨(tokAt s p).2, he, ht, ?_⟩
     rw [stepF_f s hs _ he _ (by omega), ht]
     rfl
   ·
    rw [if_pos (show (((hdT L).says.length : Nat) : Int) > 9 by omega), query_reader_limit.j0, if_pos rfl, if_neg (fun (e : (hdT L).kind = 3 ∧ (hdT L).says.length ≤ 9 ∧ (hdT L).says.head? ≠ some 48) => h9 e.2.1)]
    exact ⟨p, hp, hL, rfl⟩
  ·
   rw [if_neg (show ¬ ((hdT L).kind : Int) = 3 by omega), query_reader_limit.j0, if_pos rfl, if_neg (fun (e : (hdT L).kind = 3 ∧ (hdT L).says.length ≤ 9 ∧ (hdT L).says.head? ≠ some 48) => hk e.1)]
   exact ⟨p, hp, hL, rfl⟩
 obtain ⟨p', hp', hL', hf⟩ := fin
 refine (query_reader_limit.calls (s.length + 22) g _ _ _ _ _ _ _ _ _ _ _ _ _ _ _ _ _ _ _ _ _ w0 w hI hB hf).mono ?_
 rintro e w' ⟨rfl, hI', hB', hK⟩
 exact ⟨rfl, ⟨p', hp', hL', hI'⟩, hB', hK⟩
end
end Go.Proofs.YthhemephaabblaaGreatDoor.Hq
namespace Go.Proofs.YthhemephaabblaaGreatDoor.Hq
open Go.RowKit Go.Proofs.YthhemephaabblaaGreatDoorW.PrintWords Go.Proofs.YthhemephaabblaaGreatDoorW.PrintLast Go.Proofs.YthhemephaabblaaGreatDoorW.PrintMore Go.Proofs.YthhemephaabblaaGreatDoor Go.Proofs.YthhemephaabblaaGreatDoor.Q Go.Proofs.YthhemephaabblaaGreatDoor.R
set_option linter.unusedVariables false
set_option linter.unusedSimpArgs false
theorem own_keep {base e size n g : Nat} {w w' : World} {v : Value} {L : List Value} (h : w.ownsRow base e size v n L) (hK : KeepBut w w' g none) (hg : g < base) : w'.ownsRow base e size v n L := by
 rcases h.2 with ⟨rfl, h0⟩ | ⟨k, cap, cur, rfl, hb, hh, hr⟩
 ·
  exact ⟨h.1, .inl ⟨rfl, h0⟩⟩
 ·
  refine ⟨h.1, .inr ⟨k, cap, cur, rfl, hb, ?_, hr⟩⟩
  rw [hK.2 k (by
   by_cases hlt : k < w.heap.size
   ·
    exact hlt
   ·
    rw [Array.getElem?_eq_none (by omega)] at hh; cases hh) (by omega) (by simp)]
  exact hh
theorem keep_then {w w1 w2 : World} {g : Nat} (h : KeepBut w w1 g none) (hB : Below w.heap.size w1 w2) : KeepBut w w2 g none := ⟨Nat.le_trans h.1 hB.size, fun i hi hne hr => (hB.block i hi).trans (h.2 i hi hne hr)⟩
theorem Sr.keep {B g : Nat} {w w' : World} {v : Value} {xs : List (List UInt8)} (h : Sr B w v xs) (hK : KeepBut w w' g none) (hg : g < B) : Sr B w' v xs := own_keep h hK hg
theorem Sr.far {B g k : Nat} {w : World} {v u : Value} {xs : List (List UInt8)} (h : Sr B w v xs) (hg : g < B) : Sr B (w.setCell ⟨g, k, none⟩ u) v xs := by
 refine h.keep (g := g) ⟨by simp, fun i hi hne _ => ?_⟩ hg
 exact Below.heap_setCell _ _ _ _ (by simpa using hne)
theorem own_form {base e size n : Nat} {w : World} {v : Value} {L : List Value} (h : w.ownsRow base e size v n L) : ∃ A c, v = .slice A n c ∧ n ≤ c := by
 rcases h.2 with ⟨rfl, rfl⟩ | ⟨k, cap, cur, rfl, hb, hh, hc, _⟩
 ·
  exact ⟨none, 0, rfl, Nat.le_refl _⟩
 ·
  exact ⟨_, cap, rfl, hc⟩
theorem IsS60.set_5 {w0 W : World} {g : Nat} {f0 : ByteArray} {f1 : Int} {f2 : Int} {f3 : ByteArray} {f4 : Int} {f5 : Value} {f6 : ByteArray} {f7 : Value} {f8 : ByteArray} {f9 : Bool} {f10 : Int} (h : IsS60 w0 W g f0 f1 f2 f3 f4 f5 f6 f7 f8 f9 f10) (x : Value) : IsS60 w0 (W.setCell ⟨g, 5, none⟩ x) g f0 f1 f2 f3 f4 x f6 f7 f8 f9 f10 := by
 obtain ⟨hb, hg⟩ := h
 exact ⟨by simpa using blk_set hb 5 x, hg⟩
theorem IsS60.set_7 {w0 W : World} {g : Nat} {f0 : ByteArray} {f1 : Int} {f2 : Int} {f3 : ByteArray} {f4 : Int} {f5 : Value} {f6 : ByteArray} {f7 : Value} {f8 : ByteArray} {f9 : Bool} {f10 : Int} (h : IsS60 w0 W g f0 f1 f2 f3 f4 f5 f6 f7 f8 f9 f10) (x : Value) : IsS60 w0 (W.setCell ⟨g, 7, none⟩ x) g f0 f1 f2 f3 f4 f5 f6 x f8 f9 f10 := by
 obtain ⟨hb, hg⟩ := h
 exact ⟨by simpa using blk_set hb 7 x, hg⟩
section
variable {w0 w : World} {g : Nat} {s : List UInt8} {L : List Tk} {v5 : Value} {tab : List UInt8} {v7 : Value} {ord : List UInt8} {down : Bool} {lim : Int}
theorem Rd.lt (h : Rd w0 w g s L v5 tab v7 ord down lim) : g < w.heap.size := by obtain ⟨p, _, _, hI⟩ := h; exact hI.lt
theorem Rd.ge (h : Rd w0 w g s L v5 tab v7 ord down lim) : w0.heap.size ≤ g := by obtain ⟨p, _, _, hI⟩ := h; exact hI.2
theorem Rd.move {w' : World} (h : Rd w0 w g s L v5 tab v7 ord down lim) (hh : w'.heap[g]? = w.heap[g]?) : Rd w0 w' g s L v5 tab v7 ord down lim := by
 obtain ⟨p, hp, hL, hb, hg⟩ := h
 exact ⟨p, hp, hL, by rw [hh]; exact hb, hg⟩
theorem Rd.set5 (h : Rd w0 w g s L v5 tab v7 ord down lim) (x : Value) : Rd w0 (w.setCell ⟨g, 5, none⟩ x) g s L x tab v7 ord down lim := by
 obtain ⟨p, hp, hL, hI⟩ := h
 exact ⟨p, hp, hL, IsS60.set_5 hI x⟩
theorem Rd.set7 (h : Rd w0 w g s L v5 tab v7 ord down lim) (x : Value) : Rd w0 (w.setCell ⟨g, 7, none⟩ x) g s L v5 tab x ord down lim := by
 obtain ⟨p, hp, hL, hI⟩ := h
 exact ⟨p, hp, hL, IsS60.set_7 hI x⟩
theorem Rd.c5 (h : Rd w0 w g s L v5 tab v7 ord down lim) : w.cell? ⟨g, 5, none⟩ = some v5 ∧ w.frozen? ⟨g, 5, none⟩ = false := by
 obtain ⟨p, hp, hL, hb, hg⟩ := h
 exact ⟨(blk_cell hb 5).trans rfl, blk_frozen hb 5⟩
theorem Rd.c7 (h : Rd w0 w g s L v5 tab v7 ord down lim) : w.cell? ⟨g, 7, none⟩ = some v7 ∧ w.frozen? ⟨g, 7, none⟩ = false := by
 obtain ⟨p, hp, hL, hb, hg⟩ := h
 exact ⟨(blk_cell hb 7).trans rfl, blk_frozen hb 7⟩
theorem Rd.c23 (h : Rd w0 w g s L v5 tab v7 ord down lim) : w.cell? ⟨g, 2, none⟩ = some (.int .i64 ((hdT L).kind : Int)) ∧ w.cell? ⟨g, 3, none⟩ = some (.string (strB (hdT L).says)) ∧ w.cell? ⟨g, 4, none⟩ = some (.int .i64 ((hdT L).place : Int)) := by
 obtain ⟨p, hp, hL, hb, hg⟩ := h
 exact ⟨(blk_cell hb 2).trans rfl, (blk_cell hb 3).trans rfl, (blk_cell hb 4).trans rfl⟩
def RdP (w0 w : World) (g : Nat) (s : List UInt8) (r : Value) (L' : List Tk) (v5 : Value) (tab : List UInt8) (v7 : Value) (ord : List UInt8) (down : Bool) (lim : Int) (e : Ending) (w' : World) : Prop := e = .returned r ∧ Rd w0 w' g s L' v5 tab v7 ord down lim ∧ Below w0.heap.size w0 w' ∧ KeepBut w w' g none
theorem pass_p (hs : s.length ≤ 1000000000000) (h : Rd w0 w g s L v5 tab v7 ord down lim) (hB : Below w0.heap.size w0 w) (k : Nat) (hk2 : 2 ≤ k) (wd : List UInt8) {b : Bool} {L1 : List Tk} (he : passL k wd L = (b, L1)) :
  Calls Tryz.prog 45 #[.pointer (some ⟨g, 0, none⟩), .int .i64 k, .string (strB wd)] w (RdP w0 w g s (.bool b) L1 v5 tab v7 ord down lim) := by
 have := pass_rd hs h hB k hk2 wd
 rw [he] at this
 exact this
theorem name_p (hs : s.length ≤ 1000000000000) (h : Rd w0 w g s L v5 tab v7 ord down lim) (hB : Below w0.heap.size w0 w) {o : Option (List UInt8)} {L1 : List Tk} (he : nameL L = (o, L1)) :
  Calls Tryz.prog 61 #[.pointer (some ⟨g, 0, none⟩)] w (RdP w0 w g s (.tuple #[.string (strB (o.getD [])), .bool o.isSome]) L1 v5 tab v7 ord down lim) := by
 have := name_rd hs h hB
 rw [he] at this
 exact this
theorem step_p (hs : s.length ≤ 1000000000000) (h : Rd w0 w g s L v5 tab v7 ord down lim) (hB : Below w0.heap.size w0 w) (hk : 2 ≤ (hdT L).kind) :
  Calls Tryz.prog 44 #[.pointer (some ⟨g, 0, none⟩)] w (RdP w0 w g s (.tuple #[]) L.tail v5 tab v7 ord down lim) := by
 obtain ⟨p, hp, hL, hI⟩ := h
 have hh : hdT L = (tokAt s p).1 := by rw [← hL]; exact hd_toks s p hp
 have he := tok_end s p hp
 have ht : toks s (tokAt s p).2 = L.tail := by rw [← hL]; exact (tl_toks s p hp (by rw [← hh]; exact hk)).symm
 have hf := stepF_f s hs _ he (s.length + 21) (by omega) ((hdT L).kind : Int) (strB (hdT L).says) ((hdT L).place : Int) v5 (strB tab) v7 (strB ord) down lim
 refine (query_reader_step.calls (s.length + 21) g _ _ _ _ _ _ _ _ _ _ _ _ _ _ _ _ _ _ _ _ w0 w hI hB hf).mono ?_
 rintro e w' ⟨rfl, hI', hB', hK⟩
 rw [ht] at hI'
 exact ⟨rfl, ⟨_, he, ht, hI'⟩, hB', hK⟩
end
def ColsP (w0 w : World) (g : Nat) (s : List UInt8) (o : Option (List (List UInt8))) (L' : List Tk) (tab : List UInt8) (v7 : Value) (ord : List UInt8) (down : Bool) (lim : Int) (e : Ending) (w' : World) : Prop :=
 e = .returned (.bool o.isSome) ∧ (∃ v5, Rd w0 w' g s L' v5 tab v7 ord down lim ∧ ∀ cs, o = some cs → Sr w.heap.size w' v5 cs) ∧ Below w0.heap.size w0 w' ∧ KeepBut w w' g none
def ColsI (w0 w : World) (g : Nat) (s : List UInt8) (L : List Tk) (tab : List UInt8) (v7 : Value) (ord : List UInt8) (down : Bool) (lim : Int) (n : Nat) (wr : World) : Prop :=
 ∃ acc L1 v5, acc.length + n = 8 ∧ Rd w0 wr g s L1 v5 tab v7 ord down lim ∧ Sr w.heap.size wr v5 acc ∧ Below w0.heap.size w0 wr ∧ KeepBut w wr g none ∧ colsL n acc L1 = colsL 8 [] L
set_option maxRecDepth 100000 in
set_option maxHeartbeats 3200000 in
theorem columns_rd (w0 w : World) (g : Nat) (s : List UInt8) (L : List Tk) (tab : List UInt8) (v7 : Value) (ord : List UInt8) (down : Bool) (lim : Int) (hs : s.length ≤ 1000000000000) (h : Rd w0 w g s L (.slice none 0 0) tab v7 ord down lim) (hB : Below w0.heap.size w0 w) :
  Calls Tryz.prog 39 #[.pointer (some ⟨g, 0, none⟩)] w (ColsP w0 w g s (columnsL L).1 (columnsL L).2 tab v7 ord down lim) := by
 have hg := h.lt
 rcases hp : passL 5 wStar L with ⟨b, L1⟩
 have hc : Calls Tryz.prog 45 #[.pointer (some ⟨g, 0, none⟩), .int .i64 5, .string ⟨#[42]⟩] w (RdP w0 w g s (.bool b) L1 (.slice none 0 0) tab v7 ord down lim) := pass_p hs h hB 5 (by omega) wStar hp
 have HP := Aside0.mk hp
 have HR0 := Aside0.mk h
 clear hp h
 have hK0 : KeepBut w w g none := KeepBut.of_below (Below.refl _ _) g none
 cases b with
 | true =>
  go_enter Tryz.func39, Tryz.ntmps39
  go_wp2_with (go_at_call 45; (with_reducible refine hc.mono ?_); rintro e w1 ⟨rfl, hR, hB1, hK⟩; have HR1 := Aside0.mk hR; have HB1 := Aside0.mk hB1; have HK1 := Aside0.mk hK; clear hR hB1 hK)
  go_ret
  refine ⟨?_, ⟨.slice none 0 0, ?_, ?_⟩, HB1.out, HK1.out⟩
  ·
   unfold columnsL; rw [if_pos (by rw [HP.out])]; rfl
  ·
   unfold columnsL; rw [if_pos (by rw [HP.out]), HP.out]; exact HR1.out
  ·
   intro cs hcs
   unfold columnsL at hcs
   rw [if_pos (by rw [HP.out])] at hcs
   obtain rfl := Option.some.inj hcs
   exact World.ownsRow_nil _ _ _ _
 | false =>
  have hcol : columnsL L = colsL 8 [] L := by unfold columnsL; rw [if_neg (by rw [HP.out]; exact Bool.false_ne_true)]
  have hL1 : L1 = L := by
   have := HP.out
   unfold passL at this
   split at this
   ·
    simp at this
   ·
    exact (Prod.mk.inj this).2.symm
  subst hL1
  rw [hcol]
  have HCL := Aside0.mk hcol
  clear hcol
  go_enter Tryz.func39, Tryz.ntmps39
  go_wp2_with (go_at_call 45; (with_reducible refine hc.mono ?_); rintro e w1 ⟨rfl, hR, hB1, hK⟩; have HR1 := Aside0.mk hR; have HB1 := Aside0.mk hB1; have HK1 := Aside0.mk hK; clear hR hB1 hK)
  go_loopg [3] 8 (fun kq s3 wr => ColsI w0 w g s L1 tab v7 ord down lim kq wr)
  case atStart => exact ⟨[], L1, .slice none 0 0, rfl, HR1.out, World.ownsRow_nil _ _ _ _, HB1.out, HK1.out, rfl⟩
  case round =>
  obtain ⟨acc, L2, v5, hn, hR, hS, hBr, hKr, he⟩ := hrel
  have HE := Aside0.mk he
  have HRr := Aside0.mk hR
  have HSr := Aside0.mk hS
  have HBr := Aside0.mk hBr
  have HKr := Aside0.mk hKr
  have c5 := hR.c5.1
  obtain ⟨A5, cap5, rfl, hc5⟩ := own_form hS
  clear he hR hS hBr hKr hc hK0
  cases gk with
  | zero =>
   have hl : acc.length = 8 := by omega
   rw [hl] at c5
   go_wp2_with fail
   go_ret
   have e0 := HE.out
   rw [← e0]
   exact ⟨rfl, ⟨_, HRr.out, fun cs h => by cases h⟩, HBr.out, HKr.out⟩
  | succ k =>
   have hl : (acc.length : Int) < 8 := by omega
   have hl2 : acc.length < 8 := by omega
   rcases hnm : nameL L2 with ⟨o, L3⟩
   have hcn := name_p hs HRr.out HBr.out hnm
   have HNM := Aside0.mk hnm
   clear hnm
   cases o with
   | none =>
    go_wp2_with (go_at_call 61; (with_reducible refine hcn.mono ?_); rintro e w2 ⟨rfl, hR, hB1, hK⟩; have HR2 := Aside0.mk hR; have HB2 := Aside0.mk hB1; have HK2 := Aside0.mk hK; clear hR hB1 hK)
    go_ret
    have e0 := HE.out
    rw [← e0]
    have e1 : colsL (k + 1) acc L2 = (none, L3) := by rw [colsL, HNM.out]
    rw [e1]
    exact ⟨rfl, ⟨_, HR2.out, fun cs h => by cases h⟩, HB2.out, HKr.out.trans HK2.out (.inl rfl)⟩
   | some c =>
    have hac := HSr.out
    rcases hpm : passL 5 wComma L3 with ⟨b2, L4⟩
    have HPM := Aside0.mk hpm
    clear hpm
    have HG := Aside0.mk hg
    go_wp2_with (first | (go_at_call 61; (with_reducible refine hcn.mono ?_); rintro e w2 ⟨rfl, hR, hB1, hK⟩; have hS2 := HSr.out.keep hK HG.out; have HS2 := Aside0.mk hS2; have HR2 := Aside0.mk hR; have HB2 := Aside0.mk hB1; have HK2 := Aside0.mk (HKr.out.trans hK (.inl rfl)); have d5 := hR.c5.1; clear hR hB1 hK hS2) | (at_builtin; refine sr_app (W := w2) w.heap.size rfl _ _ rfl _ acc [c] #[.string (strB c)] rfl ?sx rfl rfl ?s1 ?s2 ?s3 ?_; (case sx => simp [Act.eval]); (case s1 => exact HS2.out); (case s2 => exact HK2.out.1); (case s3 => simp; omega); intro v1 w3 hS1 hB1 hG1; obtain ⟨A1, cp1, ev1, hcp1⟩ := own_form hS1; rw [show (acc ++ [c]).length = acc.length + 1 by simp] at ev1; subst ev1; have hg2 := HG.out; have hR3 := HR2.out.move (hB1.block g hg2); have HR3 := Aside0.mk hR3; have hf5 := hR3.c5.2; have hd5 := hR3.c5.1; have HB3 := Aside0.mk (Below.trans HB2.out (hB1.mono (by have := HR2.out.ge; omega))); have HK3 := Aside0.mk (keep_then HK2.out hB1); have HS3 := Aside0.mk hS1; clear hS1 hB1 hG1 hR3 hg2) | (go_at_call 45; refine Aside0.out ?_))
    refine Aside0.mk ?_
    have HR4 := Aside0.mk (HR3.out.set5 (.slice A1 (acc.length + 1) cp1))
    have HB4 := Aside0.mk (below_set (j := 5) (v := .slice A1 (acc.length + 1) cp1) HB3.out HR3.out.ge)
    have HK4 := Aside0.mk (HK3.out.set_ 5 (.slice A1 (acc.length + 1) cp1))
    have HS4 := Aside0.mk (Sr.far (g := g) (k := 5) (u := .slice A1 (acc.length + 1) cp1) HS3.out HG.out)
    have hc4 : Calls Tryz.prog 45 #[.pointer (some ⟨g, 0, none⟩), .int .i64 5, .string ⟨#[44]⟩] (w3.setCell ⟨g, 5, none⟩ (.slice A1 (acc.length + 1) cp1)) (RdP w0 (w3.setCell ⟨g, 5, none⟩ (.slice A1 (acc.length + 1) cp1)) g s (.bool b2) L4 (.slice A1 (acc.length + 1) cp1) tab v7 ord down lim) := pass_p hs HR4.out HB4.out 5 (by omega) wComma HPM.out
    clear HR3 HB3 HK3 HS3 hf5 hd5 d5
    with_reducible refine hc4.mono ?_
    rintro e w5 ⟨rfl, hR, hB1, hK⟩
    have HR5 := Aside0.mk hR
    have HB5 := Aside0.mk hB1
    have HK5 := Aside0.mk (HK4.out.trans hK (.inl rfl))
    have HS5 := Aside0.mk (HS4.out.keep hK HG.out)
    clear hR hB1 hK hc4
    have e1 : colsL (k + 1) acc L2 = if b2 = true then colsL k (acc ++ [c]) L4 else (some (acc ++ [c]), L3) := by rw [colsL, HNM.out]; simp only [HPM.out]
    have HE1 := Aside0.mk e1
    clear e1
    cases b2 with
    | true =>
     go_wp2_with fail
     go_roundg k
     case measure => omega
     case rel => exact ⟨acc ++ [c], L4, _, by simp; omega, HR5.out, HS5.out, HB5.out, HK5.out, by rw [← HE.out, HE1.out]; simp⟩
    | false =>
     have hL4 : L4 = L3 := by
      have := HPM.out
      unfold passL at this
      split at this
      ·
       simp at this
      ·
       exact (Prod.mk.inj this).2.symm
     subst hL4
     go_wp2_with fail
     go_ret
     rw [← HE.out, HE1.out, if_neg Bool.false_ne_true]
     refine ⟨rfl, ⟨_, HR5.out, fun cs h => ?_⟩, HB5.out, HK5.out⟩
     obtain rfl := Option.some.inj h
     exact HS5.out
end Go.Proofs.YthhemephaabblaaGreatDoor.Hq
set_option linter.unusedVariables false
set_option linter.unusedSimpArgs false
namespace Go.Proofs.YthhemephaabblaaGreatDoorW.PrintLast
open Go.RowKit
section
variable {P : Program} {ops : Array Oper} {Q : Exit → Act → World → Prop}
def GoodR (Ri : World → World → Prop) (P : Program) (o : Oper) (a : Act) (w : World) (Gi : World → Value → Prop) : Prop :=
 (∃ v w', (execOp a.eval o).run P w = .ok (.value v) w' ∧ Ri w w' ∧ Gi w' v) ∨
 (∃ f vs, (execOp a.eval o).run P w = .ok (.enter f vs) w ∧ Calls P f vs w (fun e w' => ∃ v, e = .returned v ∧ Ri w w' ∧ Gi w' v))
theorem GoodR.wp {Ri : World → World → Prop} {o : Oper} {a : Act} {w : World} {Gi : World → Value → Prop} {K : Act → World → Prop} (h : GoodR Ri P o a w Gi) (hk : ∀ v w', Ri w w' → Gi w' v → K (a.put o.dst v) w') : Oper.wp P o a w K Q := by
 unfold Oper.wp
 rcases h with ⟨v, w', e, h1, h2⟩ | ⟨f, vs, e, hc⟩
 ·
  rw [e]; exact hk v w' h1 h2
 ·
  rw [e]; exact hc.mono (fun e w' ⟨v, he, h1, h2⟩ => by subst he; exact hk v w' h1 h2)
def StepJ (J : World → Prop) (R : Nat → World → World → Prop) (P : Program) (ops : Array Oper) (a0 : Act) (D : List (Nat × Tmp)) (G : Nat → World → Value → Prop) (i : Nat) : Prop :=
 ∃ o, ops[i]? = some o ∧ ∀ a w, J w → Has a0 a D ((bitsOf (rtab .any ops).2).getD i 0) G w →
  (Region.wanted o (yielded ops a.tmps) = true ∧ GoodR (R i) P o a w (G i)) ∨ (Region.wanted o (yielded ops a.tmps) = false ∧ G i w undef)
theorem stepJ_nil {J : World → Prop} {R : Nat → World → World → Prop} {a0 : Act} {D : List (Nat × Tmp)} {G : Nat → World → Value → Prop} : ∀ i ∈ ([] : List Nat), StepJ J R P ops a0 D G i := fun _ h => by cases h
theorem stepJ_cons {J : World → Prop} {R : Nat → World → World → Prop} {a0 : Act} {D : List (Nat × Tmp)} {G : Nat → World → Value → Prop} {i : Nat} {rs : List Nat} (h : StepJ J R P ops a0 D G i) (hs : ∀ j ∈ rs, StepJ J R P ops a0 D G j) : ∀ j ∈ i :: rs, StepJ J R P ops a0 D G j := fun j hj => by
 rcases List.mem_cons.1 hj with rfl | hj
 ·
  exact h
 ·
  exact hs j hj
theorem exj_tail (J : World → Prop) (R : Nat → World → World → Prop) {id : Nat} {a0 : Act} {w0 : World} (n : Nat) (D : List (Nat × Tmp)) (O : List Nat) (G : Nat → World → Value → Prop) (hm : P.follows .mixedOrders = true) (hok : extOk1 ops D n = true) (hfit : fits a0 D = true) (hO : List.range (n - 1) = O)
  (hJ0 : J w0.drew) (hRJ : ∀ i w w', J w → R i w w' → J w') (hR0 : ∀ i w, R i w w) (hG : ∀ i j w w' v, j ≠ i → G j w v → R i w w' → G j w' v) (hs : ∀ i ∈ O, StepJ J R P ops a0 D G i)
  (hend : ∃ o, ops[n - 1]? = some o ∧ ∀ (vals : Nat → Value) (w' : World), J w' → (∀ i ∈ O, (D.any fun e => e.1 == i) = true → G i w' (vals i)) →
   Region.wanted o (yielded ops (putAll a0 (D.map fun e => (e.2, vals e.1))).tmps) = true ∧ ∀ K : Act → World → Prop, Shut (∀ a' w'', Q .normal a' w'' → K a' w'') → Oper.wp P o (putAll a0 (D.map fun e => (e.2, vals e.1))) w' K Q) :
  (Code.region id ops true).wp P Q a0 w0 := by
 subst hO
 simp only [extOk1, Bool.and_eq_true, beq_iff_eq] at hok
 obtain ⟨⟨⟨⟨⟨⟨⟨hn, hw⟩, hk⟩, hd⟩, hdist⟩, hDlt⟩, hall1⟩, hpos⟩ := hok
 have hn0 : 0 < n := of_decide_eq_true hpos
 have hfall : ∀ j, j < n - 1 → ((bitsOf (rtab .any ops).2).getD (n - 1) 0).testBit j = true := fun j hj => List.all_eq_true.1 hall1 j (List.mem_range.2 hj)
 have hdist' : ∀ (k : Nat) (i : Nat) (t : Tmp), D[k]? = some (i, t) → ((D.take k ++ D.drop (k + 1)).all fun e => !(e.1 == i) && !(e.2 == t)) = true := fun k i t h => by
  have h1 := List.all_eq_true.1 hdist k (List.mem_range.2 (List.getElem?_eq_some_iff.1 h).1)
  rw [h] at h1
  exact h1
 have hfit' : ∀ e ∈ D, Nat.ble (e.2 + 1) a0.tmps.size = true := fun e he => List.all_eq_true.1 hfit e he
 refine start_ (n := n) (S := fun _ => True) (ds := []) (Array.replicate n false) hm hn rfl trivial (fun _ => ?_)
 have hTl : (rtab .any ops).2.length = n := by rw [rtab_length, hn]
 refine inv_ (md := .any) (T := rtab .any ops) (B := bitsOf (rtab .any ops).2) (List.range n)
  (fun b a w => if b (n - 1) = true then Q .normal a w else (J w ∧ ∃ vals : Nat → Value, a = putSel a0 b (D.map fun e => (e.1, e.2, vals e.1)) ∧ ∀ i, b i = true → G i w (vals i))) rfl hw hk ?_ ?_ ?_ ?_
 ·
  rw [hTl, Bool.and_eq_true, beq_iff_eq, beq_iff_eq]
  refine ⟨?_, by simp⟩
  rw [Array.toList_replicate]
  refine List.ext_getElem (by simp [lof]) (fun j h1 h2 => ?_)
  have hj : j < n := by simpa [lof] using h1
  simp [lof, hj]
 ·
  dsimp only
  rw [if_neg Bool.false_ne_true]
  refine ⟨hJ0, fun _ => undef, ?_, fun i h => by cases h⟩
  rw [putSel_begin (fun e he => rfl)]
 ·
  intro i hi b a w hI hbi hon hoff
  have hin : i < n := List.mem_range.1 hi
  by_cases hif : i = n - 1
  ·
   subst hif
   rw [if_neg (by rw [hbi]; decide)] at hI
   obtain ⟨hE, vals, ha, hg⟩ := hI
   obtain ⟨o, ho, hlast⟩ := hend
   have hall' : ∀ j, j < n - 1 → b j = true := fun j hj => hon j (by rw [hfall j hj, Bool.and_true]; exact List.contains_iff_mem.2 (List.mem_range.2 (by omega)))
   have ha' : a = putAll a0 (D.map fun e => (e.2, vals e.1)) := by
    rw [ha, putSel_all (fun x hx => by
     obtain ⟨e, he, rfl⟩ := List.mem_map.1 hx
     exact hall' _ (of_decide_eq_true (List.all_eq_true.1 hDlt e he))), List.map_map]
    rfl
   refine ⟨o, ho, fun K hK => ?_⟩
   obtain ⟨hw1, hfin⟩ := hlast vals w hE (fun j hj _ => hg j (hall' j (List.mem_range.1 hj)))
   rw [← ha'] at hw1 hfin
   rw [if_pos hw1]
   exact hfin K (fun a' w'' hq => hK a' w'' (by dsimp only; rw [if_pos (up_self b _)]; exact hq))
  have hi1 : i ∈ List.range (n - 1) := List.mem_range.2 (by omega)
  have hbf : b (n - 1) = false := hoff (n - 1) (by rw [hfall i (by omega), Bool.and_true]; exact List.contains_iff_mem.2 (List.mem_range.2 (by omega)))
  rw [if_neg (by rw [hbf]; decide)] at hI
  obtain ⟨hE, vals, ha, hg⟩ := hI
  obtain ⟨o, ho, hstep⟩ := hs i hi1
  refine ⟨o, ho, fun K hK => ?_⟩
  have hD := List.all_eq_true.1 hd i hi1
  rw [ho] at hD
  simp only at hD
  have next : ∀ v w', R i w w' → G i w' v → K (a.put o.dst v) w' := by
   intro v w' hE' hv
   refine hK _ _ ?_
   dsimp only
   rw [if_neg (by rw [up_ne (fun e => hif e.symm), hbf]; decide)]
   refine ⟨hRJ i _ _ hE hE', fun j => if j = i then v else vals j, ?_, fun j hj => ?_⟩
   ·
    cases hdst : o.dst with
    | none =>
     rw [hdst] at hD
     have hD' : ∀ e ∈ D, e.1 ≠ i := fun e he => by have := List.all_eq_true.1 hD e he; simpa using this
     have hnoi : ((D.map fun e => (e.1, e.2, (fun j => if j = i then v else vals j) e.1)).all fun e => !(e.1 == i)) = true :=
      List.all_eq_true.2 (fun x hx => by
       obtain ⟨e, he, rfl⟩ := List.mem_map.1 hx
       have := hD' e he
       simp [this])
     rw [putSel_same hnoi]
     show a = _
     rw [ha]
     exact putSel_congr (f := vals) (g := fun j => if j = i then v else vals j) (fun e he => by rw [if_neg (hD' e he)])
    | some t =>
     rw [hdst] at hD
     have hmem : (i, t) ∈ D := List.contains_iff_mem.1 hD
     obtain ⟨k, hkD⟩ := List.getElem?_of_mem hmem
     have hdi := hdist' k i t hkD
     rw [ha]
     refine putSel_upk k (v0 := vals i) hbi (by rw [List.getElem?_map, hkD]; rfl) ?_ ?_
     ·
      refine List.ext_getElem? (fun j => ?_)
      rw [List.getElem?_set, List.getElem?_map, List.getElem?_map]
      by_cases hkj : k = j
      ·
       subst hkj
       have hlt : k < D.length := (List.getElem?_eq_some_iff.1 hkD).1
       rw [if_pos rfl, if_pos (by simpa using hlt), hkD]
       simp
      ·
       rw [if_neg hkj]
       cases hj : D[j]? with
       | none => rfl
       | some e =>
        have he : e.1 ≠ i := by
         have hm1 : e ∈ D.take k ++ D.drop (k + 1) := by
          rw [List.mem_append]
          rcases Nat.lt_or_gt_of_ne hkj with h | h
          ·
           right
           refine List.mem_of_getElem? (i := j - (k + 1)) ?_
           rw [List.getElem?_drop, show k + 1 + (j - (k + 1)) = j by omega, hj]
          ·
           left
           refine List.mem_of_getElem? (i := j) ?_
           rw [List.getElem?_take, if_pos h, hj]
         have := List.all_eq_true.1 hdi e hm1
         simp only [Bool.and_eq_true] at this
         simpa using this.1
        simp [he]
     ·
      refine List.all_eq_true.2 (fun x hx => ?_)
      rw [← List.map_take, ← List.map_drop, ← List.map_append] at hx
      obtain ⟨e, he, rfl⟩ := List.mem_map.1 hx
      exact List.all_eq_true.1 hdi e he
   ·
    by_cases hji : j = i
    ·
     subst hji; simpa using hv
    ·
     rw [up_ne hji] at hj
     simp only [if_neg hji]
     exact hG i j _ _ _ hji (hg j hj) hE'
  have has : Has a0 a D ((bitsOf (rtab .any ops).2).getD i 0) G w := by
   refine ⟨fun j t hjt hbit => ?_, fun t ht => ?_⟩
   ·
    have hmem : (j, t) ∈ D := List.contains_iff_mem.1 hjt
    have hjn : j < n := by
     by_cases hlt : j < n
     ·
      exact hlt
     ·
      exfalso
      have hTi : (rtab .any ops).2[i]? = some ((rtab .any ops).2[i]'(by rw [hTl]; exact hin)) := List.getElem?_eq_getElem _
      have key : ∀ (m d : Nat), d ≤ m → d < n → ∀ q, ((bitsOf (rtab .any ops).2).getD d 0).testBit q = true → q < n := by
       intro m
       induction m with
       | zero =>
        intro d hdm hdn q hq
        obtain rfl : d = 0 := by omega
        have hr : (rtab .any ops).2[0]? = some ((rtab .any ops).2[0]'(by rw [hTl]; exact hdn)) := List.getElem?_eq_getElem _
        have h1 := List.all_eq_true.1 hw 0 (List.mem_range.2 (by rw [hTl]; exact hdn))
        rw [hr] at h1
        simp only [beq_iff_eq] at h1
        have h2 : (upM (bitsOf (rtab .any ops).2) 0 ((rtab .any ops).2[0]'(by rw [hTl]; exact hdn)).1).testBit q = true := by rw [← h1, Nat.testBit_or, hq, Bool.true_or]
        obtain ⟨p, hp, h3⟩ := upM_bit h2
        have := (baseOk_row hk hr).2 p hp
        omega
       | succ m ih =>
        intro d hdm hdn q hq
        have hr : (rtab .any ops).2[d]? = some ((rtab .any ops).2[d]'(by rw [hTl]; exact hdn)) := List.getElem?_eq_getElem _
        have h1 := List.all_eq_true.1 hw d (List.mem_range.2 (by rw [hTl]; exact hdn))
        rw [hr] at h1
        simp only [beq_iff_eq] at h1
        have h2 : (upM (bitsOf (rtab .any ops).2) d ((rtab .any ops).2[d]'(by rw [hTl]; exact hdn)).1).testBit q = true := by rw [← h1, Nat.testBit_or, hq, Bool.true_or]
        obtain ⟨p, hp, h3⟩ := upM_bit h2
        have h4 := (baseOk_row hk hr).2 p hp
        rcases h3 with rfl | ⟨h5, h6⟩
        ·
         omega
        ·
         exact ih p (by omega) (by omega) q h6
      exact hlt (key i i (Nat.le_refl _) hin j hbit)
    have hbj : b j = true := hon j (by rw [hbit, Bool.and_true]; exact List.contains_iff_mem.2 (List.mem_range.2 hjn))
    obtain ⟨k, hkD⟩ := List.getElem?_of_mem hmem
    refine ⟨vals j, ?_, hg j hbj⟩
    rw [ha]
    refine putSel_on (e := (j, t, vals j)) k (by rw [List.getElem?_map, hkD]; rfl) ?_ hbj (hfit' _ hmem)
    refine List.all_eq_true.2 (fun x hx => ?_)
    rw [← List.map_drop] at hx
    obtain ⟨e, he, rfl⟩ := List.mem_map.1 hx
    have := List.all_eq_true.1 (hdist' k j t hkD) e (List.mem_append_right _ he)
    simp only [Bool.and_eq_true] at this
    exact this.2
   ·
    rw [ha]
    refine putSel_off (List.all_eq_true.2 (fun x hx => ?_))
    obtain ⟨e, he, rfl⟩ := List.mem_map.1 hx
    exact List.all_eq_true.1 ht e he
  rcases hstep a w hE has with ⟨hw1, hgood⟩ | ⟨hw0, hu⟩
  ·
   rw [if_pos hw1]
   exact hgood.wp next
  ·
   rw [if_neg (by rw [hw0]; decide)]
   exact next undef w (hR0 i w) hu
 ·
  intro b a w hall hI
  rw [if_pos (hall (n - 1) (List.contains_iff_mem.2 (List.mem_range.2 (by omega))))] at hI
  exact hI
theorem goodJ_of {Ri : World → World → Prop} {o : Oper} {a : Act} {w : World} {Gi : World → Value → Prop} (hR : Ri = Ext) (h : Good P o a w Gi) : GoodR Ri P o a w Gi := by subst hR; exact h
theorem goodJ_new {Ri : World → World → Prop} {o : Oper} {a : Act} {w : World} {Gi : World → Value → Prop} (v : Value) (w' : World) (hr : (execOp a.eval o).run P w = .ok (.value v) w') (hE : Ri w w') (hg : Gi w' v) : GoodR Ri P o a w Gi := Or.inl ⟨v, w', hr, hE, hg⟩
end
end Go.Proofs.YthhemephaabblaaGreatDoorW.PrintLast
namespace Go.Proofs.YthhemephaabblaaGreatDoor.Hq
open Go.RowKit Go.Proofs.YthhemephaabblaaGreatDoorW.PrintWords Go.Proofs.YthhemephaabblaaGreatDoorW.PrintLast Go.Proofs.YthhemephaabblaaGreatDoorW.PrintMore Go.Proofs.YthhemephaabblaaGreatDoor Go.Proofs.YthhemephaabblaaGreatDoor.Q Go.Proofs.YthhemephaabblaaGreatDoor.R
set_option linter.unusedVariables false
set_option linter.unusedSimpArgs false
theorem own_run_app {P : Program} {base : Nat} {W : World} (t ty e : TypeId) (i : TypeInfo) (z : Value) (size bytes : Nat) (ht : P.underlying t = some (.slice e)) (hi : P.info? e = some i) (hz : i.zero = some z) (hsize : i.size = size) (hby : i.bytes = bytes) (hzs : z.cells.size = size) (hsz : 0 < size) (hb0 : 0 < bytes)
  {v : Value} {n : Nat} {L : List Value} (hown : W.ownsRow base e size v n L) (a : Addr) (m c : Nat) (news : List Value) (hl : news.length = m * size) (hnews : ∀ j u, news[j]? = some u → W.cell? (a.add j) = some u) (h1 : ∀ u ∈ news, u.oneCell' = true)
  (hbytes : (n + m) * bytes ≤ 140737488355328) (hbase : base ≤ W.heap.size) :
  ∃ v1 w1, (Builtin.append_ #[t, t] ty #[v, .slice (some a) m c]).run P W = .ok v1 w1 ∧ w1.ownsRow base e size v1 (n + m) (L ++ news) ∧ W.grownBy w1 v.ownBlock ∧ w1.ownsRow base e size v n L := by
 have hlen : n + m ≤ 140737488355328 := Nat.le_trans (Nat.le_mul_of_pos_right _ hb0) hbytes
 obtain ⟨v1, w1, hr, hown1, hg, _, _⟩ := run_append_own_at (P := P) W base t ty e i z size bytes ht hi hz hsize hby hzs hsz v n L hown a m c news hl hnews h1 (by simp only [maxLen]; omega) hbytes hbase
 refine ⟨v1, w1, hr, hown1, hg, ?_⟩
 have hown0 := hown
 rcases hown.2 with ⟨rfl, h0⟩ | ⟨g, cap, cur, rfl, hb, hh, hnc, hcm, hcs, htk⟩
 ·
  exact ⟨hown.1, .inl ⟨rfl, h0⟩⟩
 ·
  have hcl : cur.toList.length = cap * size := by simp [hcs]
  have hns : n * size ≤ cap * size := Nat.mul_le_mul_right _ hnc
  by_cases hroom : n + m ≤ cap
  ·
   have hmul : (n + m) * size ≤ cap * size := Nat.mul_le_mul_right _ hroom
   rw [Nat.add_mul] at hmul
   have hr2 := run_append_room (P := P) W t ty e i ht hi g n cap cur hh a m c news (by rw [hl, hsize]) hnews h1 hroom (by rw [hsize, hl, hcs]; omega)
   rw [hr2] at hr
   injection hr with _ hw
   subst hw
   refine ⟨hown.1, .inr ⟨g, cap, _, rfl, hb, setRow_heap _ _ _ _ _ _ hh, hnc, hcm, ?_, ?_⟩⟩
   ·
    rw [hsize, List.size_toArray, List.length_append, List.length_append, List.length_take, List.length_drop, hcl, hl]
    omega
   ·
    rw [hsize, List.append_assoc, List.take_append_of_le_length (by rw [List.length_take, hcl]; omega), List.take_take, Nat.min_self]
    exact htk
  ·
   have hL : L.length = n * i.size := by rw [hsize]; exact hown.1
   have hr2 := run_append_grow (P := P) W t ty e i z ht hi hz ⟨g, 0, none⟩ n cap L hL (fun j u hu => hown0.cells (g := g) rfl j u hu) a m c news (by rw [hl, hsize]) hnews (by omega) (by omega) (growslice_fits (by omega) (by rw [hby]; omega))
   rw [hr2] at hr
   injection hr with _ hw
   subst hw
   exact own_ext hown0 (((Ext.refl W).drew).alloc _)
def tcells (t : Tst) : List Value := [.string (strB t.col), .int .i64 t.op, .string (strB t.val)]
def Tr (B : Nat) (w : World) (v : Value) (ts : List Tst) : Prop := w.ownsRow B 37 3 v ts.length (ts.flatMap tcells)
theorem info37 : (Tryz.prog.info? 37).map (fun i => (i.zero, i.size, i.bytes)) = some (some (.agg #[.string ⟨#[]⟩, .int .i64 0, .string ⟨#[]⟩]), 3, 40) := by kernel_rfl
theorem Tr.keep {B g : Nat} {w w' : World} {v : Value} {ts : List Tst} (h : Tr B w v ts) (hK : KeepBut w w' g none) (hg : g < B) : Tr B w' v ts := own_keep h hK hg
theorem Tr.far {B g k : Nat} {w : World} {v u : Value} {ts : List Tst} (h : Tr B w v ts) (hg : g < B) : Tr B (w.setCell ⟨g, k, none⟩ u) v ts := by
 refine h.keep (g := g) ⟨by simp, fun i hi hne _ => ?_⟩ hg
 exact Below.heap_setCell _ _ _ _ (by simpa using hne)
theorem Tr.ext {B : Nat} {w w' : World} {v : Value} {ts : List Tst} (h : Tr B w v ts) (hE : Ext w w') : Tr B w' v ts := own_ext h hE
theorem tr_run_app {B b c : Nat} {W : World} (ty : TypeId) {v : Value} {ts : List Tst} {t : Tst} {fr : Nat × Nat} (hO : Tr B W v ts) (hb : W.heap[b]? = some (.cells #[.string (strB t.col), .int .i64 t.op, .string (strB t.val)] 37 fr)) (hB : B ≤ W.heap.size) (hl : ts.length ≤ 1000000000) :
  ∃ v1 w1, (Builtin.append_ #[23, 23] ty #[v, .slice (some ⟨b, 0, none⟩) 1 c]).run Tryz.prog W = .ok v1 w1 ∧ Tr B w1 v1 (ts ++ [t]) ∧ W.grownBy w1 v.ownBlock ∧ Tr B w1 v ts := by
 obtain ⟨i0, hi, hzz⟩ := Option.map_eq_some_iff.1 info37
 simp only [Prod.mk.injEq] at hzz
 obtain ⟨hz0, hz1, hz2⟩ := hzz
 obtain ⟨v1, w1, hr, hown, hg, hold⟩ := own_run_app (P := Tryz.prog) 23 ty 37 i0 _ 3 40 Tryz.underlying23 hi hz0 hz1 hz2 rfl (by decide) (by decide) hO ⟨b, 0, none⟩ 1 c (tcells t) rfl (World.news_of_block hb) (by intro u hu; simp only [tcells, List.mem_cons, List.not_mem_nil, or_false] at hu; rcases hu with rfl | rfl | rfl <;> rfl) (by omega) hB
 refine ⟨v1, w1, hr, ?_, hg, hold⟩
 unfold Tr
 rw [List.length_append, List.flatMap_append]
 exact (by simpa using hown)
end Go.Proofs.YthhemephaabblaaGreatDoor.Hq
